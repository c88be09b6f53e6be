
import Derived.Test.YtcagjdngannneaaVl
import Derived.ChangeArms
import Derived.DataReads
import Derived.WideShapes
set_option linter.unusedVariables false
set_option linter.unusedSimpArgs false
namespace Go.Proofs.Ytcagjdngannneaa.V
open Go
def InK (k : IntKind) (x : Int) : Prop := k.min ≤ x ∧ x ≤ k.max
theorem InK.of {k : IntKind} {x : Int} (h : (Lit.int k x).wf = true) : InK k x := by
  simpa [Lit.wf, InK] using h
def okF (x : Nat) : Prop := cn x = x ∧ x < 18446744073709551616
structure Opn (P : Program) (t : TypeId) {α : Type} (K : Kd α) (ok : α → Prop) : Prop where
  op : ∀ {H : Type} {enc : TypeId × Value → H} {w : World} {base : Nat} {spare : Nat → Bool} {held : Bool} {fuel : Nat} {cs : List Value} {y : DataW H × List MemPlace}, DataW.trod enc P w base spare held fuel t cs = some y → ∃ x, K.rd w cs x (fun _ => True) ∧ ok x
section
variable {P : Program} {t : TypeId}
theorem tr_int {k : IntKind} (hu : P.underlying t = some (.int k)) : Opn P t (Kd.int k) (InK k) := ⟨fun h => by
  obtain ⟨n, rfl, _, hw⟩ := DataW.trod_int hu h
  exact ⟨n, rfl, InK.of hw⟩⟩
theorem tr_bool (hu : P.underlying t = some .bool) : Opn P t Kd.bool (fun _ => True) := ⟨fun h => by
  obtain ⟨b, rfl, _⟩ := DataW.trod_bool hu h
  exact ⟨b, rfl, trivial⟩⟩
theorem tr_flt (hu : P.underlying t = some (.float .f64)) : Opn P t Kd.flt okF := ⟨fun {_ _ _ _ _ _ fuel cs y} h => by
  cases fuel with
  | zero => simp [DataW.trod] at h
  | succ n =>
    unfold DataW.trod at h
    rw [hu] at h
    match cs, h with
    | [.float k' b], h =>
      simp only [] at h
      split at h
      · rename_i hk
        obtain ⟨rfl, hw⟩ := hk
        refine ⟨cn b, ⟨_, rfl, b, rfl, rfl⟩, cn_cn b, ?_⟩
        have hb : b < 18446744073709551616 := by simpa [Lit.wf] using hw
        unfold cn
        cases isN b with
        | true => show nanB < _; decide
        | false => exact hb
      · cases h⟩
theorem tr_sl {e e' : TypeId} {α : Type} {K : Kd α} {ok : α → Prop} (hu : P.underlying t = some (.slice e)) (hn : P.cellsOf e = K.n) (he : Opn P e K ok) : Opn P t (Kd.sl e' K) (fun xs => xs.length ≤ maxLen ∧ ∀ x ∈ xs, ok x) := ⟨fun {_ enc w base spare held _ _ _} h => by
  rcases DataW.trod_slice hu h with ⟨rfl, _⟩ | ⟨a, len, cap, elems, rest, n, _, rfl, _, hb, hlc, hcm, hel, helem, _⟩
  · exact ⟨[], ⟨_, rfl, none, 0, [], rfl, Nat.le_refl _, rfl, fun h => absurd rfl h⟩, by simp, by simp⟩
  · have key : ∀ m, m ≤ len → ∃ (xs : List α) (cells : List Value), xs.length = m ∧ ElsR K w (fun _ => True) xs cells ∧ (∀ x ∈ xs, ok x) ∧ ∀ j u, cells[j]? = some u → w.cell? (a.add j) = some u := by
      intro m
      induction m with
      | zero => intro _; exact ⟨[], [], rfl, rfl, by simp, by simp⟩
      | succ m ih =>
        intro hm
        obtain ⟨xs, cells, hl, hE, hok, hc⟩ := ih (by omega)
        have hi := helem m (by omega)
        have hlt : m < elems.length := by omega
        rw [List.getElem?_eq_getElem hlt] at hi
        obtain ⟨cs, hcs, ht⟩ := Option.bind_eq_some_iff.1 hi
        obtain ⟨x, hx, hxo⟩ := he.op ht
        unfold World.cells? at hcs
        split at hcs
        · rename_i hbl
          have hlen := mapM_some_length hcs
          have hget := mapM_some_get hcs
          simp only [List.length_range] at hlen
          have hcl : cells.length = m * K.n := by rw [hE.len, hl]
          refine ⟨xs ++ [x], cells ++ cs, by simp [hl], hE.append ⟨cs, [], by simp, hx, rfl⟩, ?_, fun j u hj => ?_⟩
          · intro z hz
            rcases List.mem_append.1 hz with hz | hz
            · exact hok z hz
            · simp at hz; subst hz; exact hxo
          · rw [List.getElem?_append] at hj
            split at hj
            · exact hc j u hj
            · rename_i hjl
              have hj2 : j - cells.length < P.cellsOf e := by
                have := (List.getElem?_eq_some_iff.1 hj).1
                omega
              have := hget (j - cells.length) (j - cells.length) (by simp [hj2])
              rw [hj, Addr.add_add', hn, ← hcl] at this
              rw [← this]
              congr 2
              omega
        · cases hcs
    obtain ⟨xs, cells, hl, hE, hok, hc⟩ := key len (Nat.le_refl _)
    refine ⟨xs, ⟨_, rfl, some a, cap, cells, by rw [hl], by omega, hE, fun _ => ⟨a, rfl, trivial, hc⟩⟩, by rw [hl]; exact Nat.le_trans hlc hcm, hok⟩⟩
structure OpF (P : Program) (l : List Field) (off : Nat) {α : Type} (K : Kd α) (ok : α → Prop) : Prop where
  op : ∀ {H : Type} {enc : TypeId × Value → H} {w : World} {base : Nat} {spare : Nat → Bool} {held : Bool} {fuel : Nat} {cs : List Value}, cs.length = off + K.n →
    (∀ f ∈ l, ∃ y, DataW.trod enc P w base spare held fuel f.type ((cs.drop f.offset).take (P.cellsOf f.type)) = some y) → ∃ x, K.rd w (cs.drop off) x (fun _ => True) ∧ ok x
theorem tf_last {f : Field} {off : Nat} {α : Type} {K : Kd α} {ok : α → Prop} (ho : f.offset = off) (hn : P.cellsOf f.type = K.n) (h : Opn P f.type K ok) : OpF P [f] off K ok := ⟨fun hl hf => by
  obtain ⟨y, hy⟩ := hf f (by simp)
  rw [ho, hn, List.take_of_length_le (by simp; omega)] at hy
  exact h.op hy⟩
theorem tf_cons {f : Field} {l : List Field} {off : Nat} {α β : Type} {A : Kd α} {B : Kd β} {ok1 : α → Prop} {ok2 : β → Prop} (ho : f.offset = off) (hn : P.cellsOf f.type = A.n) (h : Opn P f.type A ok1) (h2 : OpF P l (off + A.n) B ok2) :
    OpF P (f :: l) off (Kd.pair A B) (fun x => ok1 x.1 ∧ ok2 x.2) := ⟨fun {_ _ w _ _ _ _ cs} hl hf => by
  have hl' : cs.length = off + (A.n + B.n) := hl
  obtain ⟨y, hy⟩ := hf f (by simp)
  rw [ho, hn] at hy
  obtain ⟨x1, hx1, hok1⟩ := h.op hy
  obtain ⟨x2, hx2, hok2⟩ := h2.op (by omega) fun g hg => hf g (List.mem_cons_of_mem _ hg)
  refine ⟨(x1, x2), ⟨(cs.drop off).take A.n, cs.drop (off + A.n), ?_, hx1, hx2⟩, hok1, hok2⟩
  rw [← List.drop_drop, List.take_append_drop]⟩
theorem tr_st {fs : Array Field} {α : Type} {K : Kd α} {ok : α → Prop} (hu : P.underlying t = some (.struct fs)) (hn : P.cellsOf t = K.n) (h : OpF P fs.toList 0 K ok) : Opn P t K ok := ⟨fun {_ _ _ _ _ _ _ cs _} hy => by
  obtain ⟨xs, n, _, _, hl, hx, hf⟩ := DataW.trod_struct hu hy
  have := h.op (cs := cs) (by rw [hl, hn]; simp) fun f hm => by
    obtain ⟨i, hi, rfl⟩ := List.getElem_of_mem hm
    simp only [Array.length_toList, Array.getElem_toList] at hi ⊢
    refine ⟨xs[i]'(by omega), ?_⟩
    rw [hf i fs[i] (Array.getElem?_eq_getElem hi), List.getElem?_eq_getElem (by omega)]
  simpa using this⟩
theorem tr_iso {α β : Type} {K : Kd α} {ok : α → Prop} (g : β → α) (mk : α → β) (hg : ∀ x, g (mk x) = x) (h : Opn P t K ok) : Opn P t (Kd.iso K g) (fun b => ok (g b)) := ⟨fun hy => by
  obtain ⟨x, hx, hok⟩ := h.op hy
  refine ⟨mk x, ?_, by show ok (g (mk x)); rw [hg]; exact hok⟩
  show K.rd _ _ (g (mk x)) _
  rw [hg]; exact hx⟩
end
end Go.Proofs.Ytcagjdngannneaa.V
