import Derived.Test.YtkkpplnhcpjmgaaGreatG1
import Derived.ChangeArms
import Derived.DataReads
import Derived.WideShapes
import Derived.Laws.StructEq
import Derived.Laws.FloatArith
import Derived.MapKept
import Derived.Carry
import Derived.RangeFuncRecord
set_option linter.unusedVariables false
set_option linter.unusedSimpArgs false
namespace Go.Proofs.YtkkpplnhcpjmgaaGreat.V
open Go
def InK (k : IntKind) (x : Int) : Prop := k.min ≤ x ∧ x ≤ k.max
theorem InK.of {k : IntKind} {x : Int} (h : (Lit.int k x).wf = true) : InK k x := by
 simpa [Lit.wf, InK] using h
def okF (x : Nat) : Prop := cn x = x ∧ x < 18446744073709551616
structure Opn (P : Program) (t : TypeId) {α : Type} (K : Kd α) (ok : α → Prop) : Prop where
 op : ∀ {H : Type} {enc : TypeId × Value → H} {w : World} {base : Nat} {spare : Nat → Bool} {held : Bool} {fuel : Nat} {cs : List Value} {y : DataW H × List MemPlace}, DataW.trod enc P w base spare held fuel t cs = some y → ∃ x, K.rd w cs x (fun _ => True) ∧ ok x
section
variable {P : Program} {t : TypeId}
theorem tr_int {k : IntKind} (hu : P.underlying t = some (.int k)) : Opn P t (Kd.int k) (InK k) := ⟨fun h => by
 obtain ⟨n, rfl, _, hw⟩ := DataW.trod_int hu h
 exact ⟨n, rfl, InK.of hw⟩⟩
theorem tr_sl {e e' : TypeId} {α : Type} {K : Kd α} {ok : α → Prop} (hu : P.underlying t = some (.slice e)) (hn : P.cellsOf e = K.n) (he : Opn P e K ok) : Opn P t (Kd.sl e' K) (fun xs => xs.length ≤ maxLen ∧ ∀ x ∈ xs, ok x) := ⟨fun {_ enc w base spare held _ _ _} h => by
  rcases DataW.trod_slice hu h with ⟨rfl, _⟩ | ⟨a, len, cap, elems, rest, n, _, rfl, _, hb, hlc, hcm, hel, helem, _⟩
  · exact ⟨[], ⟨_, rfl, none, 0, [], rfl, Nat.le_refl _, rfl, fun h => absurd rfl h⟩, by simp, by simp⟩
  · have key : ∀ m, m ≤ len → ∃ (xs : List α) (cells : List Value), xs.length = m ∧ ElsR K w (fun _ => True) xs cells ∧ (∀ x ∈ xs, ok x) ∧ ∀ j u, cells[j]? = some u → w.cell? (a.add j) = some u := by
      intro m
      induction m with
      | zero => intro _; exact ⟨[], [], rfl, rfl, by simp, by simp⟩
      | succ m ih =>
        intro hm
        obtain ⟨xs, cells, hl, hE, hok, hc⟩ := ih (by omega)
        have hi := helem m (by omega)
        have hlt : m < elems.length := by omega
        rw [List.getElem?_eq_getElem hlt] at hi
        obtain ⟨cs, hcs, ht⟩ := Option.bind_eq_some_iff.1 hi
        obtain ⟨x, hx, hxo⟩ := he.op ht
        unfold World.cells? at hcs
        split at hcs
        · rename_i hbl
          have hlen := mapM_some_length hcs
          have hget := mapM_some_get hcs
          simp only [List.length_range] at hlen
          have hcl : cells.length = m * K.n := by rw [hE.len, hl]
          refine ⟨xs ++ [x], cells ++ cs, by simp [hl], hE.append ⟨cs, [], by simp, hx, rfl⟩, ?_, fun j u hj => ?_⟩
          · intro z hz
            rcases List.mem_append.1 hz with hz | hz
            · exact hok z hz
            · simp at hz; subst hz; exact hxo
          · rw [List.getElem?_append] at hj
            split at hj
            · exact hc j u hj
            · rename_i hjl
              have hj2 : j - cells.length < P.cellsOf e := by
                have := (List.getElem?_eq_some_iff.1 hj).1
                omega
              have := hget (j - cells.length) (j - cells.length) (by simp [hj2])
              rw [hj, Addr.add_add', hn, ← hcl] at this
              rw [← this]
              congr 2
              omega
        · cases hcs
    obtain ⟨xs, cells, hl, hE, hok, hc⟩ := key len (Nat.le_refl _)
    refine ⟨xs, ⟨_, rfl, some a, cap, cells, by rw [hl], by omega, hE, fun _ => ⟨a, rfl, trivial, hc⟩⟩, by rw [hl]; exact Nat.le_trans hlc hcm, hok⟩⟩
structure OpF (P : Program) (l : List Field) (off : Nat) {α : Type} (K : Kd α) (ok : α → Prop) : Prop where
 op : ∀ {H : Type} {enc : TypeId × Value → H} {w : World} {base : Nat} {spare : Nat → Bool} {held : Bool} {fuel : Nat} {cs : List Value}, cs.length = off + K.n →
  (∀ f ∈ l, ∃ y, DataW.trod enc P w base spare held fuel f.type ((cs.drop f.offset).take (P.cellsOf f.type)) = some y) → ∃ x, K.rd w (cs.drop off) x (fun _ => True) ∧ ok x
theorem tf_last {f : Field} {off : Nat} {α : Type} {K : Kd α} {ok : α → Prop} (ho : f.offset = off) (hn : P.cellsOf f.type = K.n) (h : Opn P f.type K ok) : OpF P [f] off K ok := ⟨fun hl hf => by
 obtain ⟨y, hy⟩ := hf f (by simp)
 rw [ho, hn, List.take_of_length_le (by simp; omega)] at hy
 exact h.op hy⟩
theorem tf_cons {f : Field} {l : List Field} {off : Nat} {α β : Type} {A : Kd α} {B : Kd β} {ok1 : α → Prop} {ok2 : β → Prop} (ho : f.offset = off) (hn : P.cellsOf f.type = A.n) (h : Opn P f.type A ok1) (h2 : OpF P l (off + A.n) B ok2) :
    OpF P (f :: l) off (Kd.pair A B) (fun x => ok1 x.1 ∧ ok2 x.2) := ⟨fun {_ _ w _ _ _ _ cs} hl hf => by
  have hl' : cs.length = off + (A.n + B.n) := hl
  obtain ⟨y, hy⟩ := hf f (by simp)
  rw [ho, hn] at hy
  obtain ⟨x1, hx1, hok1⟩ := h.op hy
  obtain ⟨x2, hx2, hok2⟩ := h2.op (by omega) fun g hg => hf g (List.mem_cons_of_mem _ hg)
  refine ⟨(x1, x2), ⟨(cs.drop off).take A.n, cs.drop (off + A.n), ?_, hx1, hx2⟩, hok1, hok2⟩
  rw [← List.drop_drop, List.take_append_drop]⟩
theorem tr_st {fs : Array Field} {α : Type} {K : Kd α} {ok : α → Prop} (hu : P.underlying t = some (.struct fs)) (hn : P.cellsOf t = K.n) (h : OpF P fs.toList 0 K ok) : Opn P t K ok := ⟨fun {_ _ _ _ _ _ _ cs _} hy => by
 obtain ⟨xs, n, _, _, hl, hx, hf⟩ := DataW.trod_struct hu hy
 have := h.op (cs := cs) (by rw [hl, hn]; simp) fun f hm => by
  obtain ⟨i, hi, rfl⟩ := List.getElem_of_mem hm
  simp only [Array.length_toList, Array.getElem_toList] at hi ⊢
  refine ⟨xs[i]'(by omega), ?_⟩
  rw [hf i fs[i] (Array.getElem?_eq_getElem hi), List.getElem?_eq_getElem (by omega)]
 simpa using this⟩
theorem tr_iso {α β : Type} {K : Kd α} {ok : α → Prop} (g : β → α) (mk : α → β) (hg : ∀ x, g (mk x) = x) (h : Opn P t K ok) : Opn P t (Kd.iso K g) (fun b => ok (g b)) := ⟨fun hy => by
 obtain ⟨x, hx, hok⟩ := h.op hy
 refine ⟨mk x, ?_, by show ok (g (mk x)); rw [hg]; exact hok⟩
 show K.rd _ _ (g (mk x)) _
 rw [hg]; exact hx⟩
end
theorem top_rd {α : Type} {K : Kd α} {w : World} {cs : List Value} {x : α} (h : K.rd w cs x (fun _ => True)) : RdF K ⟨w, fun _ => 0⟩ cs x [0] := K.rd_mono h fun _ _ _ => rfl
theorem rd_top {α : Type} {K : Kd α} {w : World} {cs : List Value} {x : α} {C : List Nat} (h : RdF K ⟨w, fun _ => 0⟩ cs x C) : K.rd w cs x (fun _ => True) := K.rd_mono h fun _ _ _ => trivial
end Go.Proofs.YtkkpplnhcpjmgaaGreat.V
set_option linter.unusedVariables false
set_option linter.unusedSimpArgs false
namespace Go.Proofs.YtkkpplnhcpjmgaaGreat.V
open Go
def BlW (w : World) (b : Nat) (t : TypeId) (cs : List Value) : Prop := w.heap[b]? = some (.cells cs.toArray t (0, 0))
def BlN (w w' : World) (b : Nat) (t : TypeId) (cs : List Value) : Prop := w.heap.size ≤ b ∧ BlW w' b t cs
theorem Z1.bl {F : Nat → Prop} {os : List Nat} {s : St} (z : Z1 F os s) {b : Nat} {t : TypeId} {cs : List Value} (h : BlW s.w b t cs) (hb : b ∈ os) : BlF s b t cs 2 := ⟨h, (z.o b).1 hb⟩
theorem BlF.fo {s0 s : St} {b c : Nat} {t : TypeId} {cs : List Value} (h : BlF s b t cs c) (p : Kp s0 s) (hc : Nat.ble 40 c = true) (hz : ∀ b, s0.g b < 40) : BlN s0.w s.w b t cs := by
 refine ⟨?_, h.1⟩
 by_cases hl : b < s0.w.heap.size
 · have := p.col b hl (hz b)
   have h3 := hz b
   have := Nat.le_of_ble_eq_true hc
   have := h.2
   omega
 · omega
theorem BlF.w {s : St} {b c : Nat} {t : TypeId} {cs : List Value} (h : BlF s b t cs c) : BlW s.w b t cs := h.1
theorem BlN.c {s s' : St} {b c : Nat} {t : TypeId} {cs : List Value} (h : BlN s.w s'.w b t cs) (n : Nw s s' c) : BlF s' b t cs c := ⟨h.2, n.new b h.1⟩
def FRF {α : Type} (K : Kd α) (F : Nat → Prop) (w w' : World) (cs : List Value) (x : α) : Prop := K.rd w' cs x (fun b => F b ∧ b < w.heap.size)
theorem FRF.c {α : Type} {K : Kd α} {s s' : St} {cs : List Value} {x : α} {c : Nat} {C : List Nat} (h : FRF K (fun b => memb C (s.g b) = true) s.w s'.w cs x) (n : Nw s s' c) : RdF K s' cs x C :=
 K.rd_mono h fun b hb _ => by rw [n.old b hb.2]; exact hb.1
end Go.Proofs.YtkkpplnhcpjmgaaGreat.V
set_option linter.unusedVariables false
set_option linter.unusedSimpArgs false
namespace Go.Proofs.YtkkpplnhcpjmgaaGreat.V
open Go
section
variable {P : Program} {d : Nat} {xs ys : Array Value} {f : Field} {fs : List Field} {a b : Value} {r s : Bool} {w : World}
end
section
variable {P : Program} {f : Who} {N : Nat} {O ρ : Type} {m : Option O} {G : O → Option ρ} {R : ρ → Ending → World → Prop} {e : Env} {s : St} {k : List Item} {ops : Array Oper} {i d : Nat} {rest : List Nat} {o : Oper}
end
end Go.Proofs.YtkkpplnhcpjmgaaGreat.V
set_option linter.unusedVariables false
set_option linter.unusedSimpArgs false
namespace Go.Proofs.YtkkpplnhcpjmgaaGreat.V
open Go
def CallV (P : Program) (fv : Value) (args : List Value) (w : World) (R : Ending → World → Prop) : Prop :=
 ∃ g fn c fs cs, fv = .func (.func g) (List.toArray fs) (List.toArray cs) ∧ P.funcs[g]? = some fn ∧ fn.body = some c ∧ (fn.name == "runtime.NumGoroutine") = false ∧ Calls P g (List.toArray (fs ++ (args ++ cs))) w R
theorem Ky.trans {w w' w'' : World} (h : Ky [] w w') (h2 : Ky [] w' w'') : Ky [] w w'' :=
 ⟨h2.os.trans h.os, h2.tape.trans h.tape, h2.output.trans h.output, Nat.le_trans h.size h2.size, fun b hb _ => (h2.same b (Nat.lt_of_lt_of_le hb h.size) (by simp)).trans (h.same b hb (by simp))⟩
theorem RdF.top {α : Type} {K : Kd α} {s : St} {cs : List Value} {x : α} {C : List Nat} (h : RdF K s cs x C) : K.rd s.w cs x (fun _ => True) := K.rd_mono h fun _ _ _ => trivial
theorem RdF.ky {α : Type} {K : Kd α} {s : St} {cs : List Value} {x : α} {C : List Nat} {w' : World} (h : RdF K s cs x C) (k : Ky [] s.w w') : K.rd w' cs x (fun _ => True) :=
 K.rd_mono (K.rd_frame (K.rd_mono h fun b hb hl => (⟨hl, hb⟩ : b < s.w.heap.size ∧ memb C (s.g b) = true)) fun b hb _ => k.same b hb.1 (by simp)) fun _ _ _ => trivial
theorem BlF.ky {s : St} {b c : Nat} {t : TypeId} {cs : List Value} {w' : World} (h : BlF s b t cs c) (k : Ky [] s.w w') : BlW w' b t cs := by
 have hl : b < s.w.heap.size := (Array.getElem?_eq_some_iff.1 h.1).1
 unfold BlW; rw [k.same b hl (by simp)]; exact h.1
theorem Z0.b0 {F : Nat → Prop} {s : St} (z : Z0 F s) {b : Nat} {t : TypeId} {cs : List Value} (h : BlW s.w b t cs) (hF : F b) : BlF s b t cs 0 := ⟨h, (z.z b).1 hF⟩
theorem Z1.b0 {F : Nat → Prop} {os : List Nat} {s : St} (z : Z1 F os s) {b : Nat} {t : TypeId} {cs : List Value} (h : BlW s.w b t cs) (hF : F b) : BlF s b t cs 0 := ⟨h, (z.z b).1 hF⟩
section
variable {P : Program} {f : Who} {N : Nat} {O ρ : Type} {m : Option O} {G : O → Option ρ} {R : ρ → Ending → World → Prop} {e : Env} {w : World} {k : List Item} {ops : Array Oper}
theorem clv {α : Type} {x : Option α} {km : α → Option O} {i d : Nat} {rest : List Nat} {o : Oper} {y : Operand} {fv : Value} {args : Array Operand} {ts : Array TypeId} {vs : List Value} {Q : α → Value → World → Prop}
    (ho : ops[i]? = some o) (hd : o.dst = some d) (hN : Nat.blt d N = true) (hw : Region.wanted o (yv e ops) = true)
    (hop : o.op = .call { callee := .value y, args := args, argTypes := ts }) (hy : ev e y = fv) (hargs : args.toList.map (ev e) = vs)
    (hc : ∀ a, x = some a → CallV P fv vs w fun en w' => ∃ v, en = .returned v ∧ Q a v w')
    (h : ∀ a v w', x = some a → Q a v w' → TM P f N (km a) G R (.inRegion ops rest :: k) (upd e d v) w') : TM P f N (x.bind km) G R (.inRegion ops (i :: rest) :: k) e w := by
  intro oo hoo r hr
  obtain ⟨a, ha, hkm⟩ := Option.bind_eq_some_iff.1 hoo
  obtain ⟨g, fn, c, fs, cs, rfl', hg, hb, hn, hcalls⟩ := hc a ha
  have hn' : ¬ fn.name = "runtime.NumGoroutine" := by simpa using hn
  have hm : args.map (ev e) = vs.toArray := by rw [← hargs, ← Array.toList_map]
  have hrun : (execOp (ev e) o).run P w = .ok (.enter g (List.toArray (fs ++ (vs ++ cs)))) w := by
    simp [execOp, hop, resolve, hy, rfl', Deferred.ofValue, invoke, callFunc, hg, hb, hn', hm]
  refine T.call_core (E := fun v => upd e d v) ho hw (fun a' ha' v => by rw [hd]; exact ha'.put d hN v) hrun hcalls ?_
  rintro en w' ⟨v, rfl, hQ⟩
  exact ⟨v, rfl, h a v w' ha hQ oo hkm r hr⟩
theorem mkf {i d g : Nat} {rest : List Nat} {o : Oper} {first cap : Array Operand} {fs cs : List Value} (ho : ops[i]? = some o) (hd : o.dst = some d) (hN : Nat.blt d N = true) (hw : Region.wanted o (yv e ops) = true) (hop : o.op = .makeFunc (.func g) first cap)
    (hf : first.toList.map (ev e) = fs) (hc : cap.toList.map (ev e) = cs)
    (h : TM P f N m G R (.inRegion ops rest :: k) (upd e d (.func (.func g) (List.toArray fs) (List.toArray cs))) w) : TM P f N m G R (.inRegion ops (i :: rest) :: k) e w :=
  vl ho hd hN hw (by
    have h1 : first.map (ev e) = fs.toArray := by rw [← hf, ← Array.toList_map]
    have h2 : cap.map (ev e) = cs.toArray := by rw [← hc, ← Array.toList_map]
    simp [execOp, hop, Instr.makeFunc, h1, h2]) h
theorem mx {i d : Nat} {rest : List Nat} {o : Oper} {x y : Operand} {ts : Array TypeId} {k1 k2 : IntKind} {a b : Int} (ho : ops[i]? = some o) (hd : o.dst = some d) (hN : Nat.blt d N = true) (hw : Region.wanted o (yv e ops) = true) (hop : o.op = .call { callee := .builtin .max, args := #[x, y], argTypes := ts }) (hx : ev e x = .int k1 a) (hy : ev e y = .int k2 b)
    (h : TM P f N m G R (.inRegion ops rest :: k) (upd e d (.int k1 (if b > a then b else a))) w) : TM P f N m G R (.inRegion ops (i :: rest) :: k) e w :=
  vl ho hd hN hw (by simp [execOp, hop, resolve, invoke, builtin, Builtin.max_, Builtin.max2, hx, hy, Result.andThen]) h
theorem mn2 {i d : Nat} {rest : List Nat} {o : Oper} {x y : Operand} {ts : Array TypeId} {k1 k2 : IntKind} {a b : Int} (ho : ops[i]? = some o) (hd : o.dst = some d) (hN : Nat.blt d N = true) (hw : Region.wanted o (yv e ops) = true) (hop : o.op = .call { callee := .builtin .min, args := #[x, y], argTypes := ts }) (hx : ev e x = .int k1 a) (hy : ev e y = .int k2 b)
    (h : TM P f N m G R (.inRegion ops rest :: k) (upd e d (.int k1 (if b < a then b else a))) w) : TM P f N m G R (.inRegion ops (i :: rest) :: k) e w :=
  vl ho hd hN hw (by simp [execOp, hop, resolve, invoke, builtin, Builtin.min_, Builtin.min2, hx, hy, Result.andThen]) h
end
end Go.Proofs.YtkkpplnhcpjmgaaGreat.V
set_option linter.unusedVariables false
set_option linter.unusedSimpArgs false
namespace Go.Proofs.YtkkpplnhcpjmgaaGreat.V
open Go
section
variable {α β : Type} {A : Kd α} {B : Kd β} {s : St} {c1 c2 : List Value} {x : α} {y : β} {d : Nat}
theorem Yg (h : ∀ w, A.ow w c1 x []) (h2 : OwF B s c2 y d) : OwF (Kd.pair A B) s (c1 ++ c2) (x, y) d := by
 obtain ⟨os, ho, hn, hc⟩ := h2
 exact ⟨os, ⟨c1, c2, [], os, rfl, rfl, h _, ho⟩, hn, hc⟩
theorem ow_2 {d' : Nat} (h : OwF A s c1 x d) (h2 : OwF B s c2 y d') (hd : Nat.beq d d' = false) (h10 : Nat.ble 40 d' = true) : ∃ s' : St, s.w = s'.w ∧ Stp [d'] s s' ∧ OwF (Kd.pair A B) s' (c1 ++ c2) (x, y) d := by
 have hdd : d ≠ d' := fun h => by subst h; simp at hd
 obtain ⟨os, ho, hn, hc⟩ := h
 obtain ⟨ps, po, pn, pc⟩ := h2
 refine ⟨⟨s.w, fun b => if s.g b = d' then d else s.g b⟩, rfl, ⟨rfl, rfl, rfl, Nat.le_refl _, fun b hb hl => ?_, fun b hb hm => ⟨?_, rfl⟩⟩, os ++ ps, ⟨c1, c2, os, ps, rfl, rfl, ho, po⟩, ?_, fun b hb => ?_⟩
 · have := Nat.le_of_ble_eq_true h10
   have : ¬ s.g b = d' := by omega
   simp [this]
 · have : ¬ s.g b = d' := fun h => by rw [h] at hm; simp [memb] at hm
   simp [this]
 · refine List.nodup_append.2 ⟨hn, pn, fun a ha b hb hab => ?_⟩
   subst hab
   exact hdd ((hc a ha).symm.trans (pc a hb))
 · rcases List.mem_append.1 hb with hb | hb
   · have := hc b hb
     by_cases h : s.g b = d' <;> simp [this]
   · simp [pc b hb]
end
theorem Xf (k : IntKind) (x : Int) : ∀ w, (Kd.int k).ow w [.int k x] x [] := fun _ => ⟨rfl, rfl⟩
theorem Yj {v : Value} {x : Nat} (h : FL v x) : ∀ w, Kd.flt.ow w [v] x [] := fun _ => ⟨⟨v, rfl, h⟩, rfl⟩
theorem Ya {α : Type} (e : TypeId) (K : Kd α) : ∀ w, (Kd.sl e K).ow w [.slice none 0 0] [] [] := fun _ => ⟨_, rfl, [], [], [], rfl, ⟨by simp, .inl ⟨rfl, rfl, rfl⟩⟩, ⟨rfl, rfl⟩⟩
theorem Xh {α β : Type} {A : Kd α} {B : Kd β} {c1 c2 : List Value} {x : α} {y : β} (h : ∀ w, A.ow w c1 x []) (h2 : ∀ w, B.ow w c2 y []) : ∀ w, (Kd.pair A B).ow w (c1 ++ c2) (x, y) [] := fun w => ⟨c1, c2, [], [], rfl, rfl, h w, h2 w⟩
theorem Xz {α γ : Type} {A : Kd α} {c1 : List Value} (g : γ → α) (z : γ) (h : ∀ w, A.ow w c1 (g z) []) : ∀ w, (Kd.iso A g).ow w c1 z [] := h
theorem Xo {α γ : Type} {A : Kd α} {s : St} {c1 : List Value} {d : Nat} (g : γ → α) (z : γ) (h : OwF A s c1 (g z) d) : OwF (Kd.iso A g) s c1 z d := h
theorem ow_z {α : Type} {A : Kd α} {c1 : List Value} {x : α} (s : St) (d : Nat) (h : ∀ w, A.ow w c1 x []) : OwF A s c1 x d := ⟨[], h _, List.nodup_nil, fun _ h => nomatch h⟩
def Lens {α β : Type} (K : Kd α) (A : Kd β) (q : Nat) (get : α → β) (set : α → β → α) : Prop :=
 ∀ w es x os, K.ow w es x os → ∃ u o1 o2 o3, es[q]? = some u ∧ os = o1 ++ (o2 ++ o3) ∧ A.ow w [u] (get x) o2 ∧
  ∀ w' y o2', A.ow w' [u] y o2' → Agr w w' (· ∈ o1 ++ o3) → K.ow w' es (set x y) (o1 ++ (o2' ++ o3))
theorem ln_sl {α : Type} {e : TypeId} {K : Kd α} : Lens (Kd.sl e K) (Kd.sl e K) 0 (fun x => x) (fun _ y => y) := fun w es x os h => by
 obtain ⟨v, rfl, h⟩ := h
 exact ⟨v, [], os, [], rfl, by simp, ⟨v, rfl, h⟩, fun w' y o2' hy _ => by simpa using hy⟩
theorem ln_right {α β γ : Type} {K : Kd α} {B : Kd γ} {A : Kd β} {q : Nat} {get : α → β} {set : α → β → α} (h : Lens K A q get set) : Lens (Kd.pair B K) A (B.n + q) (fun p => get p.2) (fun p y => (p.1, set p.2 y)) := fun w es x os hx => by
 obtain ⟨c1, c2, p1, p2, rfl, rfl, h1, h2⟩ := hx
 obtain ⟨u, o1, o2, o3, e1, rfl, e3, e4⟩ := h w c2 x.2 p2 h2
 have hl := B.rd_len (B.ow_rd h1)
 refine ⟨u, p1 ++ o1, o2, o3, ?_, by simp, e3, fun w' y o2' hy ha => ⟨c1, c2, p1, o1 ++ (o2' ++ o3), rfl, by simp, B.ow_frame h1 fun b hb => ha b (by simp [hb]), e4 w' y o2' hy fun b hb => ha b (by simp at hb ⊢; rcases hb with hb | hb <;> simp [hb])⟩⟩
 rw [List.getElem?_append_right (by omega), hl, Nat.add_sub_cancel_left]; exact e1
theorem ln_iso {α β γ : Type} {K : Kd α} {A : Kd β} {q : Nat} {get : α → β} {set : α → β → α} (g : γ → α) (get' : γ → β) (set' : γ → β → γ) (h : Lens K A q get set) (hg : ∀ x, get (g x) = get' x) (hs : ∀ x y, set (g x) y = g (set' x y)) : Lens (Kd.iso K g) A q get' set' := fun w es x os hx => by
 obtain ⟨u, o1, o2, o3, e1, e2, e3, e4⟩ := h w es (g x) os hx
 refine ⟨u, o1, o2, o3, e1, e2, by rw [← hg]; exact e3, fun w' y o2' hy ha => ?_⟩
 have := e4 w' y o2' hy ha
 rw [hs] at this
 exact this
theorem focus {α β : Type} [Inhabited α] {K : Kd α} {A : Kd β} {q te : Nat} {get : α → β} {set : α → β → α} {s : St} {v u : Value} {xs : List α} {c : Nat} {ii : Int} {ad : Addr} {es : List Value} {C : List Nat} (L : Lens K A q get set) (hO : OwF (Kd.sl te K) s [v] xs c) (h0 : 0 ≤ ii) (h1 : ii < xs.length) (hA : IxA v K.n ii ad) (hC : CeF s ad es C) (hu : es[q]? = some u) (hqn : Nat.blt q K.n = true) :
    ∃ o2, A.ow s.w [u] (get (at_ xs ii)) o2 ∧ o2.Nodup ∧ (∀ b ∈ o2, s.g b = c) ∧ ∀ (w' : World) (y : β) (col : Nat), Ky o2 s.w w' → FW A o2 s.w w' [u] y →
      ∃ s' : St, s'.w = w' ∧ Stp [c] s s' ∧ OwF (Kd.sl te K) s' [v] (xs.set ii.toNat (set (at_ xs ii) y)) c := by
  obtain ⟨os, ⟨v1, e1, cells, o1, o2, rfl, hR, hE⟩, hnd, hcol⟩ := hO
  obtain rfl : v = v1 := by simpa using e1
  obtain ⟨Aa, l, cap, hv, rfl⟩ := hA
  have hi : ii.toNat < xs.length := by omega
  have hq : q < K.n := by simp [Nat.blt] at hqn; omega
  obtain ⟨hl, hR2⟩ := hR
  rcases hR2 with ⟨h2, _⟩ | ⟨g, cap', cur, h2, hg, hlc, hcm, hsz, htk, rfl⟩
  · rw [h2] at hv; cases hv
  · rw [h2] at hv
    simp only [Value.slice.injEq, Option.some.injEq] at hv
    obtain ⟨rfl, rfl, rfl⟩ := hv
    obtain ⟨p1, p2, p3, rfl, hK, hset⟩ := hE.at_ ii.toNat hi
    rw [at_eq xs ii hi]
    obtain ⟨u', r1, r2, r3, e1, rfl, e3, e4⟩ := L _ _ _ _ hK
    have hmul : (ii.toNat + 1) * K.n ≤ xs.length * K.n := Nat.mul_le_mul_right _ hi
    rw [Nat.add_mul] at hmul
    -- the cell is the one that was loaded
    have huu : u' = u := by
      have hcell := hC.2 q u hu
      rw [Addr.add_add', Addr.add_mid, Nat.zero_add] at hcell
      have hc2 : cells[ii.toNat * K.n + q]? = some u' := by
        rw [List.getElem?_take, if_pos hq, List.getElem?_drop] at e1
        exact e1
      rw [← htk, List.getElem?_take] at hc2
      split at hc2
      · have : s.w.cell? ⟨g, ii.toNat * K.n + q, none⟩ = cur[ii.toNat * K.n + q]? := by simp [World.cell?, hg]
        rw [this, ← Array.getElem?_toList] at hcell
        rw [hcell] at hc2
        exact (Option.some.inj hc2).symm
      · cases hc2
    subst huu
    have hnd' := List.nodup_cons.1 (show (g :: (p1 ++ (r1 ++ (r2 ++ r3)) ++ p3)).Nodup from hnd)
    have hgn := hnd'.1
    have hn2 := hnd'.2
    have hgc := hcol g (by simp)
    refine ⟨r2, e3, ?_, fun b hb => hcol b (by simp [hb]), fun w' y col ky hfw => ?_⟩
    · have h3 := (List.nodup_append.1 hn2).1
      have h4 := (List.nodup_append.1 h3).2.1
      have h5 := (List.nodup_append.1 h4).2.1
      exact (List.nodup_append.1 h5).1
    · obtain ⟨o2', hy, hyn, hyf⟩ := hfw
      have hlt : ∀ b ∈ p1 ++ (r1 ++ (r2 ++ r3)) ++ p3, b < s.w.heap.size := fun b hb => hE.lt b hb
      have hgl : g < s.w.heap.size := (Array.getElem?_eq_some_iff.1 hg).1
      have hperm : (p1 ++ (r1 ++ (r2 ++ r3)) ++ p3).Nodup := hn2
      have hout : ∀ b, b ∈ p1 ++ r1 ++ r3 ++ p3 → b ∉ r2 := fun b hb hb2 => by
        have hc1 : (p1 ++ (r1 ++ (r2 ++ r3)) ++ p3).count b ≤ 1 := List.nodup_iff_count.1 hperm b
        have hc2 : 1 ≤ r2.count b := List.count_pos_iff.2 hb2
        have hc3 : 1 ≤ (p1 ++ r1 ++ r3 ++ p3).count b := List.count_pos_iff.2 hb
        simp only [List.count_append] at hc1 hc3
        omega
      have hsame : ∀ b, b ∈ p1 ++ r1 ++ r3 ++ p3 → w'.heap[b]? = s.w.heap[b]? := fun b hb => ky.same b (hlt b (by simp at hb ⊢; rcases hb with hb | hb | hb | hb <;> simp [hb])) (hout b hb)
      have hK' := e4 w' y o2' hy fun b hb _ => hsame b (by simp at hb ⊢; rcases hb with hb | hb <;> simp [hb])
      have hnew := hset w' _ _ _ hK' fun b hb _ => hsame b (by simp at hb ⊢; rcases hb with hb | hb <;> simp [hb])
      have hcells : cells.take (ii.toNat * K.n) ++ ((cells.drop (ii.toNat * K.n)).take K.n) ++ cells.drop ((ii.toNat + 1) * K.n) = cells := by
        rw [Nat.add_mul, Nat.one_mul, ← List.drop_drop, List.append_assoc, List.take_append_drop, List.take_append_drop]
      rw [hcells] at hnew
      have hgr2 : g ∉ r2 := fun h => hgn (by simp [h])
      refine ⟨⟨w', fun b => open Classical in if b < s.w.heap.size then s.g b else if b ∈ o2' then c else col⟩, rfl, ⟨ky.os, ky.tape, ky.output, ky.size, fun b hb _ => by simp [hb], fun b hb hm => ⟨by simp [hb], ky.same b hb fun h => ?_⟩⟩, [g] ++ (p1 ++ (r1 ++ (o2' ++ r3)) ++ p3), ⟨v, rfl, cells, [g], _, rfl, ⟨by rw [List.length_set]; exact hl, .inr ⟨g, cap', cur, by rw [List.length_set]; exact h2, by rw [ky.same g hgl hgr2]; exact hg, by simpa using hlc, hcm, hsz, by rw [List.length_set]; exact htk, rfl⟩⟩, hnew⟩, ?_, fun b hb => ?_⟩
      · have := hcol b (by simp [h])
        rw [this] at hm; simp [memb] at hm
      · rw [List.nodup_iff_count]
        intro b
        have c0 : (g :: (p1 ++ (r1 ++ (r2 ++ r3)) ++ p3)).count b ≤ 1 := List.nodup_iff_count.1 hnd b
        have c1 : o2'.count b ≤ 1 := List.nodup_iff_count.1 hyn b
        rw [List.count_cons] at c0
        simp only [List.singleton_append, List.count_cons, List.count_append] at c0 ⊢
        by_cases hb : b ∈ o2'
        · rcases hyf b hb with h | h
          · have : 1 ≤ r2.count b := List.count_pos_iff.2 h
            omega
          · have : ∀ l : List Nat, (∀ x ∈ l, x < s.w.heap.size) → l.count b = 0 := fun l hl => List.count_eq_zero.2 fun hm => by have := hl b hm; omega
            have q1 := this p1 fun x hx => hlt x (by simp [hx])
            have q2 := this r1 fun x hx => hlt x (by simp [hx])
            have q3 := this r3 fun x hx => hlt x (by simp [hx])
            have q4 := this p3 fun x hx => hlt x (by simp [hx])
            have q5 : (g == b) = false := by simp; omega
            rw [q1, q2, q3, q4, q5]
            simp; omega
        · have : o2'.count b = 0 := List.count_eq_zero.2 hb
          omega
      · dsimp only
        simp only [List.singleton_append, List.mem_cons, List.mem_append] at hb
        by_cases hl2 : b < s.w.heap.size
        · rw [if_pos hl2]
          rcases hb with rfl | (hb | hb | hb | hb) | hb
          · exact hgc
          · exact hcol b (by simp [hb])
          · exact hcol b (by simp [hb])
          · rcases hyf b hb with h | h
            · exact hcol b (by simp [h])
            · omega
          · exact hcol b (by simp [hb])
          · exact hcol b (by simp [hb])
        · rw [if_neg hl2]
          rcases hb with rfl | (hb | hb | hb | hb) | hb
          · exact absurd hgl hl2
          · exact absurd (hlt b (by simp [hb])) hl2
          · exact absurd (hlt b (by simp [hb])) hl2
          · rw [if_pos hb]
          · exact absurd (hlt b (by simp [hb])) hl2
          · exact absurd (hlt b (by simp [hb])) hl2
section
variable {P : Program} {f : Who} {N : Nat} {O ρ : Type} {m : Option O} {G : O → Option ρ} {R : ρ → Ending → World → Prop} {e : Env} {s : St} {k : List Item} {ops : Array Oper} {i d : Nat} {rest : List Nat} {o : Oper}
theorem nb {α : Type} {v : α} {km : α → Option O} {todo : List Item} {w : World} (h : ∀ y, y = v → TM P f N (km y) G R todo e w) : TM P f N ((some v).bind km) G R todo e w := h v rfl
theorem som {α : Type} [Inhabited α] {K : Kd α} {t te : TypeId} {x y : Operand} {v : Value} {vs : List Value} {xs : List α} {c d' : Nat} {ii : Int} {ad : Addr} {x' : α} (hO : OwF (Kd.sl te K) s [v] xs c) (hA : IxA v K.n ii ad) (h0 : 0 ≤ ii) (h1 : ii < xs.length) (hX : OwF K s vs x' d') (hcd : Nat.beq c d' = false) (h10 : Nat.ble 40 d' = true) (hs : (P.info? t).map (·.size) = some K.n)
    (ho : ops[i]? = some o) (hd : o.dst = none) (hw : Region.wanted o (yv e ops) = true) (hop : o.op = .store t x y) (hx : ev e x = .pointer (some ad)) (hy : (ev e y).cells = vs.toArray)
    (h : ∀ s', Stp [c, d'] s s' → OwF (Kd.sl te K) s' [v] (xs.set ii.toNat x') c → TM P f N m G R (.inRegion ops rest :: k) e s'.w) : TM P f N m G R (.inRegion ops (i :: rest) :: k) e s.w := by
  have hcd' : c ≠ d' := fun h => by subst h; simp at hcd
  obtain ⟨os, ⟨v1, e1, cells, o1, o2, rfl, hR, hE⟩, hnd, hcol⟩ := hO
  obtain rfl : v = v1 := by simpa using e1
  obtain ⟨ox, hxo, hxn, hxc⟩ := hX
  have hvl : vs.length = K.n := K.rd_len (K.ow_rd hxo)
  have hv1 : ∀ u ∈ vs, u.oneCell' = true := K.rd_one (K.ow_rd hxo)
  obtain ⟨Aa, l, cap, hv, rfl⟩ := hA
  have hi : ii.toNat < xs.length := by omega
  obtain ⟨hl, hR2⟩ := hR
  rcases hR2 with ⟨h2, _⟩ | ⟨g, cap', cur, h2, hg, hlc, hcm, hsz, htk, rfl⟩
  · rw [h2] at hv; cases hv
  · rw [h2] at hv
    simp only [Value.slice.injEq, Option.some.injEq] at hv
    obtain ⟨rfl, rfl, rfl⟩ := hv
    obtain ⟨p1, p2, p3, rfl, hK, hset⟩ := hE.at_ ii.toNat hi
    have hmul : (ii.toNat + 1) * K.n ≤ xs.length * K.n := Nat.mul_le_mul_right _ hi
    have hmul' := hmul
    rw [Nat.add_mul, Nat.one_mul] at hmul'
    have hcapm : xs.length * K.n ≤ cap' * K.n := Nat.mul_le_mul_right _ hlc
    have hgl : g < s.w.heap.size := (Array.getElem?_eq_some_iff.1 hg).1
    have hgc := hcol g (by simp)
    have hst := run_storeCells_at P g (ii.toNat * K.n) te vs 0 cur s.w hg (by rw [hvl, hsz]; omega) hv1
    simp only [Nat.add_zero] at hst
    have had : (⟨g, 0, none⟩ : Addr).add (ii.toNat * K.n) = ⟨g, ii.toNat * K.n, none⟩ := by rw [Addr.add_mid, Nat.zero_add]
    rw [had] at hx
    have hrun : (Instr.storeAt t (.pointer (some ⟨g, ii.toNat * K.n, none⟩)) (ev e y)).run P s.w = .ok () (s.w.setRow g (cur.toList.take (ii.toNat * K.n) ++ vs ++ cur.toList.drop (ii.toNat * K.n + vs.length)).toArray) := by
      unfold Instr.storeAt
      rw [Sem.run_bind']
      simp only [Instr.sureAddr, Sem.run_pure, Result.andThen]
      unfold storeVar
      rw [Sem.run_bind', size_run hs]
      simp only [Result.andThen, hy]
      simp [hvl]
      simp [hvl] at hst
      exact hst
    have hd10 := Nat.le_of_ble_eq_true h10
    refine vd (w' := s.w.setRow g (cur.toList.take (ii.toNat * K.n) ++ vs ++ cur.toList.drop (ii.toNat * K.n + vs.length)).toArray) ho hd hw (by simp [execOp, hop, hx, hrun, Result.andThen]) (h ⟨_, fun b => if s.g b = d' then c else s.g b⟩ ⟨rfl, rfl, rfl, by simp, fun b hb hl => ?_, fun b hb hm => ?_⟩ ?_)
    · have : ¬ s.g b = d' := by omega
      simp [this]
    · simp only [memb, Bool.or_eq_false_iff] at hm
      have q1 : s.g b ≠ c := fun h => by rw [h] at hm; simp at hm
      have q2 : ¬ s.g b = d' := fun h => by rw [h] at hm; simp at hm
      refine ⟨by simp [q2], setRow_other s.w g b _ fun e => q1 (by rw [e]; exact hgc)⟩
    · have hnd' := List.nodup_cons.1 (show (g :: (p1 ++ p2 ++ p3)).Nodup from hnd)
      have hoth : ∀ b, b ≠ g → (s.w.setRow g (cur.toList.take (ii.toNat * K.n) ++ vs ++ cur.toList.drop (ii.toNat * K.n + vs.length)).toArray).heap[b]? = s.w.heap[b]? := fun b hb => setRow_other s.w g b _ hb
      have hgx : g ∉ ox := fun h => hcd' (hgc.symm.trans (hxc g h))
      have hK' := K.ow_frame hxo (w' := s.w.setRow g (cur.toList.take (ii.toNat * K.n) ++ vs ++ cur.toList.drop (ii.toNat * K.n + vs.length)).toArray) fun b hb _ => hoth b fun h => hgx (h ▸ hb)
      have hnew := hset _ vs x' ox hK' fun b hb _ => hoth b fun h => hnd'.1 (by subst h; simp at hb ⊢; rcases hb with hb | hb <;> simp [hb])
      refine ⟨[g] ++ (p1 ++ ox ++ p3), ⟨v, rfl, _, [g], _, rfl, ⟨?_, .inr ⟨g, cap', _, by rw [List.length_set]; exact h2, setRow_heap s.w g cur _ te _ hg, by simpa using hlc, hcm, ?_, ?_, rfl⟩⟩, hnew⟩, ?_, fun b hb => ?_⟩
      · simp only [List.length_set, List.length_append, List.length_take, List.length_drop, hvl, hl]
        rw [Nat.add_mul, Nat.one_mul]; omega
      · simp only [List.size_toArray, List.length_append, List.length_take, List.length_drop, Array.length_toList, hvl, hsz]
        omega
      · rw [List.length_set, ← htk, hvl, Nat.add_mul, Nat.one_mul]
        have e2 : (cur.toList.take (xs.length * K.n)).take (ii.toNat * K.n) = cur.toList.take (ii.toNat * K.n) := by rw [List.take_take]; congr 1; omega
        have e3 : (cur.toList.take (xs.length * K.n)).drop (ii.toNat * K.n + K.n) = (cur.toList.drop (ii.toNat * K.n + K.n)).take (xs.length * K.n - (ii.toNat * K.n + K.n)) := by rw [List.drop_take]
        rw [e2, e3]
        have hla : (cur.toList.take (ii.toNat * K.n) ++ vs).length = ii.toNat * K.n + K.n := by
          rw [List.length_append, List.length_take, Array.length_toList, hvl, hsz]; omega
        rw [List.take_append, List.take_of_length_le (by omega), hla]
      · have hdj : ∀ b, b ∈ ox → b ∉ g :: (p1 ++ p2 ++ p3) := fun b hb hb2 => hcd' ((hcol b hb2).symm.trans (hxc b hb))
        rw [List.nodup_iff_count]
        intro b
        have c0 : (g :: (p1 ++ p2 ++ p3)).count b ≤ 1 := List.nodup_iff_count.1 hnd b
        have c1 : ox.count b ≤ 1 := List.nodup_iff_count.1 hxn b
        rw [List.count_cons] at c0
        simp only [List.singleton_append, List.count_cons, List.count_append] at c0 ⊢
        by_cases hb : b ∈ ox
        · have z0 : (g :: (p1 ++ p2 ++ p3)).count b = 0 := List.count_eq_zero.2 (hdj b hb)
          rw [List.count_cons] at z0
          simp only [List.count_append] at z0
          omega
        · have : ox.count b = 0 := List.count_eq_zero.2 hb
          omega
      · dsimp only
        simp only [List.singleton_append, List.mem_cons, List.mem_append] at hb
        rcases hb with rfl | (hb | hb) | hb
        · simp [hgc]
        · simp [hcol b (by simp [hb])]
        · simp [hxc b hb]
        · simp [hcol b (by simp [hb])]
end
end Go.Proofs.YtkkpplnhcpjmgaaGreat.V
set_option linter.unusedVariables false
set_option linter.unusedSimpArgs false
namespace Go.Proofs.YtkkpplnhcpjmgaaGreat.V
open Go
def far (op : BinOp) (x y : Nat) : Nat := (floatBits op .f64 x y).getD nanB
def fneg (x : Nat) : Nat := bif isN x then nanB else Op.negFloat .f64 x
theorem Ye {v : Value} {x : Nat} (h : FL v x) {s : St} : RdF Kd.flt s [v] x [] := ⟨v, rfl, h⟩
theorem fcmp_cn (a b : Nat) : fcmp .f64 (cn a) (cn b) = fcmp .f64 a b := order_cn a b
theorem fbin_cn (op : BinOp) (a b : Nat) : fbin op .f64 (cn a) (cn b) = fbin op .f64 a b := by
 unfold fbin
 simp only [fcmp_cn]
open Ieee in
theorem nan_ops (x y : Datum) (h : x.isNaN = true ∨ y.isNaN = true) : x.sum y = none ∧ x.product y = none ∧ ∀ d, x.quotient d y = none := by
 rcases h with h | h
 · cases x <;> first | cases h | skip
   refine ⟨rfl, ?_, fun d => ?_⟩ <;> cases y <;> rfl
 · cases y <;> first | cases h | skip
   refine ⟨?_, ?_, fun d => ?_⟩ <;> cases x <;> rfl
open Ieee in
theorem sum_notN {x y r : Datum} (h : x.sum y = some r) : r.isNaN = false := by
 cases x <;> cases y <;> simp only [Datum.sum] at h
 all_goals first
  | (cases h; rfl)
  | cases h
  | (split at h <;> first | (cases h; rfl) | cases h)
open Ieee in
theorem product_notN {x y r : Datum} (h : x.product y = some r) : r.isNaN = false := by
 cases x <;> cases y <;> simp only [Datum.product] at h
 all_goals first
  | (cases h; rfl)
  | cases h
  | (split at h <;> first | (cases h; rfl) | cases h)
open Ieee in
theorem quotient_notN {d : Nat} {x y r : Datum} (h : x.quotient d y = some r) : r.isNaN = false := by
  cases x <;> cases y <;> simp only [Datum.quotient] at h
  all_goals first
    | (cases h; rfl)
    | cases h
    | (split at h
       · first | (cases h; rfl) | cases h | (split at h <;> first | (cases h; rfl) | cases h)
       · cases h; rfl)
theorem read_opp (x : Ieee.Datum) : x.opposite.isNaN = x.isNaN := by cases x <;> rfl
theorem isN_read (b : Nat) : (D.read b).isNaN = isN b := by
 cases h : isN b with
 | true => obtain ⟨s, f, e⟩ := read_nan h; rw [e]; rfl
 | false =>
  unfold isN at h
  have h : ¬ 9218868437227405312 < b % 9223372036854775808 := of_decide_eq_false h
  rw [readD]
  split
  · rfl
  · split
    · rfl
    · rw [if_pos (by omega)]; rfl
theorem floatBits_cn (op : BinOp) (a b : Nat) : floatBits op .f64 (cn a) (cn b) = floatBits op .f64 a b := by
 have key : isN a = true ∨ isN b = true → ∀ a' b', (isN a' = isN a) → (isN b' = isN b) → floatBits op .f64 a' b' = none := by
  intro h a' b' ha hb
  have h' : (D.read a').isNaN = true ∨ (D.read b').isNaN = true := by rw [isN_read, isN_read, ha, hb]; exact h
  have h2 : (D.read a').isNaN = true ∨ (D.read b').opposite.isNaN = true := by rw [read_opp]; exact h'
  obtain ⟨k1, k2, k3⟩ := nan_ops _ _ h'
  obtain ⟨k4, _, _⟩ := nan_ops _ _ h2
  unfold floatBits
  cases op <;> simp only []
  · show ((D.read a').sum (D.read b')).map D.write = none; rw [k1]; rfl
  · show ((D.read a').sum (D.read b').opposite).map D.write = none; rw [k4]; rfl
  · show ((D.read a').product (D.read b')).map D.write = none; rw [k2]; rfl
  · show ((D.read a').quotient _ (D.read b')).map D.write = none; rw [k3]; rfl
 cases ha : isN a with
 | true => rw [key (.inl ha) _ _ (isN_cn a) (isN_cn b), key (.inl ha) _ _ rfl rfl]
 | false =>
  cases hb : isN b with
  | true => rw [key (.inr hb) _ _ (isN_cn a) (isN_cn b), key (.inr hb) _ _ rfl rfl]
  | false => rw [cn_of ha, cn_of hb]
theorem floatBits_notN {op : BinOp} {a b r : Nat} (h : floatBits op .f64 a b = some r) : isN r = false := by
 unfold floatBits at h
 have map : ∀ {d : Option Ieee.Datum}, d.map D.write = some r → (∀ e, d = some e → e.isNaN = false) → isN r = false := by
  intro d hd he
  cases d with
  | none => cases hd
  | some e => cases hd; exact write_notN e (he e rfl)
 cases op <;> simp only at h <;> first | (cases h; done) | skip
 · exact map h fun e he => sum_notN he
 · exact map h fun e he => sum_notN he
 · exact map h fun e he => product_notN he
 · exact map h fun e he => quotient_notN he
theorem FL.bits {v : Value} {x : Nat} (h : FL v x) (hn : isN x = false) : v = .float .f64 x := by
 obtain ⟨b, rfl, rfl⟩ := h
 rw [isN_cn] at hn
 rw [cn_of hn]
theorem far_run {P : Program} (w : World) {op : BinOp} (hop : op = .add ∨ op = .sub ∨ op = .mul ∨ op = .quo) (t : TypeId) (a b : Nat) :
    ∃ r n, (binOp op t (.float .f64 a) (.float .f64 b)).run P w = .ok (.float .f64 r) { w with drawn := n } ∧ cn r = far op (cn a) (cn b) := by
  unfold far
  rw [floatBits_cn]
  cases h : floatBits op .f64 a b with
  | some r =>
    refine ⟨r, w.drawn, ?_, ?_⟩
    · rw [run_float_arith w op t .f64 a b r h]
    · rw [cn_of (floatBits_notN h)]; rfl
  | none =>
    refine ⟨Question.cut (.nanBits .f64 a b) (w.tape w.drawn (.nanBits .f64 a b)), w.drawn + 1, ?_, ?_⟩
    · have hn : (Op.floatArith op .f64 a b).run P w = .ok (.float .f64 (Question.cut (.nanBits .f64 a b) (w.tape w.drawn (.nanBits .f64 a b)))) { w with drawn := w.drawn + 1 } := by
        unfold floatBits at h
        rcases hop with rfl | rfl | rfl | rfl <;> simp only at h <;> simp [Op.floatArith, h, choose, Sem.run, Question.forced]
      rcases hop with rfl | rfl | rfl | rfl <;> simpa [binOp] using hn
    · have : isN (Question.cut (.nanBits .f64 a b) (w.tape w.drawn (.nanBits .f64 a b))) = true := by
        generalize w.tape w.drawn (.nanBits .f64 a b) = t
        have hc : Question.cut (.nanBits .f64 a b) t = (t % 2) * 2 ^ 63 + 0x7ff0000000000000 + 1 + (t / 2) % (2 ^ 52 - 1) := rfl
        have h2 := Nat.mod_lt (t / 2) (show 0 < 2 ^ 52 - 1 by decide)
        have h1 : t % 2 = 0 ∨ t % 2 = 1 := by omega
        unfold isN
        rw [decide_eq_true_eq, hc]
        rcases h1 with h1 | h1 <;> rw [h1] <;> omega
      rw [cn_nan this]; rfl
section
variable {P : Program} {f : Who} {N : Nat} {O ρ : Type} {m : Option O} {G : O → Option ρ} {R : ρ → Ending → World → Prop} {e : Env} {s : St} {k : List Item} {ops : Array Oper} {i d : Nat} {rest : List Nat} {o : Oper}
theorem vmk {i d : Nat} {o : Oper} {rest : List Nat} {v : Value} {n : Nat} (ho : ops[i]? = some o) (hd : o.dst = some d) (hN : Nat.blt d N = true) (hw : Region.wanted o (yv e ops) = true) (hr : (execOp (ev e) o).run P s.w = .ok (.value v) { s.w with drawn := n })
    (h : ∀ s', Stp [] s s' → TM P f N m G R (.inRegion ops rest :: k) (upd e d v) s'.w) : TM P f N m G R (.inRegion ops (i :: rest) :: k) e s.w :=
  vl ho hd hN hw hr (h ⟨{ s.w with drawn := n }, s.g⟩ ⟨rfl, rfl, rfl, Nat.le_refl _, fun _ _ _ => rfl, fun _ _ _ => ⟨rfl, rfl⟩⟩)
theorem fq_ {op : BinOp} {t t' : TypeId} {X Y : Operand} {v1 v2 r : Value} {x1 x2 : Nat} (h1 : FL v1 x1) (h2 : FL v2 x2)
    (ho : ops[i]? = some o) (hd : o.dst = some d) (hN : Nat.blt d N = true) (hw : Region.wanted o (yv e ops) = true) (hop : o.op = .binOp op t X Y t') (hx : ev e X = v1) (hy : ev e Y = v2) (hv : fbin op .f64 x1 x2 = some r)
    (h : TM P f N m G R (.inRegion ops rest :: k) (upd e d r) s.w) : TM P f N m G R (.inRegion ops (i :: rest) :: k) e s.w := by
  obtain ⟨b1, rfl, rfl⟩ := h1
  obtain ⟨b2, rfl, rfl⟩ := h2
  rw [fbin_cn] at hv
  exact vl ho hd hN hw (by
    have := fbin_run (P := P) (w := s.w) (t := t) (X := X) (Y := Y) hv
    simp only [execOp, hop, hx, hy]
    rw [Sem.run_bind', this]; rfl) h
theorem qv_b {x b : Bool} (h : Qv P N ops e s.w i d (.bool x)) (hb : x = b) : Qv P N ops e s.w i d (.bool b) := by subst hb; exact h
theorem fa_ {op : BinOp} {t t' : TypeId} {X Y : Operand} {v1 v2 : Value} {x1 x2 : Nat} (h1 : FL v1 x1) (h2 : FL v2 x2) (hk : op = .add ∨ op = .sub ∨ op = .mul ∨ op = .quo)
    (ho : ops[i]? = some o) (hd : o.dst = some d) (hN : Nat.blt d N = true) (hw : Region.wanted o (yv e ops) = true) (hop : o.op = .binOp op t X Y t') (hx : ev e X = v1) (hy : ev e Y = v2)
    (h : ∀ v s', Stp [] s s' → FL v (far op x1 x2) → TM P f N m G R (.inRegion ops rest :: k) (upd e d v) s'.w) : TM P f N m G R (.inRegion ops (i :: rest) :: k) e s.w := by
  obtain ⟨b1, rfl, rfl⟩ := h1
  obtain ⟨b2, rfl, rfl⟩ := h2
  obtain ⟨r, n, hr, hc⟩ := far_run (P := P) s.w hk t b1 b2
  refine vmk (v := .float .f64 r) (n := n) ho hd hN hw ?_ fun s' p => h _ s' p ⟨r, rfl, hc⟩
  have hg : (eqGuard op t X Y (.float .f64 b1) (.float .f64 b2)).run P s.w = .ok () s.w := by rcases hk with rfl | rfl | rfl | rfl <;> simp [eqGuard]
  simp only [execOp, hop, hx, hy]
  rw [Sem.run_bind', Sem.run_bind', hg]
  simp only [Result.andThen, hr]
  rfl
theorem fng_ {t : TypeId} {X : Operand} {v1 : Value} {x1 : Nat} (h1 : FL v1 x1)
    (ho : ops[i]? = some o) (hd : o.dst = some d) (hN : Nat.blt d N = true) (hw : Region.wanted o (yv e ops) = true) (hop : o.op = .unOp .neg t X) (hx : ev e X = v1)
    (h : ∀ v, FL v (fneg x1) → TM P f N m G R (.inRegion ops rest :: k) (upd e d v) s.w) : TM P f N m G R (.inRegion ops (i :: rest) :: k) e s.w := by
  obtain ⟨b1, rfl, rfl⟩ := h1
  refine vl (v := .float .f64 (Op.negFloat .f64 b1)) ho hd hN hw (by simp [execOp, hop, hx, Op.unary]) (h _ ⟨_, rfl, ?_⟩)
  have hx : ∀ b, Op.negFloat .f64 b % 9223372036854775808 = b % 9223372036854775808 := by
    intro b
    show (b ^^^ 2 ^ 63) % 2 ^ 63 = b % 2 ^ 63
    rw [Nat.xor_mod_two_pow, Nat.mod_self, Nat.xor_zero]
  have hn : isN (Op.negFloat .f64 b1) = isN b1 := by unfold isN; rw [hx]
  unfold fneg
  rw [isN_cn]
  cases h : isN b1 with
  | true => rw [cn_nan (by rw [hn, h])]; rfl
  | false => rw [cn_of (by rw [hn, h]), cn_of h]; rfl
theorem i2f {t1 t2 : TypeId} {k1 k3 : IntKind} {n : Int} {X : Operand} (hu : P.underlying t2 = some (.float .f64)) (hu1 : P.underlying t1 = some (.int k1))
    (ho : ops[i]? = some o) (hd : o.dst = some d) (hN : Nat.blt d N = true) (hw : Region.wanted o (yv e ops) = true) (hop : o.op = .convert t1 t2 X) (hx : ev e X = .int k3 n)
    (h : ∀ v, FL v (FloatKind.f64.nearest n) → TM P f N m G R (.inRegion ops rest :: k) (upd e d v) s.w) : TM P f N m G R (.inRegion ops (i :: rest) :: k) e s.w :=
  vl (v := .float .f64 (FloatKind.f64.nearest n)) ho hd hN hw (by simp [execOp, hop, hx, convert, run_underlying hu, run_underlying hu1, Conv.intToFloat, Result.andThen]) (h _ ⟨_, rfl, cn_of (write_notN (.number (n < 0) n.natAbs 0) rfl)⟩)
theorem f2i {t1 t2 : TypeId} {k2 : IntKind} {X : Operand} {v1 : Value} {x1 : Nat} {km : Int → Option O} (h1 : FL v1 x1) (hu : P.underlying t2 = some (.int k2)) (hu1 : P.underlying t1 = some (.float .f64))
    (ho : ops[i]? = some o) (hd : o.dst = some d) (hN : Nat.blt d N = true) (hw : Region.wanted o (yv e ops) = true) (hop : o.op = .convert t1 t2 X) (hx : ev e X = v1)
    (h : ∀ n, floatToIntVal .f64 x1 k2 = some n → TM P f N (km n) G R (.inRegion ops rest :: k) (upd e d (.int k2 n)) s.w) : TM P f N ((floatToIntVal .f64 x1 k2).bind km) G R (.inRegion ops (i :: rest) :: k) e s.w := by
  obtain ⟨b1, rfl, rfl⟩ := h1
  refine mb fun n hn => ?_
  have hN' : isN (cn b1) = false := by
    cases hb : isN (cn b1) with
    | false => rfl
    | true =>
      obtain ⟨s', f', e'⟩ := read_nan hb
      unfold floatToIntVal at hn
      have : (FloatKind.f64.decode (cn b1)) = .nan s' f' := e'
      rw [this] at hn
      cases hn
  rw [isN_cn] at hN'
  refine vl (v := .int k2 n) ho hd hN hw ?_ (h n hn)
  rw [cn_of hN'] at hn
  have := run_convert_float_int (P := P) s.w t1 t2 .f64 k2 b1 n (by rw [hu1]; rfl) hu hn
  simp [execOp, hop, hx, this, Result.andThen]
theorem ext_run {w : World} {g : FuncId} {fn : Func} {args : Array Operand} {ts : Array TypeId} {X : Array Value → Sem Value} {v : Value} (hop : o.op = .call { callee := .value (.func g), args := args, argTypes := ts }) (hg : P.funcs[g]? = some fn) (hb : fn.body = none)
    (hn : (fn.name == "runtime.NumGoroutine") = false) (hnx : Extern.findNext fn = none) (hf : Extern.find fn = some X) (hv : (X (args.map (ev e))).run P w = .ok v w) : (execOp (ev e) o).run P w = .ok (.value v) w := by
  have hn' : ¬ fn.name = "runtime.NumGoroutine" := by simpa using hn
  simp [execOp, hop, resolve, ev, Deferred.ofValue, invoke, callFunc, hg, hb, hn', hnx, hf, mark, Sem.run, hv, Result.andThen]
theorem fb_ {g : FuncId} {fn : Func} {X : Operand} {ts : Array TypeId} {v1 : Value} {x1 : Nat} (h1 : FL v1 x1)
    (ho : ops[i]? = some o) (hd : o.dst = some d) (hN : Nat.blt d N = true) (hw : Region.wanted o (yv e ops) = true) (hop : o.op = .call { callee := .value (.func g), args := #[X], argTypes := ts }) (hg : P.funcs[g]? = some fn) (hb : fn.body = none)
    (hn : (fn.name == "runtime.NumGoroutine") = false) (hnx : Extern.findNext fn = none) (hf : Extern.find fn = some Extern.MathFloatBits.float64bits) (hx : ev e X = v1)
    (h : TM P f N m G R (.inRegion ops rest :: k) (upd e d (.int .u64 (x1 : Int))) s.w) : TM P f N (if isN x1 = false then m else none) G R (.inRegion ops (i :: rest) :: k) e s.w := by
  refine mg fun hnn => ?_
  have := h1.bits hnn
  subst this
  exact vl ho hd hN hw (ext_run hop hg hb hn hnx hf (by rw [show (#[X] : Array Operand).map (ev e) = #[ev e X] from by simp, hx]; rfl)) h
theorem fbu {g : FuncId} {fn : Func} {X : Operand} {ts : Array TypeId} {v1 : Value} {x1 : Nat} (h1 : FL v1 x1)
    (ho : ops[i]? = some o) (hd : o.dst = some d) (hN : Nat.blt d N = true) (hw : Region.wanted o (yv e ops) = true) (hop : o.op = .call { callee := .value (.func g), args := #[X], argTypes := ts }) (hg : P.funcs[g]? = some fn) (hb : fn.body = none)
    (hn : (fn.name == "runtime.NumGoroutine") = false) (hnx : Extern.findNext fn = none) (hf : Extern.find fn = some Extern.MathFloatBits.float64bits) (hx : ev e X = v1)
    (h : ∀ b : Nat, cn b = x1 → TM P f N m G R (.inRegion ops rest :: k) (upd e d (.int .u64 (b : Int))) s.w) : TM P f N m G R (.inRegion ops (i :: rest) :: k) e s.w := by
  obtain ⟨b, rfl, hb2⟩ := h1
  exact vl ho hd hN hw (ext_run hop hg hb hn hnx hf (by rw [show (#[X] : Array Operand).map (ev e) = #[ev e X] from by simp, hx]; rfl)) (h b hb2)
theorem fz0 {t t' : TypeId} {X Y : Operand} {b x : Nat} (hc : cn b = x)
    (ho : ops[i]? = some o) (hd : o.dst = some d) (hN : Nat.blt d N = true) (hw : Region.wanted o (yv e ops) = true) (hop : o.op = .binOp .eql t X Y t') (hx : ev e X = .int .u64 (b : Int)) (hy : ev e Y = .int .u64 0)
    (h : TM P f N m G R (.inRegion ops rest :: k) (upd e d (.bool ((x : Int) == 0))) s.w) : TM P f N m G R (.inRegion ops (i :: rest) :: k) e s.w := by
  have hb : ((x : Int) == 0) = ((b : Int) == 0) := by
    cases hN : isN b with
    | false => rw [cn_of hN] at hc; rw [hc]
    | true =>
      rw [cn_nan hN] at hc
      subst hc
      have hne : b ≠ 0 := by intro h0; subst h0; revert hN; decide
      have : ((b : Int) == 0) = false := by simp; exact hne
      rw [this]; rfl
  rw [hb] at h
  exact vl ho hd hN hw (by
    have := ibin_run (P := P) (w := s.w) (op := .eql) (t := t) (X := X) (Y := Y) (k := .u64) (a := (b : Int)) (b := 0) rfl
    simp only [execOp, hop, hx, hy]
    rw [Sem.run_bind', this]; rfl) h
theorem ffb {g : FuncId} {fn : Func} {X : Operand} {ts : Array TypeId} {n : Int}
    (ho : ops[i]? = some o) (hd : o.dst = some d) (hN : Nat.blt d N = true) (hw : Region.wanted o (yv e ops) = true) (hop : o.op = .call { callee := .value (.func g), args := #[X], argTypes := ts }) (hg : P.funcs[g]? = some fn) (hb : fn.body = none)
    (hn : (fn.name == "runtime.NumGoroutine") = false) (hnx : Extern.findNext fn = none) (hf : Extern.find fn = some Extern.MathFloatBits.float64frombits) (hx : ev e X = .int .u64 n)
    (h : ∀ v, FL v (cn n.toNat) → TM P f N m G R (.inRegion ops rest :: k) (upd e d v) s.w) : TM P f N m G R (.inRegion ops (i :: rest) :: k) e s.w :=
  vl (v := .float .f64 n.toNat) ho hd hN hw (ext_run hop hg hb hn hnx hf (by rw [show (#[X] : Array Operand).map (ev e) = #[ev e X] from by simp, hx]; rfl)) (h _ ⟨_, rfl, rfl⟩)
end
end Go.Proofs.YtkkpplnhcpjmgaaGreat.V
set_option linter.unusedVariables false
set_option linter.unusedSimpArgs false
namespace Go.Proofs.YtkkpplnhcpjmgaaGreat.V
open Go
def LensG {α β : Type} (K : Kd α) (A : Kd β) (q : Nat) (get : α → β) (set : α → β → α) : Prop :=
 ∀ w es x os, K.ow w es x os → ∃ e1 e2 e3 o1 o2 o3, es = e1 ++ (e2 ++ e3) ∧ e1.length = q ∧ os = o1 ++ (o2 ++ o3) ∧ A.ow w e2 (get x) o2 ∧
  ∀ w' y e2' o2', A.ow w' e2' y o2' → Agr w w' (· ∈ o1 ++ o3) → K.ow w' (e1 ++ (e2' ++ e3)) (set x y) (o1 ++ (o2' ++ o3))
theorem lg_id {α : Type} {K : Kd α} : LensG K K 0 (fun x => x) (fun _ y => y) := fun w es x os h =>
 ⟨[], es, [], [], os, [], by simp, rfl, by simp, h, fun w' y e2' o2' hy _ => by simpa using hy⟩
section
variable {P : Program} {f : Who} {N : Nat} {O ρ : Type} {m : Option O} {G : O → Option ρ} {R : ρ → Ending → World → Prop} {e : Env} {s : St} {k : List Item} {ops : Array Oper} {i d : Nat} {rest : List Nat} {o : Oper}
theorem sog {α β : Type} [Inhabited α] {K : Kd α} {A : Kd β} {q : Nat} {get : α → β} {set : α → β → α} {t te : TypeId} {x y : Operand} {v : Value} {vs : List Value} {xs : List α} {c d' : Nat} {ii : Int} {ad : Addr} {x' : β} (L : LensG K A q get set)
    (hO : OwF (Kd.sl te K) s [v] xs c) (hA : IxA v K.n ii ad) (h0 : 0 ≤ ii) (h1 : ii < xs.length) (hX : OwF A s vs x' d') (hcd : Nat.beq c d' = false) (h10 : Nat.ble 40 d' = true) (hs : (P.info? t).map (·.size) = some A.n)
    (ho : ops[i]? = some o) (hd : o.dst = none) (hw : Region.wanted o (yv e ops) = true) (hop : o.op = .store t x y) (hx : ev e x = .pointer (some (ad.add q))) (hy : (ev e y).cells = vs.toArray)
    (h : ∀ s', Stp [c, d'] s s' → OwF (Kd.sl te K) s' [v] (xs.set ii.toNat (set (at_ xs ii) x')) c → TM P f N m G R (.inRegion ops rest :: k) e s'.w) : TM P f N m G R (.inRegion ops (i :: rest) :: k) e s.w := by
  have hcd' : c ≠ d' := fun h => by subst h; simp at hcd
  obtain ⟨os, ⟨v1, e1, cells, o1, o2, rfl, hR, hE⟩, hnd, hcol⟩ := hO
  obtain rfl : v = v1 := by simpa using e1
  obtain ⟨ox, hxo, hxn, hxc⟩ := hX
  have hvl : vs.length = A.n := A.rd_len (A.ow_rd hxo)
  have hv1 : ∀ u ∈ vs, u.oneCell' = true := A.rd_one (A.ow_rd hxo)
  obtain ⟨Aa, l, cap, hv, rfl⟩ := hA
  have hi : ii.toNat < xs.length := by omega
  obtain ⟨hl, hR2⟩ := hR
  rcases hR2 with ⟨h2, _⟩ | ⟨g, cap', cur, h2, hg, hlc, hcm, hsz, htk, rfl⟩
  · rw [h2] at hv; cases hv
  · rw [h2] at hv
    simp only [Value.slice.injEq, Option.some.injEq] at hv
    obtain ⟨rfl, rfl, rfl⟩ := hv
    obtain ⟨p1, p2, p3, rfl, hK, hset⟩ := hE.at_ ii.toNat hi
    rw [at_eq xs ii hi] at h
    obtain ⟨r1, r2, r3, q1, q2, q3, hes, hq, rfl, hg2, hput⟩ := L _ _ _ _ hK
    have hr2 : r2.length = A.n := A.rd_len (A.ow_rd hg2)
    have hmul : (ii.toNat + 1) * K.n ≤ xs.length * K.n := Nat.mul_le_mul_right _ hi
    have hmul' := hmul
    rw [Nat.add_mul, Nat.one_mul] at hmul'
    have hesl : ((cells.drop (ii.toNat * K.n)).take K.n).length = K.n := K.rd_len (K.ow_rd hK)
    have hq3 : q + A.n + r3.length = K.n := by rw [← hesl, hes]; simp [hq, hr2]; omega
    have hcapm : xs.length * K.n ≤ cap' * K.n := Nat.mul_le_mul_right _ hlc
    have hgl : g < s.w.heap.size := (Array.getElem?_eq_some_iff.1 hg).1
    have hgc := hcol g (by simp)
    have hst := run_storeCells_at P g (ii.toNat * K.n + q) te vs 0 cur s.w hg (by rw [hvl, hsz]; omega) hv1
    simp only [Nat.add_zero] at hst
    have had : ((⟨g, 0, none⟩ : Addr).add (ii.toNat * K.n)).add q = ⟨g, ii.toNat * K.n + q, none⟩ := by rw [Addr.add_add', Addr.add_mid, Nat.zero_add]
    rw [had] at hx
    have hrun : (Instr.storeAt t (.pointer (some ⟨g, ii.toNat * K.n + q, none⟩)) (ev e y)).run P s.w = .ok () (s.w.setRow g (cur.toList.take (ii.toNat * K.n + q) ++ vs ++ cur.toList.drop (ii.toNat * K.n + q + vs.length)).toArray) := by
      unfold Instr.storeAt
      rw [Sem.run_bind']
      simp only [Instr.sureAddr, Sem.run_pure, Result.andThen]
      unfold storeVar
      rw [Sem.run_bind', size_run hs]
      simp only [Result.andThen, hy]
      simp [hvl]
      simp [hvl] at hst
      exact hst
    have hd10 := Nat.le_of_ble_eq_true h10
    have hnd' := List.nodup_cons.1 (show (g :: (p1 ++ (q1 ++ (q2 ++ q3)) ++ p3)).Nodup from hnd)
    refine vd (w' := s.w.setRow g (cur.toList.take (ii.toNat * K.n + q) ++ vs ++ cur.toList.drop (ii.toNat * K.n + q + vs.length)).toArray) ho hd hw (by simp [execOp, hop, hx, hrun, Result.andThen]) (h ⟨_, fun b => if s.g b = d' then c else s.g b⟩ ⟨rfl, rfl, rfl, by simp, fun b hb hl => ?_, fun b hb hm => ?_⟩ ?_)
    · have : ¬ s.g b = d' := by omega
      simp [this]
    · simp only [memb, Bool.or_eq_false_iff] at hm
      have q1 : s.g b ≠ c := fun h => by rw [h] at hm; simp at hm
      have q2 : ¬ s.g b = d' := fun h => by rw [h] at hm; simp at hm
      refine ⟨by simp [q2], setRow_other s.w g b _ fun e => q1 (by rw [e]; exact hgc)⟩
    · have hoth : ∀ b, b ≠ g → (s.w.setRow g (cur.toList.take (ii.toNat * K.n + q) ++ vs ++ cur.toList.drop (ii.toNat * K.n + q + vs.length)).toArray).heap[b]? = s.w.heap[b]? := fun b hb => setRow_other s.w g b _ hb
      have hgx : g ∉ ox := fun h => hcd' (hgc.symm.trans (hxc g h))
      have hA' := A.ow_frame hxo (w' := s.w.setRow g (cur.toList.take (ii.toNat * K.n + q) ++ vs ++ cur.toList.drop (ii.toNat * K.n + q + vs.length)).toArray) fun b hb _ => hoth b fun h => hgx (h ▸ hb)
      have hK' := hput _ x' vs ox hA' fun b hb _ => hoth b fun h => hnd'.1 (by subst h; simp at hb ⊢; rcases hb with hb | hb <;> simp [hb])
      have hnew := hset _ _ _ _ hK' fun b hb _ => hoth b fun h => hnd'.1 (by subst h; simp at hb ⊢; rcases hb with hb | hb <;> simp [hb])
      have hcl : cells.length = xs.length * K.n := hl
      have hcells : cells.take (ii.toNat * K.n) ++ (r1 ++ (vs ++ r3)) ++ cells.drop ((ii.toNat + 1) * K.n) = cells.take (ii.toNat * K.n + q) ++ vs ++ cells.drop (ii.toNat * K.n + q + vs.length) := by
        have e0 : cells = cells.take (ii.toNat * K.n) ++ ((r1 ++ (r2 ++ r3)) ++ cells.drop ((ii.toNat + 1) * K.n)) := by
          rw [← hes, Nat.add_mul, Nat.one_mul, ← List.drop_drop, List.take_append_drop, List.take_append_drop]
        have hlt : (cells.take (ii.toNat * K.n)).length = ii.toNat * K.n := by rw [List.length_take]; omega
        have e5 : cells = (cells.take (ii.toNat * K.n) ++ r1) ++ (r2 ++ (r3 ++ cells.drop ((ii.toNat + 1) * K.n))) := by
          conv => lhs; rw [e0]
          simp
        have e6 : cells = (cells.take (ii.toNat * K.n) ++ (r1 ++ r2)) ++ (r3 ++ cells.drop ((ii.toNat + 1) * K.n)) := by
          conv => lhs; rw [e0]
          simp
        have t1 : cells.take (ii.toNat * K.n + q) = cells.take (ii.toNat * K.n) ++ r1 := by
          conv => lhs; rw [e5]
          exact List.take_left' (by rw [List.length_append, hlt, hq])
        have t2 : cells.drop (ii.toNat * K.n + q + vs.length) = r3 ++ cells.drop ((ii.toNat + 1) * K.n) := by
          conv => lhs; rw [e6]
          exact List.drop_left' (by rw [List.length_append, List.length_append, hlt, hq, hr2, hvl]; omega)
        rw [t1, t2]; simp
      rw [hcells] at hnew
      refine ⟨[g] ++ (p1 ++ (q1 ++ (ox ++ q3)) ++ p3), ⟨v, rfl, _, [g], _, rfl, ⟨?_, .inr ⟨g, cap', _, by rw [List.length_set]; exact h2, setRow_heap s.w g cur _ te _ hg, by simpa using hlc, hcm, ?_, ?_, rfl⟩⟩, hnew⟩, ?_, fun b hb => ?_⟩
      · simp only [List.length_set, List.length_append, List.length_take, List.length_drop, hvl, hl]
        omega
      · simp only [List.size_toArray, List.length_append, List.length_take, List.length_drop, Array.length_toList, hvl, hsz]
        omega
      · rw [List.length_set, ← htk, hvl]
        have e2 : (cur.toList.take (xs.length * K.n)).take (ii.toNat * K.n + q) = cur.toList.take (ii.toNat * K.n + q) := by rw [List.take_take]; congr 1; omega
        have e3 : (cur.toList.take (xs.length * K.n)).drop (ii.toNat * K.n + q + A.n) = (cur.toList.drop (ii.toNat * K.n + q + A.n)).take (xs.length * K.n - (ii.toNat * K.n + q + A.n)) := by rw [List.drop_take]
        rw [e2, e3]
        have hla : (cur.toList.take (ii.toNat * K.n + q) ++ vs).length = ii.toNat * K.n + q + A.n := by
          rw [List.length_append, List.length_take, Array.length_toList, hvl, hsz]; omega
        rw [List.take_append, List.take_of_length_le (by omega), hla]
      · have hdj : ∀ b, b ∈ ox → b ∉ g :: (p1 ++ (q1 ++ (q2 ++ q3)) ++ p3) := fun b hb hb2 => hcd' ((hcol b hb2).symm.trans (hxc b hb))
        rw [List.nodup_iff_count]
        intro b
        have c0 : (g :: (p1 ++ (q1 ++ (q2 ++ q3)) ++ p3)).count b ≤ 1 := List.nodup_iff_count.1 hnd b
        have c1 : ox.count b ≤ 1 := List.nodup_iff_count.1 hxn b
        rw [List.count_cons] at c0
        simp only [List.singleton_append, List.count_cons, List.count_append] at c0 ⊢
        by_cases hb : b ∈ ox
        · have z0 : (g :: (p1 ++ (q1 ++ (q2 ++ q3)) ++ p3)).count b = 0 := List.count_eq_zero.2 (hdj b hb)
          rw [List.count_cons] at z0
          simp only [List.count_append] at z0
          omega
        · have : ox.count b = 0 := List.count_eq_zero.2 hb
          omega
      · dsimp only
        simp only [List.singleton_append, List.mem_cons, List.mem_append] at hb
        rcases hb with rfl | (hb | hb | hb | hb) | hb
        · simp [hgc]
        · simp [hcol b (by simp [hb])]
        · simp [hcol b (by simp [hb])]
        · simp [hxc b hb]
        · simp [hcol b (by simp [hb])]
        · simp [hcol b (by simp [hb])]
def LoF {α : Type} (K : Kd α) (s : St) (cs : List Value) (xs : List α) (c : Nat) : Prop := ∃ os, ElsO K s.w xs cs os ∧ os.Nodup ∧ ∀ b ∈ os, s.g b = c
theorem lo_one {α : Type} {K : Kd α} {cs : List Value} {x : α} {c : Nat} (h : OwF K s cs x c) : LoF K s cs [x] c := by
 obtain ⟨os, ho, hn, hc⟩ := h
 exact ⟨os, ⟨cs, [], os, [], by simp, by simp, ho, rfl, rfl⟩, hn, hc⟩
theorem lo_cons {α : Type} {K : Kd α} {c1 c2 : List Value} {x : α} {xs : List α} {c d' : Nat} (h : OwF K s c1 x c) (h2 : LoF K s c2 xs d') (hcd : Nat.beq c d' = false) (h10 : Nat.ble 40 d' = true) : ∃ s' : St, s.w = s'.w ∧ Stp [d'] s s' ∧ LoF K s' (c1 ++ c2) (x :: xs) c := by
 have hcd' : c ≠ d' := fun h => by subst h; simp at hcd
 have h10' := Nat.le_of_ble_eq_true h10
 obtain ⟨os, ho, hn, hc⟩ := h
 obtain ⟨ps, hp, hpn, hpc⟩ := h2
 refine ⟨⟨s.w, fun b => if s.g b = d' then c else s.g b⟩, rfl, ⟨rfl, rfl, rfl, Nat.le_refl _, fun b hb hl => ?_, fun b hb hm => ⟨?_, rfl⟩⟩, os ++ ps, ⟨c1, c2, os, ps, rfl, rfl, ho, hp⟩, List.nodup_append.2 ⟨hn, hpn, fun a ha b hb hab => ?_⟩, fun b hb => ?_⟩
 · have : ¬ s.g b = d' := by omega
   simp [this]
 · have : ¬ s.g b = d' := fun h => by rw [h] at hm; simp [memb] at hm
   simp [this]
 · subst hab; exact hcd' ((hc a ha).symm.trans (hpc a hb))
 · rcases List.mem_append.1 hb with hb | hb
   · simp [hc b hb]
   · simp [hpc b hb]
theorem ltO {α : Type} {K : Kd α} {t te l : Nat} {z : Value} {parts : Array (Nat × Operand)} {cells : List Value} (xs : List α) (c : Nat) (hu : P.underlying t = some (.slice te)) (hs : (P.info? te).map (·.size) = some K.n) (hz : (P.info? te).bind (·.zero) = some z) (hE : LoF K s cells xs c)
    (ho : ops[i]? = some o) (hd : o.dst = some d) (hN : Nat.blt d N = true) (hw : Region.wanted o (yv e ops) = true) (hop : o.op = .buildSlice t l parts) (hln : Nat.ble (l * K.n) 16777216 = true) (hpos : Nat.ble 1 (l * K.n) = true) (hl : xs.length = l)
    (hzn : z.cells.toList.length = K.n) (hfill : lfill (fun i => some (i * K.n, K.n)) (List.replicate l z.cells.toList).flatten (parts.toList.map fun (i, x) => (i, ev e x)) = some cells)
    (h : ∀ v s', Stp [c] s s' → OwF (Kd.sl te K) s' [v] xs c → TM P f N m G R (.inRegion ops rest :: k) (upd e d v) s'.w) :
    TM P f N m G R (.inRegion ops (i :: rest) :: k) e s.w := by
  obtain ⟨os, hE, hn, hc⟩ := hE
  have hlen := hE.len
  have h2 := Nat.le_of_ble_eq_true hln
  have h3 := Nat.le_of_ble_eq_true hpos
  have hn' : 0 < K.n := Nat.pos_of_ne_zero fun h => by rw [h] at h3; simp at h3
  obtain ⟨s', hs', p, nn, hrow⟩ := new_row (s := s) (te := te) (n := K.n) (l := l) (cells := cells.toArray) c rfl (by simp [hlen, hl]) (by have : l * 1 ≤ l * K.n := Nat.mul_le_mul_left _ hn'; simp only [maxLen]; omega)
  refine vl (w' := s'.w) ho hd hN hw (by rw [hs']; exact lit_run hu hs hz hln hpos hzn hfill hop) (h _ s' ⟨p.os, p.tape, p.output, p.size, p.low, fun b hb _ => p.same b hb rfl⟩ ?_)
  subst hl
  have hlt := hE.lt
  refine ⟨[s.w.heap.size] ++ os, ⟨_, rfl, _, _, os, rfl, by simpa using hrow, hE.frame fun b hb hl => (p.same b hl rfl).2⟩, ?_, fun b hb => ?_⟩
  · refine List.nodup_append.2 ⟨by simp, hn, fun a ha b hb hab => ?_⟩
    simp at ha; subst hab; have := hlt a hb; omega
  · rcases List.mem_append.1 hb with hb | hb
    · simp at hb; subst hb; exact nn.new _ (Nat.le_refl _)
    · rw [nn.old b (hlt b hb), hc b hb]
end
theorem sp2 {α : Type} {K : Kd α} {s : St} {cs : List Value} {x : α} {p r : List Nat} {c : Nat} (c' : Nat) (h : K.ow s.w cs x p) (hn : (p ++ r).Nodup) (hc : ∀ b ∈ p ++ r, s.g b = c) (h10 : Nat.ble 40 c = true) :
    ∃ s' : St, s.w = s'.w ∧ Stp [c] s s' ∧ OwF K s' cs x c ∧ r.Nodup ∧ ∀ b ∈ r, s'.g b = c' := by
  have h10' := Nat.le_of_ble_eq_true h10
  have hn' := List.nodup_append.1 hn
  refine ⟨⟨s.w, fun b => open Classical in if b ∈ r then c' else s.g b⟩, rfl, ⟨rfl, rfl, rfl, Nat.le_refl _, fun b hb hl => ?_, fun b hb hm => ⟨?_, rfl⟩⟩, ⟨p, h, hn'.1, fun b hb => ?_⟩, hn'.2.1, fun b hb => by simp [hb]⟩
  · have : ¬ b ∈ r := fun h => by have := hc b (by simp [h]); omega
    simp [this]
  · have : ¬ b ∈ r := fun h => by have := hc b (by simp [h]); rw [this] at hm; simp [memb] at hm
    simp [this]
  · have : ¬ b ∈ r := fun h => hn'.2.2 b hb b h rfl
    simp only [this, if_false]
    exact hc b (by simp [hb])
theorem sp1 {α : Type} {K : Kd α} {s : St} {cs : List Value} {x : α} {p : List Nat} {c : Nat} (h : K.ow s.w cs x p) (hn : p.Nodup) (hc : ∀ b ∈ p, s.g b = c) : OwF K s cs x c := ⟨p, h, hn, hc⟩
def nextN (E : List (List Nat)) (L D : List Nat) (cs : List Nat) : Bool :=
 rangeB E.length fun i => memb cs i || memb L i || memb D i || anyB (E.getD i []) (fun j => Nat.blt j E.length && !memb L j && !memb D j)
section
variable {P : Program} {f : Who} {N : Nat} {O ρ : Type} {m : Option O} {G : O → Option ρ} {R : ρ → Ending → World → Prop} {k : List Item} {ops : Array Oper}
variable {E : List (List Nat)} {Ds : List (Option Nat)} {Us : List (List Nat)} {L D l : List Nat} {e Ec : Env} {w : World}
theorem zstepN (cs : List (Nat × List (Option Nat))) (tb : Tb ops E Ds Us) (z : Zr E Ds L D l e Ec) (hq : Pq P N ops Ec w L)
    (hb : (useB E Ds Us L && nextN E L D (cs.map (·.1)) && cs.all (fun p => Nat.blt p.1 E.length && !memb L p.1 && !memb D p.1) && !cs.isEmpty) = true)
    (hp : cs.all (fun p => ((pend E E.length L [p.1]).map fun i => Ds.getD i none) == p.2) = true)
    (h : ∀ p ∈ cs, ∀ l' e', Zr E Ds L D (p.1 :: l') (mix p.2 Ec e') Ec → TM P f N m G R (.inRegion ops (p.1 :: l') :: k) (mix p.2 Ec e') w) : TM P f N m G R (.inRegion ops l :: k) e w := by
  simp only [Bool.and_eq_true, Bool.not_eq_true'] at hb
  obtain ⟨⟨⟨hu, hn⟩, hall⟩, hne⟩ := hb
  induction l generalizing e with
  | nil =>
    cases cs with
    | nil => cases hne
    | cons p cs =>
      have hc := List.all_eq_true.1 hall p (by simp)
      simp only [Bool.and_eq_true, Bool.not_eq_true'] at hc
      have hc' : p.1 < E.length := by have := hc.1.1; simp [Nat.blt] at this; omega
      rcases z.ld p.1 hc' (by simp) with h | h
      · exact absurd h (nmemb hc.2)
      · exact absurd h (nmemb hc.1.2)
  | cons i l ih =>
    by_cases hi : i ∈ L
    · exact quiet tb z hq hu hi fun e' z' => ih z'
    · have hD : i ∉ D := fun h => z.done i h (by simp)
      have hlt := z.lt i (by simp)
      have := rangeB_out hn i hlt
      simp only [Bool.or_eq_true] at this
      have hic : i ∈ cs.map (·.1) := by
        rcases this with ((h | h) | h) | h
        · exact memb_iff.1 h
        · exact absurd (memb_iff.1 h) hi
        · exact absurd (memb_iff.1 h) hD
        · obtain ⟨j, hj, hp⟩ := anyB_out h
          simp only [Bool.and_eq_true, Bool.not_eq_true'] at hp
          have hjl : j ∉ i :: l := z.dep [] i l rfl j hj
          have hjlt : j < E.length := by have := hp.1.1; simp [Nat.blt] at this; omega
          rcases z.ld j hjlt hjl with h | h
          · exact absurd h (nmemb hp.2)
          · exact absurd h (nmemb hp.1.2)
      obtain ⟨⟨c, pd⟩, hmem, hcc⟩ := List.mem_map.1 hic
      simp only at hcc
      subst hcc
      have hc := List.all_eq_true.1 hall _ hmem
      simp only [Bool.and_eq_true, Bool.not_eq_true'] at hc
      have hpd := List.all_eq_true.1 hp _ hmem
      simp only [beq_iff_eq] at hpd
      have hcL := hc.1.2
      have he : e = mix pd Ec e := by
        funext t
        unfold mix
        cases hm2 : pd.any (fun x => optB x t) with
        | true => rfl
        | false =>
          refine z.env t fun j hj hjt hm3 => ?_
          have hjp : memb (pend E E.length L [c]) j = false := by
            cases hh : memb (pend E E.length L [c]) j with
            | false => rfl
            | true =>
              have : pd.any (fun x => optB x t) = true := by
                rw [List.any_eq_true]
                refine ⟨some t, ?_, optB_iff.2 rfl⟩
                rw [← hpd]
                exact List.mem_map.2 ⟨j, memb_iff.1 hh, hjt⟩
              rw [this] at hm2; cases hm2
          have hjs : j ∈ scan E E.length [c] := by
            cases hh : memb (scan E E.length [c]) j with
            | true => exact memb_iff.1 hh
            | false => exact absurd (List.mem_filter.2 ⟨hj, by simp [hh]⟩ : j ∈ pend E E.length L [c]) (nmemb hjp)
          have hnd := List.nodup_cons.1 z.nd
          have := scan_out (E := E) (l := l) (fun x hx hlt y hy hm => by
            by_cases hxi : x = c
            · subst hxi; exact z.dep [] x l rfl y hy (List.mem_cons_of_mem _ hm)
            · exact z.dn x hlt (by simp [hxi, hx]) y hy (List.mem_cons_of_mem _ hm)) (fun x hx => z.lt x (List.mem_cons_of_mem _ hx)) E.length [c] (by simpa using hnd.1) j hjs
          rcases List.mem_cons.1 hm3 with rfl | hm3
          · exact nmemb hcL hj
          · exact this hm3
      rw [he] at z ⊢
      exact h _ hmem l e z
theorem zstep2 (c1 c2 : Nat) (pd1 pd2 : List (Option Nat)) (tb : Tb ops E Ds Us) (z : Zr E Ds L D l e Ec) (hq : Pq P N ops Ec w L)
    (hb : (useB E Ds Us L && nextN E L D [c1, c2] && ([(c1, pd1), (c2, pd2)] : List (Nat × List (Option Nat))).all (fun p => Nat.blt p.1 E.length && !memb L p.1 && !memb D p.1) && !([(c1, pd1), (c2, pd2)] : List (Nat × List (Option Nat))).isEmpty) = true)
    (hp : ([(c1, pd1), (c2, pd2)] : List (Nat × List (Option Nat))).all (fun p => ((pend E E.length L [p.1]).map fun i => Ds.getD i none) == p.2) = true)
    (h1 : ∀ l' e', Zr E Ds L D (c1 :: l') (mix pd1 Ec e') Ec → TM P f N m G R (.inRegion ops (c1 :: l') :: k) (mix pd1 Ec e') w)
    (h2 : ∀ l' e', Zr E Ds L D (c2 :: l') (mix pd2 Ec e') Ec → TM P f N m G R (.inRegion ops (c2 :: l') :: k) (mix pd2 Ec e') w) : TM P f N m G R (.inRegion ops l :: k) e w :=
  zstepN [(c1, pd1), (c2, pd2)] tb z hq hb hp fun p hp l' e' => by
    simp only [List.mem_cons, List.not_mem_nil, or_false] at hp
    rcases hp with rfl | rfl
    · exact h1 l' e'
    · exact h2 l' e'
theorem zstep3 (c1 c2 c3 : Nat) (pd1 pd2 pd3 : List (Option Nat)) (tb : Tb ops E Ds Us) (z : Zr E Ds L D l e Ec) (hq : Pq P N ops Ec w L)
    (hb : (useB E Ds Us L && nextN E L D [c1, c2, c3] && ([(c1, pd1), (c2, pd2), (c3, pd3)] : List (Nat × List (Option Nat))).all (fun p => Nat.blt p.1 E.length && !memb L p.1 && !memb D p.1) && !([(c1, pd1), (c2, pd2), (c3, pd3)] : List (Nat × List (Option Nat))).isEmpty) = true)
    (hp : ([(c1, pd1), (c2, pd2), (c3, pd3)] : List (Nat × List (Option Nat))).all (fun p => ((pend E E.length L [p.1]).map fun i => Ds.getD i none) == p.2) = true)
    (h1 : ∀ l' e', Zr E Ds L D (c1 :: l') (mix pd1 Ec e') Ec → TM P f N m G R (.inRegion ops (c1 :: l') :: k) (mix pd1 Ec e') w)
    (h2 : ∀ l' e', Zr E Ds L D (c2 :: l') (mix pd2 Ec e') Ec → TM P f N m G R (.inRegion ops (c2 :: l') :: k) (mix pd2 Ec e') w)
    (h3 : ∀ l' e', Zr E Ds L D (c3 :: l') (mix pd3 Ec e') Ec → TM P f N m G R (.inRegion ops (c3 :: l') :: k) (mix pd3 Ec e') w) : TM P f N m G R (.inRegion ops l :: k) e w :=
  zstepN [(c1, pd1), (c2, pd2), (c3, pd3)] tb z hq hb hp fun p hp l' e' => by
    simp only [List.mem_cons, List.not_mem_nil, or_false] at hp
    rcases hp with rfl | rfl | rfl
    · exact h1 l' e'
    · exact h2 l' e'
    · exact h3 l' e'
end
end Go.Proofs.YtkkpplnhcpjmgaaGreat.V
set_option linter.unusedVariables false
set_option linter.unusedSimpArgs false
namespace Go.Proofs.YtkkpplnhcpjmgaaGreat.V
open Go
def fl_ (ps : List (List Nat × Nat)) : List Nat := (ps.map (·.1)).flatten
structure ZN (F : Nat → Prop) (ps : List (List Nat × Nat)) (s : St) : Prop where
 z : ∀ b, F b ↔ s.g b = 0
 lo : ∀ b, b ∉ fl_ ps → s.g b < 2
 pt : ∀ p ∈ ps, ∀ b ∈ p.1, s.g b = p.2
noncomputable def colN (ps : List (List Nat × Nat)) (b : Nat) : Nat := match ps with
 | [] => 1
 | p :: ps => open Classical in if b ∈ p.1 then p.2 else colN ps b
theorem colN_out {ps : List (List Nat × Nat)} {b : Nat} (h : b ∉ fl_ ps) : colN ps b = 1 := by
 induction ps with
 | nil => rfl
 | cons p ps ih =>
  simp only [fl_, List.map_cons, List.flatten_cons, List.mem_append, not_or] at h
  unfold colN
  rw [if_neg h.1]
  exact ih h.2
theorem colN_in {ps : List (List Nat × Nat)} (hn : (fl_ ps).Nodup) : ∀ p ∈ ps, ∀ b ∈ p.1, colN ps b = p.2 := by
 induction ps with
 | nil => intro p hp; cases hp
 | cons q ps ih =>
  intro p hp b hb
  have hn' := List.nodup_append.1 (show (q.1 ++ fl_ ps).Nodup from hn)
  unfold colN
  rcases List.mem_cons.1 hp with rfl | hp
  · rw [if_pos hb]
  · have : b ∉ q.1 := fun h => hn'.2.2 b h b (List.mem_flatten.2 ⟨p.1, List.mem_map.2 ⟨p, hp, rfl⟩, hb⟩) rfl
    rw [if_neg this]
    exact ih hn'.2.1 p hp b hb
theorem colN_ge {ps : List (List Nat × Nat)} (h : ps.all (fun p => Nat.ble 2 p.2) = true) (b : Nat) : 1 ≤ colN ps b := by
 induction ps with
 | nil => exact Nat.le_refl _
 | cons p ps ih =>
  simp only [List.all_cons, Bool.and_eq_true] at h
  unfold colN
  split
  · have := Nat.le_of_ble_eq_true h.1; omega
  · exact ih h.2
theorem startN (w : World) (F : Nat → Prop) (ps : List (List Nat × Nat)) (hn : (fl_ ps).Nodup) (hF : ∀ b, F b → b ∉ fl_ ps) (hc : ps.all (fun p => Nat.ble 2 p.2) = true) : ∃ s : St, s.w = w ∧ Kp s s ∧ ZN F ps s := by
 refine ⟨⟨w, fun b => open Classical in if F b then 0 else colN ps b⟩, rfl, ⟨rfl, rfl, rfl, Nat.le_refl _, fun b hb _ => rfl, fun _ _ _ => rfl⟩, ⟨fun b => ?_, fun b hb => ?_, fun p hp b hb => ?_⟩⟩
 · have := colN_ge hc b
   dsimp only
   constructor
   · intro h; rw [if_pos h]
   · intro h; split at h
     · assumption
     · omega
 · dsimp only
   split
   · omega
   · rw [colN_out hb]; omega
 · dsimp only
   have hm : b ∈ fl_ ps := List.mem_flatten.2 ⟨p.1, List.mem_map.2 ⟨p, hp, rfl⟩, hb⟩
   rw [if_neg fun h => hF b h hm]
   exact colN_in hn p hp b hb
section
variable {F : Nat → Prop} {ps : List (List Nat × Nat)} {s s' : St}
theorem ZN.rd (z : ZN F ps s) {α : Type} {K : Kd α} {cs : List Value} {x : α} (h : K.rd s.w cs x F) : RdF K s cs x [0] :=
 K.rd_mono h fun b hb _ => by rw [(z.z b).1 hb]; rfl
theorem ZN.ow (z : ZN F ps s) {α : Type} {K : Kd α} {cs : List Value} {x : α} {p : List Nat} {c : Nat} (hm : (p, c) ∈ ps) (hn : p.Nodup) (h : K.ow s.w cs x p) : OwF K s cs x c := ⟨p, h, hn, fun b hb => z.pt _ hm b hb⟩
theorem ZN.ky (z : ZN F ps s) (p : Kp s s') : Ky (fl_ ps) s.w s'.w := ⟨p.os, p.tape, p.output, p.size, fun b hb hn => p.same b hb (z.lo b hn)⟩
def OwC {α : Type} (K : Kd α) (s : St) (cs : List Value) (x : α) (C : List Nat) : Prop := ∃ os, K.ow s.w cs x os ∧ os.Nodup ∧ ∀ b ∈ os, memb C (s.g b) = true
theorem oc_ow {α : Type} {K : Kd α} {cs : List Value} {x : α} {c : Nat} (h : OwF K s cs x c) : OwC K s cs x [c] := by
 obtain ⟨os, ho, hn, hc⟩ := h
 exact ⟨os, ho, hn, fun b hb => by rw [hc b hb]; simp [memb]⟩
theorem ZN.fw (z : ZN F ps s) (p : Kp s s') {α : Type} {K : Kd α} {cs : List Value} {x : α} {C : List Nat} (h : OwC K s' cs x C) (hC : C.all (Nat.ble 2 ·) = true) : FW K (fl_ ps) s.w s'.w cs x := by
 obtain ⟨os, ho, hn, hc⟩ := h
 refine ⟨os, ho, hn, fun b hb => ?_⟩
 by_cases hl : b < s.w.heap.size
 · left
   refine Classical.byContradiction fun hne => ?_
   have h1 := z.lo b hne
   have h2 := p.col b hl (by omega)
   have h3 := hc b hb
   rw [h2] at h3
   have := List.all_eq_true.1 hC _ (memb_iff.1 h3)
   have := Nat.le_of_ble_eq_true this
   omega
 · right; omega
theorem ZN.ky' (z : ZN F ps s) {os : List Nat} (e : fl_ ps = os) (p : Kp s s') : Ky os s.w s'.w := e ▸ z.ky p
theorem ZN.fw' (z : ZN F ps s) {os : List Nat} (e : fl_ ps = os) (p : Kp s s') {α : Type} {K : Kd α} {cs : List Value} {x : α} {C : List Nat} (h : OwC K s' cs x C) (hC : C.all (Nat.ble 2 ·) = true) : FW K os s.w s'.w cs x := e ▸ z.fw p h hC
end
structure Nm (s s' : St) (os : List Nat) (c : Nat) : Prop where
 old : ∀ b, b < s.w.heap.size → b ∉ os → s'.g b = s.g b
 mv : ∀ b ∈ os, s'.g b = c
 new : ∀ b, s.w.heap.size ≤ b → s'.g b = c
theorem nwm {s : St} {p : Nat} {os : List Nat} {w' : World} (c : Nat) (hc : ∀ b ∈ os, s.g b = p) (ky : Ky os s.w w') (h40 : Nat.ble 40 p = true) : ∃ s' : St, s'.w = w' ∧ Stp [p] s s' ∧ Nm s s' os c := by
 have h40' := Nat.le_of_ble_eq_true h40
 refine ⟨⟨w', fun b => open Classical in if b ∈ os then c else if b < s.w.heap.size then s.g b else c⟩, rfl, ⟨ky.os, ky.tape, ky.output, ky.size, fun b hb hl => ?_, fun b hb hm => ?_⟩, ⟨fun b hb hn => by simp [hb, hn], fun b hb => by simp [hb], fun b hb => ?_⟩⟩
 · have : b ∉ os := fun h => by have := hc b h; omega
   simp [this, hb]
 · have : b ∉ os := fun h => by rw [hc b h] at hm; simp [memb] at hm
   exact ⟨by simp [this, hb], ky.same b hb this⟩
 · have : ¬ b < s.w.heap.size := by omega
   simp [this]
theorem FW.m {α : Type} {K : Kd α} {s s' : St} {os : List Nat} {cs : List Value} {x : α} {c : Nat} (h : FW K os s.w s'.w cs x) (n : Nm s s' os c) : OwF K s' cs x c := by
 obtain ⟨os', ho, hn, hf⟩ := h
 refine ⟨os', ho, hn, fun b hb => ?_⟩
 rcases hf b hb with h | h
 · exact n.mv b h
 · exact n.new b h
theorem BlF.rc {s : St} {b : Nat} {t : TypeId} {cs : List Value} {d : Nat} (h : BlF s b t cs d) (c : Nat) (hd : Nat.ble 40 d = true) : ∃ s' : St, s.w = s'.w ∧ Stp [d] s s' ∧ BlF s' b t cs c := by
 have hd' := Nat.le_of_ble_eq_true hd
 refine ⟨⟨s.w, fun b => if s.g b = d then c else s.g b⟩, rfl, ⟨rfl, rfl, rfl, Nat.le_refl _, fun b hb hl => ?_, fun b hb hm => ⟨?_, rfl⟩⟩, h.1, ?_⟩
 · have : ¬ s.g b = d := by omega
   simp [this]
 · have : ¬ s.g b = d := fun h => by rw [h] at hm; simp [memb] at hm
   simp [this]
 · simp [h.2]
section
variable {P : Program} {f : Who} {N : Nat} {O ρ : Type} {m : Option O} {G : O → Option ρ} {R : ρ → Ending → World → Prop} {e : Env} {s : St} {k : List Item} {ops : Array Oper} {i d : Nat} {rest : List Nat} {o : Oper}
theorem slO {α : Type} {K : Kd α} {t te : TypeId} {v : Value} {xs : List α} {c : Nat} {x q : Operand} {k2 : IntKind} {b : Int} (hF : OwF (Kd.sl te K) s [v] xs c) (hu : P.underlying t = some (.slice te)) (hs : (P.info? te).map (·.size) = some K.n)
    (ho : ops[i]? = some o) (hd : o.dst = some d) (hN : Nat.blt d N = true) (hw : Region.wanted o (yv e ops) = true) (hop : o.op = .slice t x none (some q) none) (hx : ev e x = v) (hq : ev e q = .int k2 b)
    (h : ∀ v', OwF (Kd.sl te K) s [v'] (xs.take b.toNat) c → TM P f N m G R (.inRegion ops rest :: k) (upd e d v') s.w) : TM P f N (if 0 ≤ b ∧ b ≤ xs.length then m else none) G R (.inRegion ops (i :: rest) :: k) e s.w := by
  refine mg fun hg => ?_
  obtain ⟨b, rfl⟩ := Int.eq_ofNat_of_zero_le hg.1
  have hb : b ≤ xs.length := by have := hg.2; omega
  obtain ⟨os, ⟨v1, e1, cells, o1, o2, rfl, hR, hE⟩, hnd, hcol⟩ := hF
  obtain rfl : v = v1 := by simpa using e1
  obtain ⟨q1, q2, rfl, hE1, hE2⟩ := hE.take b
  simp only [Int.toNat_natCast] at h
  have hlt : (xs.take b).length = b := by simp; omega
  rcases hR.2 with ⟨rfl, h2, rfl⟩ | ⟨g, cap, cur, rfl, hg2, hnc, hcm, hcs, htake, rfl⟩
  · have hb0 : b = 0 := by omega
    subst hb0
    have hcut := cut_run (P := P) (w := s.w) (A := none) (len := 0) (cap := 0) (a := 0) (b := 0) (lo := none) (hi := some (.int k2 ((0 : Nat) : Int))) hu hs (Nat.le_refl _) (Nat.le_refl _) (.inl ⟨rfl, rfl⟩) (.inr ⟨k2, rfl⟩)
    refine vl ho hd hN hw (by simp only [execOp, hop, hx, Option.map_none, Option.map_some, hq]; rw [Sem.run_bind', hcut]; rfl) (h _ ?_)
    exact Yk te K s c
  · have hcut := cut_run (P := P) (w := s.w) (A := some ⟨g, 0, none⟩) (len := xs.length) (cap := cap) (a := 0) (b := b) (lo := none) (hi := some (.int k2 (b : Int))) hu hs (Nat.zero_le _) (by omega) (.inl ⟨rfl, rfl⟩) (.inr ⟨k2, rfl⟩)
    refine vl ho hd hN hw (by simp only [execOp, hop, hx, Option.map_none, Option.map_some, hq]; rw [Sem.run_bind', hcut]; rfl) (h _ ?_)
    have hA : (if cap = 0 then some (⟨g, 0, none⟩ : Addr) else Option.map (fun a : Addr => a.add (0 * K.n)) (some ⟨g, 0, none⟩)) = some ⟨g, 0, none⟩ := by
      split
      · rfl
      · simp [add_zero]
    rw [hA, Nat.sub_zero, Nat.sub_zero]
    have hnd' : ([g] ++ q1).Nodup := by
      have : ([g] ++ (q1 ++ q2)).Nodup := hnd
      rw [← List.append_assoc] at this
      exact (List.nodup_append.1 this).1
    refine ⟨[g] ++ q1, ⟨_, rfl, cells.take (b * K.n), [g], q1, rfl, ?_, hE1⟩, hnd', fun b' hb' => hcol b' (by simp at hb' ⊢; rcases hb' with h | h <;> simp [h])⟩
    have hmul : b * K.n ≤ xs.length * K.n := Nat.mul_le_mul_right _ hb
    rw [hlt]
    refine ⟨by rw [List.length_take, hR.1]; omega, .inr ⟨g, cap, cur, rfl, hg2, by omega, hcm, hcs, ?_, rfl⟩⟩
    rw [← htake, List.take_take]
    congr 1
    omega
end
end Go.Proofs.YtkkpplnhcpjmgaaGreat.V
set_option linter.unusedVariables false
set_option linter.unusedSimpArgs false
namespace Go.Proofs.YtkkpplnhcpjmgaaGreat.V
open Go
abbrev MD := List (Int × Bool)
def mcell (p : Int × Bool) : Value × Value := (.int .i64 p.1, .bool p.2)
def MpF (s : St) (b : Nat) (m : MD) (c : Nat) : Prop := ∃ es clock, s.w.heap[b]? = some (.map es clock) ∧ s.g b = c ∧ es.toList.map (fun e => (e.key, e.val)) = m.map mcell
theorem MpF.st {s s' : St} {S : List Nat} {b c : Nat} {m : MD} (h : MpF s b m c) (p : Stp S s s') (d : memb S c = false) : MpF s' b m c := by
 obtain ⟨es, cl, hb, hc, he⟩ := h
 have hl : b < s.w.heap.size := (Array.getElem?_eq_some_iff.1 hb).1
 have := p.same b hl (by rw [hc]; exact d)
 exact ⟨es, cl, by rw [this.2]; exact hb, by rw [this.1]; exact hc, he⟩
section
variable {P : Program} {f : Who} {N : Nat} {O ρ : Type} {m : Option O} {G : O → Option ρ} {R : ρ → Ending → World → Prop} {e : Env} {s : St} {k : List Item} {ops : Array Oper} {i d : Nat} {rest : List Nat} {o : Oper}
end
end Go.Proofs.YtkkpplnhcpjmgaaGreat.V
set_option linter.unusedVariables false
set_option linter.unusedSimpArgs false
namespace Go.Proofs.YtkkpplnhcpjmgaaGreat.V
open Go
structure Pk (β : Type) where
 cs : List Value
 x : β
instance {β : Type} [Inhabited β] : Inhabited (Pk β) := ⟨⟨[], default⟩⟩
end Go.Proofs.YtkkpplnhcpjmgaaGreat.V
set_option linter.unusedVariables false
set_option linter.unusedSimpArgs false
namespace Go.Proofs.YtkkpplnhcpjmgaaGreat.V
open Go
section
variable {P : Program} {f : Who} {N : Nat} {O ρ : Type} {m : Option O} {G : O → Option ρ} {R : ρ → Ending → World → Prop} {e : Env} {s : St} {k : List Item} {ops : Array Oper} {i d : Nat} {rest : List Nat} {o : Oper}
end
end Go.Proofs.YtkkpplnhcpjmgaaGreat.V
set_option linter.unusedVariables false
set_option linter.unusedSimpArgs false
namespace Go.Proofs.YtkkpplnhcpjmgaaGreat.V
open Go
def HoL {α β : Type} [Inhabited α] (te : TypeId) (K : Kd α) (A : Kd β) (q : Nat) (set : α → β → α) (s : St) (v : Value) (xs : List α) (ii : Int) (c : Nat) : Prop :=
 ∃ g cap cur c1 u0 c3 p1 p3, v = .slice (some ⟨g, 0, none⟩) xs.length cap ∧ s.w.heap[g]? = some (.cells cur te (0, 0)) ∧ xs.length ≤ cap ∧ cap ≤ maxLen ∧ cur.size = cap * K.n ∧
  cur.toList.take (xs.length * K.n) = c1 ++ (u0 ++ c3) ∧ u0.length = A.n ∧ c1.length = ii.toNat * K.n + q ∧ (g :: (p1 ++ p3)).Nodup ∧ (∀ b ∈ g :: (p1 ++ p3), s.g b = c ∧ b < s.w.heap.size) ∧ ii.toNat < xs.length ∧
  ∀ w' e2 y o2, A.ow w' e2 y o2 → Agr s.w w' (· ∈ p1 ++ p3) → ElsO K w' (xs.set ii.toNat (set (at_ xs ii) y)) (c1 ++ (e2 ++ c3)) (p1 ++ (o2 ++ p3))
theorem HoL.st {α β : Type} [Inhabited α] {te : TypeId} {K : Kd α} {A : Kd β} {q : Nat} {set : α → β → α} {s s' : St} {v : Value} {xs : List α} {ii : Int} {c : Nat} {S : List Nat} (h : HoL te K A q set s v xs ii c) (p : Stp S s s') (d : memb S c = false) : HoL te K A q set s' v xs ii c := by
 obtain ⟨g, cap, cur, c1, u0, c3, p1, p3, e1, e2, e3, e4, e5, e6, e7, e8, e9, e10, e11, e12⟩ := h
 have hs : ∀ b ∈ g :: (p1 ++ p3), s'.g b = s.g b ∧ s'.w.heap[b]? = s.w.heap[b]? := fun b hb => p.same b (e10 b hb).2 (by rw [(e10 b hb).1]; exact d)
 refine ⟨g, cap, cur, c1, u0, c3, p1, p3, e1, by rw [(hs g (by simp)).2]; exact e2, e3, e4, e5, e6, e7, e8, e9, fun b hb => ⟨by rw [(hs b hb).1]; exact (e10 b hb).1, Nat.lt_of_lt_of_le (e10 b hb).2 p.size⟩, e11, fun w' e2 y o2 hy ha => e12 w' e2 y o2 hy fun b hb hl => ?_⟩
 rw [ha b hb (Nat.lt_of_lt_of_le hl p.size), (hs b (by simp at hb ⊢; rcases hb with hb | hb <;> simp [hb])).2]
section
variable {P : Program} {f : Who} {N : Nat} {O ρ : Type} {m : Option O} {G : O → Option ρ} {R : ρ → Ending → World → Prop} {e : Env} {s : St} {k : List Item} {ops : Array Oper} {i d : Nat} {rest : List Nat} {o : Oper}
end
theorem RwF.sub {α : Type} {e : TypeId} {K : Kd α} {s : St} {v : Value} {xs : List α} {c : Nat} {C : List Nat} (h : RwF e K s v xs c C) {D : List Nat} (d : V.sub C D = true) : RwF e K s v xs c D := by
 obtain ⟨cells, os, h1, h2, h3⟩ := h
 exact ⟨cells, os, h1, h2, h3.mono fun b hb _ => sub_out d hb⟩
end Go.Proofs.YtkkpplnhcpjmgaaGreat.V
set_option linter.unusedVariables false
set_option linter.unusedSimpArgs false
namespace Go.Proofs.YtkkpplnhcpjmgaaGreat.V
open Go
theorem ElsR.set {α : Type} {K : Kd α} {w : World} {F : Nat → Prop} {xs : List α} {cells c' : List Value} {y : α} (h : ElsR K w F xs cells) (i : Nat) (hi : i < xs.length) (hy : K.rd w c' y F) : ElsR K w F (xs.set i y) (cells.take (i * K.n) ++ c' ++ cells.drop ((i + 1) * K.n)) := by
 rw [List.set_eq_take_append_cons_drop, if_pos hi, List.append_assoc]
 exact (h.take i).append ⟨c', _, rfl, hy, h.drop (i + 1)⟩
section
variable {P : Program} {f : Who} {N : Nat} {O ρ : Type} {m : Option O} {G : O → Option ρ} {R : ρ → Ending → World → Prop} {e : Env} {s : St} {k : List Item} {ops : Array Oper} {i d : Nat} {rest : List Nat} {o : Oper}
end
end Go.Proofs.YtkkpplnhcpjmgaaGreat.V
set_option linter.unusedVariables false
set_option linter.unusedSimpArgs false
namespace Go.Proofs.YtkkpplnhcpjmgaaGreat.V
open Go
section
variable {P : Program} {f : Who} {N : Nat} {O ρ : Type} {m : Option O} {G : O → Option ρ} {R : ρ → Ending → World → Prop} {e : Env} {s : St} {k : List Item} {ops : Array Oper} {i d : Nat} {rest : List Nat} {o : Oper}
end
end Go.Proofs.YtkkpplnhcpjmgaaGreat.V
set_option linter.unusedVariables false
set_option linter.unusedSimpArgs false
namespace Go.Proofs.YtkkpplnhcpjmgaaGreat.V
open Go
section
variable {P : Program} {f : Who} {N : Nat} {O ρ : Type} {m : Option O} {G : O → Option ρ} {R : ρ → Ending → World → Prop} {e : Env} {k : List Item} {ops : Array Oper}
variable {s : St} {i d : Nat} {rest : List Nat} {o : Oper}
end
end Go.Proofs.YtkkpplnhcpjmgaaGreat.V
set_option linter.unusedVariables false
set_option linter.unusedSimpArgs false
namespace Go.Proofs.YtkkpplnhcpjmgaaGreat.V
open Go
abbrev RT {ρ : Type} (Q : ρ → Value → World → Prop) (r : ρ) (en : Ending) (w' : World) : Prop := ∃ v, en = .returned v ∧ Q r v w'
end Go.Proofs.YtkkpplnhcpjmgaaGreat.V
set_option linter.unusedVariables false
set_option linter.unusedSimpArgs false
namespace Go.Proofs.YtkkpplnhcpjmgaaGreat.V
open Go
section
variable {α : Type} {K : Kd α} {te : TypeId} {s : St} {v v' : Value} {xs : List α} {c : Nat}
end
section
variable {P : Program} {f : Who} {N : Nat} {O ρ : Type} {m : Option O} {G : O → Option ρ} {R : ρ → Ending → World → Prop} {e : Env} {s : St} {k : List Item} {ops : Array Oper} {i d : Nat} {rest : List Nat} {o : Oper}
end
end Go.Proofs.YtkkpplnhcpjmgaaGreat.V
set_option linter.unusedVariables false
set_option linter.unusedSimpArgs false
set_option linter.unusedSectionVars false
namespace Go.Proofs.YtkkpplnhcpjmgaaGreat.V
open Go
section
variable {α : Type} [Inhabited α]
end
section
variable {β : Type} [Inhabited β] {K : Kd β} {te : TypeId}
def PkB (K : Kd β) (s : St) (ps : List (Pk β × List Nat)) (c : Nat) : Prop := (∀ p ∈ ps, K.ow s.w p.1.cs p.1.x p.2) ∧ ((ps.map (·.2)).flatten).Nodup ∧ ∀ b ∈ (ps.map (·.2)).flatten, s.g b = c
theorem mem_fl {ps : List (Pk β × List Nat)} {p : Pk β × List Nat} (h : p ∈ ps) {b : Nat} (hb : b ∈ p.2) : b ∈ (ps.map (·.2)).flatten := List.mem_flatten.2 ⟨p.2, List.mem_map.2 ⟨p, h, rfl⟩, hb⟩
theorem PkB.st {s s' : St} {S : List Nat} {ps : List (Pk β × List Nat)} {c : Nat} (h : PkB K s ps c) (p : Stp S s s') (d : memb S c = false) : PkB K s' ps c := by
 refine ⟨fun q hq => K.ow_frame (h.1 q hq) fun b hb hl => (p.same b hl (by rw [h.2.2 b (mem_fl hq hb)]; exact d)).2, h.2.1, fun b hb => ?_⟩
 obtain ⟨l, hl, hbl⟩ := List.mem_flatten.1 hb
 obtain ⟨q, hq, rfl⟩ := List.mem_map.1 hl
 rw [(p.same b (K.ow_lt (h.1 q hq) b hbl) (by rw [h.2.2 b hb]; exact d)).1, h.2.2 b hb]
end
end Go.Proofs.YtkkpplnhcpjmgaaGreat.V
set_option linter.unusedVariables false
set_option linter.unusedSimpArgs false
namespace Go.Proofs.YtkkpplnhcpjmgaaGreat.V
open Go
def cov : List Nat → List Nat → List Nat → Bool
 | [], _, _ => true
 | c :: D, E, C => (memb E c || memb C c) && cov D E C
theorem cov_out {D E C : List Nat} (h : cov D E C = true) {n : Nat} (hn : memb D n = true) : memb E n = true ∨ memb C n = true := by
 induction D with
 | nil => cases hn
 | cons c D ih =>
  simp only [cov, Bool.and_eq_true, Bool.or_eq_true] at h
  simp only [memb, Bool.or_eq_true] at hn
  rcases hn with hn | hn
  · have := Nat.eq_of_beq_eq_true hn
    subst this; exact h.1
  · exact ih h.2 hn
structure Rc (E : List Nat) (q : Nat) (s s' : St) : Prop where
 w : s.w = s'.w
 inn : ∀ b, memb E (s.g b) = true → s'.g b = q
 out : ∀ b, memb E (s.g b) = false → s'.g b = s.g b
theorem RdF.rc {α : Type} {K : Kd α} {s s' : St} {cs : List Value} {x : α} {D E C : List Nat} {q : Nat} (h : RdF K s cs x D) (r : Rc E q s s') (hq : memb C q = true) (hc : cov D E C = true) : RdF K s' cs x C := by
 unfold RdF at h ⊢
 rw [← r.w]
 refine K.rd_mono h fun b hb _ => ?_
 rcases cov_out hc hb with h1 | h1
 · rw [r.inn b h1]; exact hq
 · cases hm : memb E (s.g b) with
   | true => rw [r.inn b hm]; exact hq
   | false => rw [r.out b hm]; exact h1
end Go.Proofs.YtkkpplnhcpjmgaaGreat.V
set_option linter.unusedVariables false
set_option linter.unusedSimpArgs false
namespace Go.Proofs.YtkkpplnhcpjmgaaGreat.V
open Go
theorem ZN.bl {F : Nat → Prop} {ps : List (List Nat × Nat)} {s : St} (z : ZN F ps s) {b c : Nat} {t : TypeId} {cs : List Value} (hm : ([b], c) ∈ ps) (h : BlW s.w b t cs) : BlF s b t cs c := ⟨h, z.pt _ hm b (by simp)⟩
section
variable {P : Program} {N : Nat} {e : Env} {s : St} {ops : Array Oper} {i d : Nat} {o : Oper}
end
end Go.Proofs.YtkkpplnhcpjmgaaGreat.V
set_option linter.unusedVariables false
set_option linter.unusedSimpArgs false
set_option linter.unusedSectionVars false
namespace Go.Proofs.YtkkpplnhcpjmgaaGreat.V
open Go
end Go.Proofs.YtkkpplnhcpjmgaaGreat.V
set_option linter.unusedVariables false
set_option linter.unusedSimpArgs false
namespace Go.Proofs.YtkkpplnhcpjmgaaGreat.V
open Go
structure Wg (w w' : World) : Prop where
 os : w'.os = w.os
 tape : w'.tape = w.tape
 output : w'.output = w.output
 size : w.heap.size ≤ w'.heap.size
def YV (P : Program) (l : Nat) (u : Value) (w : World) (Q : World → Prop) : Prop :=
 ∃ lp : Loop, w.heap[l]? = some (.loop lp) ∧ lp.params.size = 1 ∧
  ∀ c cs, ∃ w', Q w' ∧ Steps P (lone (Frame.round l lp.fn ((lp.params.zip #[u]).foldl (fun tmps (t, a) => tmps.setIfInBounds t a) lp.tmps) lp.assign lp.body .normal) (c :: cs) w) (lone (c.finish (.bool true)) cs w')
structure LpZ where
 l : Nat
 D : Nat
 lp : Loop
structure LoopF (Z : LpZ) (c : Nat) (st : LoopState) (s : St) : Prop where
 lh : s.w.heap[Z.l]? = some (.loop { Z.lp with state := st })
 dh : s.w.heap[Z.D]? = some (.deferred (some []))
 lc : s.g Z.l = c
 dc : s.g Z.D = c
 ne : Z.l ≠ Z.D
 pe : Z.lp.pending = none
theorem LoopF.st {Z : LpZ} {c : Nat} {st : LoopState} {s s' : St} {S : List Nat} (h : LoopF Z c st s) (p : Stp S s s') (d : memb S c = false) : LoopF Z c st s' := by
 have h1 := p.same Z.l (Array.getElem?_eq_some_iff.1 h.lh).1 (by rw [h.lc]; exact d)
 have h2 := p.same Z.D (Array.getElem?_eq_some_iff.1 h.dh).1 (by rw [h.dc]; exact d)
 exact ⟨h1.2.trans h.lh, h2.2.trans h.dh, h1.1.trans h.lc, h2.1.trans h.dc, h.ne, h.pe⟩
theorem LoopF.set {Z : LpZ} {c : Nat} {st : LoopState} {s : St} (h : LoopF Z c st s) (st' : LoopState) : ∃ s' : St, s'.w = s.w.putObj Z.l (.loop { Z.lp with state := st' }) ∧ Stp [c] s s' ∧ LoopF Z c st' s' := by
 refine ⟨⟨s.w.putObj Z.l (.loop { Z.lp with state := st' }), s.g⟩, rfl, ⟨rfl, rfl, rfl, by simp, fun _ _ _ => rfl, fun b hb hm => ⟨rfl, ?_⟩⟩, ⟨World.putObj_heap_same (Array.getElem?_eq_some_iff.1 h.lh).1, ?_, h.lc, h.dc, h.ne, h.pe⟩⟩
 · refine World.putObj_heap_other fun e => ?_
   subst e; rw [h.lc] at hm; simp [memb] at hm
 · exact (World.putObj_heap_other (Ne.symm h.ne)).trans h.dh
theorem LoopF.shut {Z : LpZ} {c : Nat} {st : LoopState} {s : St} (h : LoopF Z c st s) : ∃ s' : St, s'.w = s.w.putObj Z.D (.deferred none) ∧ Stp [c] s s' := by
 refine ⟨⟨s.w.putObj Z.D (.deferred none), s.g⟩, rfl, ⟨rfl, rfl, rfl, by simp, fun _ _ _ => rfl, fun b hb hm => ⟨rfl, ?_⟩⟩⟩
 refine World.putObj_heap_other fun e => ?_
 subst e; rw [h.dc] at hm; simp [memb] at hm
theorem Kp.self (s : St) : Kp s s := ⟨rfl, rfl, rfl, Nat.le_refl _, fun _ _ _ => rfl, fun _ _ _ => rfl⟩
def JF {σ : Type} (J : σ → World → Prop) (s : St) (y : σ) : Prop := J y s.w
theorem Stp.ky {s s' : St} (p : Stp [] s s') : Ky [] s.w s'.w := ⟨p.os, p.tape, p.output, p.size, fun b hb _ => (p.same b hb rfl).2⟩
theorem JF.st {σ : Type} {J : σ → World → Prop} {s s' : St} {y : σ} (h : JF J s y) (hJ : ∀ y w w', J y w → Ky [] w w' → J y w') (p : Stp [] s s') : JF J s' y := hJ _ _ _ h p.ky
theorem startY (w : World) : ∃ s : St, s.w = w ∧ Kp s s ∧ ∀ b, s.g b = 41 := ⟨⟨w, fun _ => 41⟩, rfl, Kp.self _, fun _ => rfl⟩
theorem zy_b {s : St} (z : ∀ b, s.g b = 41) {b : Nat} {t : TypeId} {cs : List Value} (h : BlW s.w b t cs) : BlF s b t cs 41 := ⟨h, z b⟩
theorem zy_r {s : St} (z : ∀ b, s.g b = 41) {α : Type} {K : Kd α} {cs : List Value} {x : α} (h : K.rd s.w cs x (fun _ => True)) : RdF K s cs x [41] := K.rd_mono h fun b _ _ => by rw [z b]; rfl
theorem Kp.wg {s s' : St} (k : Kp s s') : Wg s.w s'.w := ⟨k.os, k.tape, k.output, k.size⟩
theorem nwy {s : St} {w' : World} (h : Wg s.w w') : ∃ s' : St, s'.w = w' ∧ (∀ b, s'.g b = 41) ∧ ∀ {s0 : St}, Kp s0 s → (∀ b, 40 ≤ s0.g b) → Kp s0 s' :=
 ⟨⟨w', fun _ => 41⟩, rfl, fun _ => rfl, fun {s0} k z0 => ⟨h.os.trans k.os, h.tape.trans k.tape, h.output.trans k.output, Nat.le_trans k.size h.size, fun b hb hl => by have := z0 b; omega, fun b hb hl => by have := z0 b; omega⟩⟩
theorem dj_nil : ∀ C : List Nat, dj C [] = true
 | [] => rfl
 | c :: C => by simp [dj, memb, dj_nil C]
section
variable {P : Program} {f : Who} {N : Nat} {O ρ : Type} {m : Option O} {G : O → Option ρ} {R : ρ → Ending → World → Prop} {e : Env} {s : St} {w : World} {k : List Item} {ops : Array Oper} {i d : Nat} {rest : List Nat} {o : Oper}
theorem T.round_core {fn : FuncId} {l : Nat} {tmps : Array Value} {assign body : Code} {w1 : World} {Q : World → Prop} {RR : Ending → World → Prop} {E : Env} {v : Value}
    (ho : ops[i]? = some o) (hw : Region.wanted o (yv e ops) = true) (hput : ∀ a, Fr N e a → Fr N E (a.put o.dst v))
    (hr : (execOp (ev e) o).run P w = .ok (.round l fn tmps assign body) w1)
    (hc : ∀ c cs, ∃ w', Q w' ∧ Steps P (lone (Frame.round l fn tmps assign body .normal) (c :: cs) w1) (lone (c.finish v) cs w'))
    (h : ∀ w', Q w' → T P f N RR (.inRegion ops rest :: k) E w') : T P f N RR (.inRegion ops (i :: rest) :: k) e w := by
  intro b a cs hb hk hro ha hd
  have hg := stepGR_op (P := P) (b := b) (k := k) (cs := cs) (w := w) (rest := rest) ho (show Region.wanted o (yielded ops a.tmps) = true by rw [ha.yielded]; exact hw)
  have hr' : (execOp a.eval o).run P w = .ok (.round l fn tmps assign body) w1 := by rw [ha.eval]; exact hr
  rw [Oper.semAt_eq _ _ _ (not_defer hr' fun d h => by cases h)] at hg
  have henter : step P (lone (b.atR a (.inRegion ops (i :: rest) :: k)) cs w) = .next (lone (Frame.round l fn tmps assign body .normal) (b.atR a (.inRegion ops (i :: rest) :: k) :: cs) w1) :=
    step_lone_go (by rw [hg]; simp [stepG.apply, hr', Frame.atR])
  obtain ⟨w2, hQ, hsteps⟩ := hc (b.atR a (.inRegion ops (i :: rest) :: k)) cs
  have hfin : (b.atR a (.inRegion ops (i :: rest) :: k)).finish v = b.atR (a.put o.dst v) (.inRegion ops rest :: k) := by rw [Frame.finish_atR, ho]; rfl
  rw [hfin] at hsteps
  exact Gl.steps (.head henter hsteps) (h w2 hQ b (a.put o.dst v) cs hb hk hro (hput a ha) ((put_defers _ _ _).trans hd))
theorem yl {α : Type} {x : Option α} {km : α → Option O} {y : Operand} {args : Array Operand} {ts : Array TypeId} {l : Nat} {u : Value} {Q : α → World → Prop}
    (ho : ops[i]? = some o) (hd : o.dst = some d) (hN : Nat.blt d N = true) (hw : Region.wanted o (yv e ops) = true)
    (hop : o.op = .call { callee := .value y, args := args, argTypes := ts }) (hy : ev e y = .func (.yield l) #[] #[]) (hargs : args.toList.map (ev e) = [u])
    (hc : ∀ a, x = some a → YV P l u w (Q a))
    (h : ∀ a w', x = some a → Q a w' → TM P f N (km a) G R (.inRegion ops rest :: k) (upd e d (.bool true)) w') : TM P f N (x.bind km) G R (.inRegion ops (i :: rest) :: k) e w := by
  intro oo hoo r hr
  obtain ⟨a, ha, hkm⟩ := Option.bind_eq_some_iff.1 hoo
  obtain ⟨lp, hl, hp, hrun⟩ := hc a ha
  have hm : args.map (ev e) = #[u] := by rw [show args.map (ev e) = [u].toArray from by rw [← hargs, ← Array.toList_map]]
  have hx : (execOp (ev e) o).run P w = .ok (.round l lp.fn ((lp.params.zip #[u]).foldl (fun tmps (t, a) => tmps.setIfInBounds t a) lp.tmps) lp.assign lp.body) w := by
    have := run_yield (P := P) (args := #[u]) hl (by simp [hp])
    simp [execOp, hop, resolve, hy, Deferred.ofValue, invoke, hm, this]
  exact T.round_core (Q := Q a) ho hw (fun a' ha' => by rw [hd]; exact ha'.put d hN _) hx hrun fun w' hQ => h a w' ha hQ oo hkm r hr
theorem br {Z : LpZ} {c : Nat} (hL : LoopF Z c .ready s) (hr : f.rd = some Z.l) (h : ∀ s', Stp [c] s s' → LoopF Z c .busy s' → TM P f N m G R k e s'.w) : TM P f N m G R (.beginRound :: k) e s.w := by
 obtain ⟨s', hs', p, L⟩ := hL.set .busy
 refine TM.of (fun _ hT => ?_) (h s' p L)
 intro b a cs hb hk hro ha hd
 have hb2 := run_beginRound (P := P) hL.lh rfl
 exact Gl.steps (Steps.one (stepR_beginRound (hro.trans hr) hb2)) (by rw [hs'] at hT; exact hT b a cs hb hk hro ha hd)
theorem rde {Z : LpZ} {c : Nat} {o : O} {r : ρ} (hL : LoopF Z c .busy s) (hr : f.rd = some Z.l) (hG : G o = some r) (hR : ∀ s', Stp [c] s s' → LoopF Z c .ready s' → R r (.returned (.bool true)) s'.w) : TM P f N (some o) G R [] e s.w := by
 intro o' ho r' hr'
 obtain rfl := Option.some.inj ho
 rw [hG] at hr'
 obtain rfl := Option.some.inj hr'
 obtain ⟨s', hs', p, L⟩ := hL.set .ready
 intro b a cs hb hk hro ha hd
 have he := run_endRound (P := P) none hL.lh
 have hw : s.w.putObj Z.l (.loop { { Z.lp with state := .busy } with state := if (none : Option Code).isNone then .ready else .done, pending := none }) = s'.w := by
  rw [hs']
  have : Z.lp.pending = none := hL.pe
  simp only [Option.isNone_none, if_true]
  rw [show ({ Z.lp with state := LoopState.ready, pending := none } : Loop) = { Z.lp with state := .ready } by rw [← this]]
 rw [hw] at he
 unfold Gl
 rw [hr]
 intro c2 cs' e2
 subst e2
 exact ⟨_, s'.w, hR s' p L, Steps.one (stepR_round_end (hro.trans hr) hk he)⟩
theorem gl_ret {Z : LpZ} {c : Nat} {stt : LoopState} {fn : Func} {rs : List ResultVar} {vs : List Value} {v : Value} {RR : Ending → World → Prop} {b : Frame} {a : Act} {cs : List Frame} {todo : List Item} (hs : step P (lone (b.atR a todo) cs s.w) = .next (lone { b.atR a todo with mode := .returning } cs s.w)) {s' : St} (hs' : s'.w = s.w.putObj Z.D (.deferred none))
    (hL : LoopF Z c stt s) (h0 : f.rd = none) (h1 : f.df = some Z.D) (hf : P.funcs[f.fn]? = some fn) (h : fn.results = rs.toArray) (hb : b.fn = f.fn) (hk : b.kind = .normal) (ha : Fr N e a) (hd : a.defers = dsOf f.df)
    (hv : (match vs with | [v] => v | _ => .tuple vs.toArray) = v) (hl : ResL P s'.w e rs vs) (hR : RR (.returned v) s'.w) : Gl P f RR (lone (b.atR a todo) cs s.w) cs := by
  have ht := run_takeDeferred (P := P) hL.dh
  have h2 := step_collected (P := P) (fr := { b.atR a todo with mode := .returning }) (cs := cs) (w := s.w) (d := { target := .collected Z.D, args := #[] }) (ds := []) (by simp) (show a.defers = _ by rw [hd, h1]; rfl) rfl ht
  unfold Gl
  rw [h0]
  refine ⟨.returned v, s'.w, { b.atR a todo with mode := .returning, defers := [] }, hR, Steps.trans (Steps.one hs) (Steps.one (by rw [hs']; exact h2)), hb, rfl, rfl, hk, fn, by rw [← hf]; exact congrArg (P.funcs[·]?) hb, ?_⟩
  rw [← hv]; exact (res_list h hl ha).trans (by cases vs with | nil => rfl | cons x xs => cases xs <;> rfl)
theorem reD {Z : LpZ} {c : Nat} {stt : LoopState} {fn : Func} {rs : List ResultVar} {r : ρ} {o : O} (hL : LoopF Z c stt s) (h0 : f.rd = none) (h1 : f.df = some Z.D) (hG : G o = some r) (hf : P.funcs[f.fn]? = some fn) (h : fn.results = rs.toArray)
    (H : ∀ s', Stp [c] s s' → ∃ vs v, ResL P s'.w e rs vs ∧ (match vs with | [v] => v | _ => .tuple vs.toArray) = v ∧ R r (.returned v) s'.w) : TM P f N (some o) G R (.code .ret :: k) e s.w := by
  intro o' ho r' hr'
  obtain rfl := Option.some.inj ho
  rw [hG] at hr'
  obtain rfl := Option.some.inj hr'
  obtain ⟨s', hs', p⟩ := hL.shut
  obtain ⟨vs, v, hl, hv, hR⟩ := H s' p
  intro b a cs hb hk hro ha hd
  exact gl_ret (stepR_ret (hro.trans h0)) hs' hL h0 h1 hf h hb hk ha hd hv hl hR
theorem cut3_rd {α : Type} {K : Kd α} {te : TypeId} {A : Option Addr} {cap : Nat} {xs : List α} {C : List Nat} {s : St} {a b c : Nat} (hF : RdF (Kd.sl te K) s [.slice A xs.length cap] xs C) (hab : a ≤ b) (hbc : b ≤ c) (hcl : c ≤ xs.length) :
    RdF (Kd.sl te K) s [.slice (if c = a then A else A.map (·.add (a * K.n))) (b - a) (c - a)] ((xs.take b).drop a) C := by
  obtain ⟨v', e1, A', cap', cells, e2, hcap, hels, hc⟩ := hF
  obtain rfl : Value.slice A xs.length cap = v' := by simpa using e1
  obtain ⟨rfl, rfl⟩ : A = A' ∧ cap = cap' := by injection e2 with h1 h2 h3; exact ⟨h1, h3⟩
  have hl : ((xs.take b).drop a).length = b - a := by simp; omega
  have hE : ElsR K s.w (fun b => memb C (s.g b) = true) ((xs.take b).drop a) ((cells.take (b * K.n)).drop (a * K.n)) := (hels.take b).drop a
  refine ⟨_, rfl, (if c = a then A else A.map (·.add (a * K.n))), c - a, _, by rw [hl], by rw [hl]; omega, hE, fun hne => ?_⟩
  have hlen := hE.len
  have hlt : a < b := by
    refine Classical.byContradiction fun hn => hne ?_
    have h0 : b - a = 0 := by omega
    rw [hl, h0, Nat.zero_mul] at hlen
    exact List.eq_nil_of_length_eq_zero hlen
  have hca : ¬ c = a := by omega
  have hcne : cells ≠ [] := fun h => hne (by rw [h]; simp)
  obtain ⟨ad, rfl, hF, hcell⟩ := hc hcne
  refine ⟨ad.add (a * K.n), by simp [hca], by rw [add_block]; exact hF, fun j u hj => ?_⟩
  rw [Addr.add_add']
  refine hcell _ _ ?_
  rw [List.getElem?_drop, List.getElem?_take] at hj
  split at hj
  · exact hj
  · cases hj
theorem sl3y {α : Type} {K : Kd α} {t te : TypeId} {v : Value} {xs : List α} {C : List Nat} {x p q r : Operand} {k1 k2 k3 : IntKind} {a b c : Int} (hF : RdF (Kd.sl te K) s [v] xs C) (hu : P.underlying t = some (.slice te)) (hs : (P.info? te).map (·.size) = some K.n)
    (ho : ops[i]? = some o) (hd : o.dst = some d) (hN : Nat.blt d N = true) (hw : Region.wanted o (yv e ops) = true) (hop : o.op = .slice t x (some p) (some q) (some r)) (hx : ev e x = v) (hp : ev e p = .int k1 a) (hq : ev e q = .int k2 b) (hr : ev e r = .int k3 c)
    (h : ∀ v', (∀ C' s', s'.w = s.w → RdF (Kd.sl te K) s' [v] xs C' → RdF (Kd.sl te K) s' [v'] ((xs.take b.toNat).drop a.toNat) C') → TM P f N m G R (.inRegion ops rest :: k) (upd e d v') s.w) : TM P f N (if 0 ≤ a ∧ a ≤ b ∧ b ≤ c ∧ c ≤ (xs.length : Int) then m else none) G R (.inRegion ops (i :: rest) :: k) e s.w := by
  refine mg fun hg => ?_
  obtain ⟨v', e1, A, cap, cells, e2, hcap, hels, hc⟩ := hF
  obtain rfl : v = v' := by simpa using e1
  subst e2
  obtain ⟨a, rfl⟩ := Int.eq_ofNat_of_zero_le hg.1
  obtain ⟨b, rfl⟩ := Int.eq_ofNat_of_zero_le (show 0 ≤ b by omega)
  obtain ⟨c, rfl⟩ := Int.eq_ofNat_of_zero_le (show 0 ≤ c by omega)
  have hab : a ≤ b := by omega
  have hbc : b ≤ c := by omega
  have hcl : c ≤ xs.length := by omega
  have e3 : (Instr.slice t (ev e x) (some (ev e p)) (some (ev e q)) (some (ev e r))).run P s.w = .ok (.slice (if c = a then A else A.map (·.add (a * K.n))) (b - a) (c - a)) s.w := by
    rw [hx, hp, hq, hr]
    have h1 : c ≤ cap := by omega
    simp [Instr.slice, Instr.sliceBounds, Instr.sliceBound, asIntOf, run_underlying hu, size_run hs, Result.andThen, hab, hbc, h1]
  refine vl (v := .slice (if c = a then A else A.map (·.add (a * K.n))) (b - a) (c - a)) (w' := s.w) ho hd hN hw (by
    have e4 : (Instr.sliceAt t (ev e x) (some (ev e p)) (some (ev e q)) (some (ev e r))).run P s.w = .ok (.slice (if c = a then A else A.map (·.add (a * K.n))) (b - a) (c - a)) s.w := by
      unfold Instr.sliceAt
      rw [Sem.run_bind', run_underlying hu]
      simp only [Result.andThen]
      exact e3
    simp [execOp, hop, e4, Result.andThen]) (h _ fun C' s' hw hR => ?_)
  simp only [Int.ofNat_eq_natCast, Int.toNat_natCast]
  exact cut3_rd hR hab hbc hcl
theorem rgC {S α : Type} {step_ : S → List α → Option S} {x : Option S} {km : S → Option O} {g : Operand} {p : Tmp} {assign body : Code} {c1 b1 b2 t1 t2 te q1 q2 : Nat} {K : Kd α} {v : Value} {n : Int} {xs : List α} {C : List Nat} {fnc : Func} {cc : Code} {ff : FuncId} {y0 : S}
    (c : Nat) (Inv : LpZ → S → St → Prop)
    (hf : P.funcs[c1]? = some fnc) (hbody : fnc.body = some cc) (hname : (fnc.name == "runtime.NumGoroutine") = false)
    (hg : ev e g = .func (.func c1) (List.toArray []) (List.toArray [.pointer (some ⟨b1, 0, none⟩), .pointer (some ⟨b2, 0, none⟩)])) (hp : Nat.blt p N = true)
    (h0 : ∀ Z s', Stp [] s s' → LoopF Z c .ready s' → Inv Z y0 s')
    (hx : ∀ Z y s, Inv Z y s → LoopF Z c .ready s ∧ BlF s b1 t1 [v] q1 ∧ BlF s b2 t2 [.int .i64 n] q2 ∧ RdF (Kd.sl te K) s [v] xs C)
    (hcall : ∀ (J : S → World → Prop) (l : Nat) (w : World), (∀ y w w', J y w → Ky [] w w' → J y w') → (∀ y w, J y w → BlW w b1 t1 [v] ∧ BlW w b2 t2 [.int .i64 n] ∧ (Kd.sl te K).rd w [v] xs (fun _ => True)) →
      (∀ y w' part u, J y w' → (∀ C' s', s'.w = w' → RdF (Kd.sl te K) s' [v] xs C' → RdF (Kd.sl te K) s' [u] part C') → ∀ y', step_ y part = some y' → YV P l u w' (fun w'' => J y' w'' ∧ Wg w' w'')) →
      J y0 w → ∀ r, x = some r → Calls P c1 #[.func (.yield l) #[] #[], .pointer (some ⟨b1, 0, none⟩), .pointer (some ⟨b2, 0, none⟩)] w (fun en w' => ∃ v, en = .returned v ∧ J r w' ∧ Wg w w'))
    (round : ∀ Z y s s' u part, Inv Z y s → Stp [] s s' → RdF (Kd.sl te K) s' [u] part C → TM P ⟨ff, some Z.l, none⟩ N (step_ y part) some (fun r en w' => en = .returned (.bool true) ∧ ∃ s2, w' = s2.w ∧ Inv Z r s2 ∧ Kp s' s2) [.code assign, .beginRound, .code body] (upd e p u) s'.w)
    (fin : ∀ Z y s s', Inv Z y s → Stp [c] s s' → LoopF Z c .exhausted s' → TM P ⟨ff, none, some Z.D⟩ N (km y) G R k e s'.w) :
    TM P ⟨ff, none, none⟩ N (x.bind km) G R (.code (.rangeFunc g #[p] assign body) :: k) e s.w := by
  intro oo hoo r hr
  obtain ⟨y1, hy1, hkm⟩ := Option.bind_eq_some_iff.1 hoo
  intro b a cs hb hk hro ha hd
  have hname' : ¬ fnc.name = "runtime.NumGoroutine" := by simpa using hname
  -- the record
  obtain ⟨lp, hlp⟩ : ∃ lp : Loop, lp = { state := .ready, pending := none, fn := b.fn, tmps := a.tmps, params := #[p], assign, body, defers := s.w.heap.size } := ⟨_, rfl⟩
  obtain ⟨W1, hW1⟩ : ∃ W1, (s.w.alloc (.deferred (some []))).alloc (.loop lp) = W1 := ⟨_, rfl⟩
  have hKy : Ky [] s.w W1 := by
    rw [← hW1]
    refine ⟨rfl, rfl, rfl, by simp; omega, fun b hb _ => ?_⟩
    rw [heap_alloc_old _ _ (by simp; omega), heap_alloc_old _ _ hb]
  obtain ⟨s1, hs1, p1, n1⟩ := nwx s W1 c hKy
  let Z : LpZ := ⟨s.w.heap.size + 1, s.w.heap.size, lp⟩
  have hL1 : LoopF Z c .ready s1 := by
    refine ⟨?_, ?_, n1.new _ (by simp [Z]), n1.new _ (by simp [Z]), by simp [Z], by simp [Z, hlp]⟩
    · rw [hs1, ← hW1]
      have := World.alloc_heap_new (s.w.alloc (.deferred (some []))) (.loop lp)
      rw [World.size_alloc] at this
      rw [this]
      simp [Z, hlp]
    · rw [hs1, ← hW1]
      show ((s.w.alloc (.deferred (some []))).alloc (.loop lp)).heap[s.w.heap.size]? = _
      rw [heap_alloc_old _ _ (by simp)]
      exact World.alloc_heap_new s.w _
  have hI1 := h0 Z s1 p1 hL1
  let J : S → World → Prop := fun y w => ∃ s s', Inv Z y s ∧ Stp [] s s' ∧ s'.w = w
  have hJ : ∀ y w w', J y w → Ky [] w w' → J y w' := by
    rintro y w w' ⟨s, s', hI, p, rfl⟩ ky
    obtain ⟨s'', hs'', p'', _⟩ := nwx s' w' 0 ky
    exact ⟨s, s'', hI, p.trans p'', hs''⟩
  have key := hcall J Z.l s1.w hJ (fun y w ⟨s, s', hI, p, hw⟩ => by
      obtain ⟨_, B1, B2, A⟩ := hx Z y s hI
      subst hw
      exact ⟨(B1.st p rfl).1, (B2.st p rfl).1, (A.st p (dj_nil C)).top⟩)
    (fun y w' part u hj hu y' hy' => by
      obtain ⟨s2, s2', hI, p2, rfl⟩ := hj
      obtain ⟨L2, B1, B2, A⟩ := hx Z y s2 hI
      have L2' := L2.st p2 rfl
      refine ⟨{ Z.lp with state := .ready }, L2'.lh, by simp [Z, hlp], fun c2 cs2 => ?_⟩
      have hT := round Z y s2 s2' u part hI p2 (hu C s2' rfl (A.st p2 (dj_nil C))) y' hy' y' rfl
      let b2 : Frame := { (default : Frame) with fn := b.fn, kind := .normal, roundOf := some Z.l }
      obtain ⟨v2, w2, hR2, hst⟩ := hT b2 { tmps := a.tmps.setIfInBounds p u, defers := [] } (c2 :: cs2) hb rfl rfl ⟨by simp [ha.size], fun t => by
          have := (ha.put p hp u).get t
          simpa [Act.put] using this⟩ rfl c2 cs2 rfl
      obtain ⟨e2, s3, rfl, hI3, k3⟩ := hR2
      obtain rfl : v2 = .bool true := by simpa using e2
      refine ⟨s3.w, ⟨⟨s3, s3, hI3, Stp.refl _, rfl⟩, k3.wg⟩, ?_⟩
      have hfr : Frame.round Z.l b.fn (((#[p] : Array Tmp).zip #[u]).foldl (fun tmps (t, a) => tmps.setIfInBounds t a) a.tmps) assign body .normal = b2.atR { tmps := a.tmps.setIfInBounds p u, defers := [] } [.code assign, .beginRound, .code body] := by
        simp [Frame.round, Frame.atR, b2]
      simp only [Z, hlp]
      simp only [Z, hlp] at hfr
      rw [hfr]
      exact hst) ⟨s1, s1, hI1, Stp.refl _, rfl⟩ y1 hy1
  -- the statement's own steps
  have he : (Instr.enterLoop b.fn a.tmps #[p] assign body b.roundOf).run P s.w = .ok (Z.l, [{ target := .collected Z.D, args := #[] }]) s1.w := by
    rw [hro]
    show (Instr.enterLoop b.fn a.tmps #[p] assign body none).run P s.w = _
    rw [run_enterLoop_outer, hs1, ← hW1, hlp]
  have hres : (resolve a.eval (rangeCall g Z.l) 0).run P s1.w = .ok { target := .fn (.func c1) #[.pointer (some ⟨b1, 0, none⟩), .pointer (some ⟨b2, 0, none⟩)], args := #[.func (.yield Z.l) #[] #[]] } s1.w := by
    have : a.eval g = .func (.func c1) #[] #[.pointer (some ⟨b1, 0, none⟩), .pointer (some ⟨b2, 0, none⟩)] := by rw [ha.eval, hg]
    simp only [resolve, this]
    simp [go_sem]
  have hinv : (invoke (.fn (.func c1) #[.pointer (some ⟨b1, 0, none⟩), .pointer (some ⟨b2, 0, none⟩)]) #[.func (.yield Z.l) #[] #[]]).run P s1.w = .ok (.enter c1 #[.func (.yield Z.l) #[] #[], .pointer (some ⟨b1, 0, none⟩), .pointer (some ⟨b2, 0, none⟩)]) s1.w := by
    simp [invoke, go_sem, callFunc, hf, hbody, hname']
  have henter := stepR_rangeFunc (P := P) (b := b) (a := a) (k := k) (cs := cs) (w := s.w) he hres hinv
  obtain ⟨en, w2, fr, hRR, hsteps, _, hleave⟩ := key (b.atR { a with defers := [{ target := .collected Z.D, args := #[] }] ++ a.defers } (.inRangeFunc Z.l :: k) :: cs)
  obtain ⟨v2, rfl, hj, _⟩ := hRR
  obtain ⟨s2, s2', hI2, p2, rfl⟩ := hj
  obtain ⟨L2, _⟩ := hx Z y1 s2 hI2
  have L2' := L2.st p2 rfl
  obtain ⟨s3, hs3, p3, L3⟩ := L2'.set .exhausted
  have hend := run_endLoop (P := P) L2'.lh (by simp)
  have hleave2 := step_leave_returned (c := b.atR { a with defers := [{ target := .collected Z.D, args := #[] }] ++ a.defers } (.inRangeFunc Z.l :: k)) (cs := cs) hleave
  have hfin : (b.atR { a with defers := [{ target := .collected Z.D, args := #[] }] ++ a.defers } (.inRangeFunc Z.l :: k)).finish v2 = b.atR { a with defers := [{ target := .collected Z.D, args := #[] }] ++ a.defers } (.endRangeFunc Z.l :: k) := finish_atR_inRangeFunc _ _
  rw [hfin] at hleave2
  have hnil : a.defers = [] := by rw [hd]; rfl
  have hlast : step P (lone (b.atR { a with defers := [{ target := .collected Z.D, args := #[] }] ++ a.defers } (.endRangeFunc Z.l :: k)) cs s2'.w) = .next (lone (b.atR { a with defers := [{ target := .collected Z.D, args := #[] }] ++ a.defers } k) cs s3.w) := by
    have hpe : Z.lp.pending = none := L2'.pe
    simp only [hpe] at hend
    have := stepR_endRangeFunc (b := b) (a := { a with defers := [{ target := .collected Z.D, args := #[] }] ++ a.defers }) (k := k) (cs := cs) hend
    rw [hs3]
    simp only [hpe]
    simpa using this
  have hT := fin Z y1 s2 s3 hI2 (p2.trans p3) L3 oo hkm r hr b { a with defers := [{ target := .collected Z.D, args := #[] }] ++ a.defers } cs hb hk hro ⟨ha.size, ha.get⟩ (by rw [hnil]; rfl)
  have hst : Steps P (lone (b.atR a (.code (.rangeFunc g #[p] assign body) :: k)) cs s.w) (lone (b.atR { a with defers := [{ target := .collected Z.D, args := #[] }] ++ a.defers } k) cs s3.w) :=
    .head henter (Steps.trans hsteps (.head hleave2 (.one hlast)))
  exact Gl.steps (f := ⟨ff, none, none⟩) hst hT
end
section
variable {P : Program} {f : Who} {N : Nat} {O ρ : Type} {G : O → Option ρ} {R : ρ → Ending → World → Prop} {k : List Item} {e : Env} {ops : Array Oper}
theorem Ym {α : Type} {x : Option α} {km : α → Option O} {i d : Nat} {rest : List Nat} {o : Oper} {g : FuncId} {fn : Func} {c : Code} {args : Array Operand} {ts : Array TypeId} {vs : List Value} {s : St} {V : α → Value} (cc : Nat) (t0 : E5 (ops[i]?) (some o) (o.dst) (some d) (Nat.blt d N) (true) (Region.wanted o (yv e ops)) (true) (o.op) (.call { callee := .value (.func g), args := args, argTypes := ts })) (hg : P.funcs[g]? = some fn) (t6 : E3 (fn.body) (some c) ((fn.name == "runtime.NumGoroutine")) (false) (args.toList.map (ev e)) (vs)) (hc : ∀ a, x = some a → Calls P g vs.toArray s.w fun en w' => ∃ v, en = .returned v ∧ v = V a ∧ Ky [] s.w w')
  (h : ∀ a s', Stp [] s s' → Nw s s' cc → TM P f N (km a) G R (.inRegion ops rest :: k) (upd e d (V a)) s'.w) : TM P f N (x.bind km) G R (.inRegion ops (i :: rest) :: k) e s.w :=
 cl (e5_ t0).1 (e5_ t0).2.1 (e5_ t0).2.2.1 (e5_ t0).2.2.2.1 (e5_ t0).2.2.2.2 hg (e3_ t6).1 (e3_ t6).2.1 (e3_ t6).2.2 hc fun a v w' _ hq => by
  obtain ⟨rfl, ky⟩ := hq
  obtain ⟨s', rfl, p, n⟩ := nwx s w' cc ky
  exact h a s' p n
theorem clO {α : Type} {x : Option α} {km : α → Option O} {i d : Nat} {rest : List Nat} {o : Oper} {g : FuncId} {fn : Func} {c : Code} {args : Array Operand} {ts : Array TypeId} {vs : List Value} {s : St} {β : Type} {K : Kd β} {X : α → β} (cc : Nat) (t0 : E5 (ops[i]?) (some o) (o.dst) (some d) (Nat.blt d N) (true) (Region.wanted o (yv e ops)) (true) (o.op) (.call { callee := .value (.func g), args := args, argTypes := ts })) (hg : P.funcs[g]? = some fn) (t6 : E3 (fn.body) (some c) ((fn.name == "runtime.NumGoroutine")) (false) (args.toList.map (ev e)) (vs)) (hc : ∀ a, x = some a → Calls P g vs.toArray s.w fun en w' => ∃ v, en = .returned v ∧ FO K s.w w' [v] (X a) ∧ Ky [] s.w w')
  (h : ∀ a v s', Stp [] s s' → OwF K s' [v] (X a) cc → TM P f N (km a) G R (.inRegion ops rest :: k) (upd e d v) s'.w) : TM P f N (x.bind km) G R (.inRegion ops (i :: rest) :: k) e s.w :=
 cl (e5_ t0).1 (e5_ t0).2.1 (e5_ t0).2.2.1 (e5_ t0).2.2.2.1 (e5_ t0).2.2.2.2 hg (e3_ t6).1 (e3_ t6).2.1 (e3_ t6).2.2 hc fun a v w' _ hq => by
  obtain ⟨f, ky⟩ := hq
  obtain ⟨s', rfl, p, n⟩ := nwx s w' cc ky
  exact h a v s' p (f.c n)
end
end Go.Proofs.YtkkpplnhcpjmgaaGreat.V
