
import Derived.Test.YtcagjdngannneaaVu
set_option linter.unusedVariables false
set_option linter.unusedSimpArgs false
namespace Go.Proofs.Ytcagjdngannneaa.V
open Go
theorem Ky.tr {M : List Nat} {w w' w'' : World} (h : Ky M w w') (h2 : Ky [] w' w'') : Ky M w w'' :=
  ⟨h2.os.trans h.os, h2.tape.trans h.tape, h2.output.trans h.output, Nat.le_trans h.size h2.size, fun b hb hn => by rw [h2.same b (Nat.lt_of_lt_of_le hb h.size) (by simp), h.same b hb hn]⟩
theorem RdF.kyo {α : Type} {K : Kd α} {s : St} {cs : List Value} {x : α} {C os : List Nat} {w' : World} {p : Nat} (h : RdF K s cs x C) (hc : ∀ b ∈ os, s.g b = p) (k : Ky os s.w w') (d : memb C p = false) : K.rd w' cs x (fun _ => True) :=
  K.rd_mono (K.rd_frame h fun b hb hl => k.same b hl fun hm => by rw [hc b hm] at hb; rw [hb] at d; cases d) fun _ _ _ => trivial
theorem BlF.kyo {s : St} {b c : Nat} {t : TypeId} {cs : List Value} {os : List Nat} {w' : World} {p : Nat} (h : BlF s b t cs c) (hc : ∀ b ∈ os, s.g b = p) (k : Ky os s.w w') (d : Nat.beq p c = false) : BlW w' b t cs := by
  have hl : b < s.w.heap.size := (Array.getElem?_eq_some_iff.1 h.1).1
  have := k.same b hl fun hm => by
    have h1 := hc b hm
    rw [h.2] at h1
    rw [h1, Nat.beq_refl] at d; cases d
  exact this.trans h.1
structure Pk (β : Type) where
  cs : List Value
  x : β
instance {β : Type} [Inhabited β] : Inhabited (Pk β) := ⟨⟨[], default⟩⟩
def Kd.pk (β : Type) (n : Nat) : Kd (Pk β) where
  n := n
  rd := fun _ cs p _ => cs = p.cs ∧ cs.length = n ∧ ∀ v ∈ cs, v.oneCell' = true
  ow := fun _ cs p os => (cs = p.cs ∧ cs.length = n ∧ ∀ v ∈ cs, v.oneCell' = true) ∧ os = []
  rd_len := fun h => h.2.1
  rd_one := fun h => h.2.2
  rd_frame := fun h _ => h
  rd_mono := fun h _ => h
  ow_frame := fun h _ => h
  ow_lt := fun h b hb => by rw [h.2] at hb; cases hb
  ow_rd := fun h => h.1
theorem fl_pk {β : Type} {n : Nat} : FlK (Kd.pk β n) := fun _ _ _ _ h _ => ⟨h, rfl⟩
theorem pk_of {β : Type} {K : Kd β} {w : World} : ∀ {xs : List β} {cells : List Value} {os : List Nat}, ElsO K w xs cells os →
    ∃ ps : List (Pk β × List Nat), ps.map (fun p => p.1.x) = xs ∧ (ps.map (·.2)).flatten = os ∧ (ps.map fun p => p.1.cs).flatten = cells ∧ ∀ p ∈ ps, K.ow w p.1.cs p.1.x p.2
  | [], cells, os, h => by obtain ⟨rfl, rfl⟩ := h; exact ⟨[], rfl, rfl, rfl, fun p hp => by cases hp⟩
  | x :: xs, cells, os, ⟨c1, c2, o1, o2, e1, e2, h1, h2⟩ => by
    obtain ⟨ps, hx, ho, hc, hp⟩ := pk_of h2
    refine ⟨(⟨c1, x⟩, o1) :: ps, by simp [hx], by simp [ho, e2], by simp [hc, e1], fun p hp' => ?_⟩
    rcases List.mem_cons.1 hp' with rfl | hp'
    · exact h1
    · exact hp p hp'
theorem pk_els {β : Type} {K : Kd β} {w : World} (w' : World) : ∀ (ps : List (Pk β × List Nat)), (∀ p ∈ ps, K.ow w p.1.cs p.1.x p.2) → ElsO (Kd.pk β K.n) w' (ps.map (·.1)) (ps.map fun p => p.1.cs).flatten []
  | [], _ => ⟨rfl, rfl⟩
  | p :: ps, h => ⟨p.1.cs, _, [], [], rfl, rfl, ⟨⟨rfl, K.rd_len (K.ow_rd (h p (by simp))), K.rd_one (K.ow_rd (h p (by simp)))⟩, rfl⟩, pk_els w' ps fun q hq => h q (by simp [hq])⟩
theorem pk_cells {β : Type} {n : Nat} {w : World} : ∀ {ps : List (Pk β)} {cells : List Value} {os : List Nat}, ElsO (Kd.pk β n) w ps cells os → cells = (ps.map (·.cs)).flatten ∧ os = []
  | [], cells, os, h => by obtain ⟨rfl, rfl⟩ := h; exact ⟨rfl, rfl⟩
  | p :: ps, cells, os, ⟨c1, c2, o1, o2, e1, e2, ⟨⟨h1, _⟩, h1'⟩, h2⟩ => by
    obtain ⟨hc, ho⟩ := pk_cells h2
    subst e1; subst e2; subst h1'; subst ho; subst hc; subst h1
    exact ⟨rfl, rfl⟩
theorem pk_back {β : Type} {K : Kd β} {w : World} : ∀ (ps : List (Pk β × List Nat)), (∀ p ∈ ps, K.ow w p.1.cs p.1.x p.2) → ElsO K w (ps.map fun p => p.1.x) (ps.map fun p => p.1.cs).flatten (ps.map (·.2)).flatten
  | [], _ => ⟨rfl, rfl⟩
  | p :: ps, h => ⟨p.1.cs, _, p.2, _, rfl, rfl, h p (by simp), pk_back ps fun q hq => h q (by simp [hq])⟩
theorem flat_sub {β : Type} (g : β → List Nat) {l m : List β} (h : l.Sublist m) : ((l.map g).flatten).Sublist ((m.map g).flatten) := by
  induction h with
  | slnil => exact .slnil
  | cons a h ih => simpa using ih.trans (List.sublist_append_right _ _)
  | cons_cons a h ih => simpa using (List.Sublist.refl (g a)).append ih
def delF {β : Type} : List β → (β → Option Bool) → Option (List β)
  | [], _ => some []
  | x :: xs, d => (d x).bind fun b => (delF xs d).map fun l => if b = true then l else x :: l
theorem delF_out {β : Type} {d : β → Option Bool} : ∀ {xs r : List β}, delF xs d = some r → (∀ x ∈ xs, ∃ b, d x = some b) ∧ r = xs.filter fun x => !((d x).getD false)
  | [], r, h => by cases h; exact ⟨fun x hx => (List.not_mem_nil hx).elim, rfl⟩
  | x :: xs, r, h => by
    unfold delF at h
    cases hd : d x with
    | none => rw [hd] at h; cases h
    | some b =>
      rw [hd, Option.bind_some] at h
      cases hr : delF xs d with
      | none => rw [hr] at h; cases h
      | some l =>
        rw [hr] at h
        obtain ⟨h1, h2⟩ := delF_out hr
        simp only [Option.map_some, Option.some.injEq] at h
        refine ⟨fun y hy => ?_, ?_⟩
        · rcases List.mem_cons.1 hy with rfl | hy
          · exact ⟨b, hd⟩
          · exact h1 y hy
        · rw [← h, List.filter_cons, hd, ← h2]
          cases b <;> simp
theorem delF_eq {β : Type} (d : β → Option Bool) (g : β → Bool) : ∀ (xs : List β), (∀ x ∈ xs, d x = some (g x)) → delF xs d = some (xs.filter fun x => !g x)
  | [], _ => rfl
  | x :: xs, h => by
    unfold delF
    rw [h x (by simp), delF_eq d g xs fun y hy => h y (by simp [hy])]
    simp only [Option.bind_some, Option.map_some, List.filter_cons]
    cases g x <;> simp
end Go.Proofs.Ytcagjdngannneaa.V
