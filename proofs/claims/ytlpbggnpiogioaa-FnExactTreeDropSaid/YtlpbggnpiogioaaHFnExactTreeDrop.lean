import Derived.Test.YtlpbggnpiogioaaP1
/- FnExactTreeDrop's model is true at every input. -/
set_option linter.unusedVariables false
set_option linter.unusedSimpArgs false
namespace Go.Proofs.Ytlpbggnpiogioaa
open Go V
theorem okT_of (t : Tree) (h : ok_Tree t) (hs : t.Nodes.length + wsum zN t.Nodes ≤ 1048576) : okT t ∧ smN t.Nodes ∧ t.Nodes.length ≤ 1048576 ∧ (∀ n ∈ t.Nodes, lgN n) ∧ ∀ d ∈ t.Nodes, ∀ x ∈ d.Entries, x.Key.T.length ≤ 1000000000 := by
  have hlg := lgN_of t.Nodes (by omega)
  refine ⟨⟨fun d hd e he => (h.1.2 d hd).2.1.2 e he |>.1, fun d hd => ?_, fun d hd => ?_⟩, fun d hd => ⟨?_, fun e he => ?_, ?_⟩, by omega, hlg, fun d hd x hx => ?_⟩
  · have := (hlg d hd).1; omega
  · have := (hlg d hd).2.2; omega
  · have := (hlg d hd).1; omega
  · have := (hlg d hd).2.1 e he; unfold lgE at this; omega
  · have := (hlg d hd).2.2; omega
  · have := (hlg d hd).2.1 x hx; unfold lgE at this; omega
theorem wsum_filter {α : Type} (wt : α → Nat) (g : α → Bool) : ∀ l : List α, wsum wt (l.filter g) ≤ wsum wt l
  | [] => Nat.le_refl _
  | x :: l => by
    have := wsum_filter wt g l
    rw [List.filter_cons]
    split
    · rw [wsum_cons, wsum_cons]; omega
    · rw [wsum_cons]; omega
theorem zN_flt (e : Entry) (d : Node) : zN (FLT e d) ≤ zN d := by
  unfold FLT
  split
  · unfold zN
    have h1 := List.length_filter_le (DIF e) d.Entries
    have h2 := wsum_filter zE (DIF e) d.Entries
    simp only []
    omega
  · exact Nat.le_refl _
theorem wsum_map_le {α : Type} (wt : α → Nat) (g : α → α) (h : ∀ x, wt (g x) ≤ wt x) : ∀ l : List α, wsum wt (l.map g) ≤ wsum wt l
  | [] => Nat.le_refl _
  | x :: l => by
    have := wsum_map_le wt g h l
    have := h x
    rw [List.map_cons, wsum_cons, wsum_cons]; omega
theorem tdr_sm (t : Tree) (e : Entry) (hs : t.Nodes.length + wsum zN t.Nodes ≤ 1048576) : (TDR t e).1.Nodes.length + wsum zN (TDR t e).1.Nodes ≤ 1048576 := by
  have key : ∀ b : Bool, (if b = true then (Tree.mk (t.Nodes.map (FLT e)) t.Root, true) else (Tree.mk [] 0, false)).1.Nodes.length + wsum zN (if b = true then (Tree.mk (t.Nodes.map (FLT e)) t.Root, true) else (Tree.mk [] 0, false)).1.Nodes ≤ 1048576 := fun b => by
    cases b with
    | true =>
      simp only [if_true, List.length_map]
      have := wsum_map_le zN (FLT e) (zN_flt e) t.Nodes
      omega
    | false => simp [wsum]
  unfold TDR
  cases TKW t with
  | none => simp [wsum]
  | some all => exact key _
theorem laws_FnExactTreeDrop_true (a0 : Tree) (a1 : Item) (a2 : Int) (h0 : ok_Tree a0) (h1 : ok_Item a1) (h2 : InK .i64 a2) : laws_FnExactTreeDrop.f a0 a1 a2 = some true := by
  unfold laws_FnExactTreeDrop.f
  obtain ⟨r, er, hr, hr2⟩ := szTree a0 1048576 h0 (by decide) (by decide)
  rw [er, Option.bind_some]
  by_cases hneg : r < 0
  · rw [if_pos (by simpa using hneg)]
  · rw [if_neg (by simpa using hneg)]
    have hs := hr2 (by omega)
    obtain ⟨s, eqs, hq, hq2⟩ := szItem a1 r h1 (by omega) (by omega)
    rw [eqs, Option.bind_some]
    by_cases hneg2 : s < 0
    · rw [if_pos (by simpa using hneg2)]
    · rw [if_neg (by simpa using hneg2)]
      have hs2 := hq2 (by omega)
      have hsz : a0.Nodes.length + wsum zN a0.Nodes ≤ 1048576 := by omega
      obtain ⟨hT, hsm, hl, hlg, htx⟩ := okT_of a0 h0 hsz
      have hRs := tdr_sm a0 (Entry.mk a1 a2) hsz
      have hw := wN_le a0.Nodes
      have es := spec_TreeDrop a0 a1 a2 hT hsm (by omega) h1 (by omega) htx
      have ei := impl_TreeDrop a0 a1 a2 hT hsm (by omega) h1
      generalize TDR a0 (Entry.mk a1 a2) = R at hRs es ei
      obtain ⟨R1, R2⟩ := R
      simp only [] at hRs
      have hwR := wN_le R1.Nodes
      have hlR := lgN_of R1.Nodes (by omega)
      obtain ⟨m0, em0, _⟩ := markTreeH a0 1 (by omega) hlg (by omega) (by omega)
      obtain ⟨m2, em2⟩ := markItem1t a1 (1 + (wsum wN a0.Nodes : Int)) (by omega) (by omega)
      obtain ⟨m1, em1, eh1⟩ := markTreeH R1 1 (by omega) hlR (by omega) (by omega)
      have t0 := toTree a0 (by omega) hlg
      have t1 := toItem a1 (by omega)
      have q0 := eqTree a0 (by omega) hlg
      have q2 := eqItem a1 (by omega)
      have q1 := eqTree R1 (by omega) hlR
      have n0 : ¬ (1 + (wsum wN a0.Nodes : Int) + (a1.T.length : Int) < 0) := by omega
      have n1 : ¬ (1 + (wsum wN R1.Nodes : Int) < 0) := by omega
      have q1' : laws_eqTree.f R1 (Tree.mk R1.Nodes R1.Root) = some true := q1
      have q1'' : laws_eqTree.f (Tree.mk R1.Nodes R1.Root) (Tree.mk R1.Nodes R1.Root) = some true := q1
      have eh1' := eh1 R1.Root
      simp only [t0, t1, es, ei, q0, q2, q1', q1'', em0, em2, em1, eh1', Option.bind_some]
      simp [n0, n1]
end Go.Proofs.Ytlpbggnpiogioaa
