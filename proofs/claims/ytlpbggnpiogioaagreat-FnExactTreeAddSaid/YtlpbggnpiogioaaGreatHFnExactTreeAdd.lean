import Derived.Test.YtlpbggnpiogioaaGreatP1
/- FnExactTreeAdd's model is true at every input. -/
set_option linter.unusedVariables false
set_option linter.unusedSimpArgs false
namespace Go.Proofs.YtlpbggnpiogioaaGreat
open Go V
theorem okT_of (t : Tree) (h : ok_Tree t) (hs : t.Nodes.length + wsum zN t.Nodes ≤ 1048576) : okT t ∧ smN t.Nodes ∧ t.Nodes.length ≤ 1048576 ∧ (∀ n ∈ t.Nodes, lgN n) ∧ ∀ d ∈ t.Nodes, ∀ x ∈ d.Entries, x.Key.T.length ≤ 1000000000 := by
  have hlg := lgN_of t.Nodes (by omega)
  refine ⟨⟨fun d hd e he => (h.1.2 d hd).2.1.2 e he |>.1, fun d hd => ?_, fun d hd => ?_⟩, fun d hd => ⟨?_, fun e he => ?_, ?_⟩, by omega, hlg, fun d hd x hx => ?_⟩
  · have := (hlg d hd).1; omega
  · have := (hlg d hd).2.2; omega
  · have := (hlg d hd).1; omega
  · have := (hlg d hd).2.1 e he; unfold lgE at this; omega
  · have := (hlg d hd).2.2; omega
  · have := (hlg d hd).2.1 x hx; unfold lgE at this; omega
theorem wsum_bd {α : Type} (wt : α → Nat) (K : Nat) : ∀ l : List α, (∀ x ∈ l, wt x ≤ K) → wsum wt l ≤ l.length * K
  | [], _ => Nat.zero_le _
  | x :: l, h => by
    have h1 := wsum_bd wt K l fun y hy => h y (List.mem_cons_of_mem _ hy)
    have h2 := h x (List.mem_cons_self ..)
    rw [wsum_cons, List.length_cons, Nat.add_mul, Nat.one_mul]; omega
theorem smb_lg {ns : List Node} (h : ∀ d ∈ ns, SMB d) (hl : ns.length ≤ 300) : (∀ n ∈ ns, lgN n) ∧ wsum wN ns ≤ 3000000000 := by
  refine ⟨fun n hn => ?_, ?_⟩
  · obtain ⟨h1, h2, h3⟩ := h n hn
    exact ⟨by omega, fun x hx => h3 x hx, by omega⟩
  · have := wsum_bd wN 5000000 ns fun d hd => by
      obtain ⟨h1, h2, h3⟩ := h d hd
      have h4 := wsum_bd wE 1048580 d.Entries fun x hx => by have := h3 x hx; unfold wE; omega
      have h5 : d.Entries.length * 1048580 ≤ 4 * 1048580 := Nat.mul_le_mul_right _ h1
      unfold wN; omega
    have h6 : ns.length * 5000000 ≤ 300 * 5000000 := Nat.mul_le_mul_right _ hl
    omega
theorem laws_FnExactTreeAdd_true (a0 : Tree) (a1 : Item) (a2 : Int) (h0 : ok_Tree a0) (h1 : ok_Item a1) (h2 : InK .i64 a2) : laws_FnExactTreeAdd.f a0 a1 a2 = some true := by
  unfold laws_FnExactTreeAdd.f
  obtain ⟨r, er, hr, hr2⟩ := szTree a0 1048576 h0 (by decide) (by decide)
  rw [er, Option.bind_some]
  by_cases hneg : r < 0
  · rw [if_pos (by simpa using hneg)]
  · rw [if_neg (by simpa using hneg)]
    have hs := hr2 (by omega)
    obtain ⟨s, eqs, hq, hq2⟩ := szItem a1 r h1 (by omega) (by omega)
    rw [eqs, Option.bind_some]
    by_cases hneg2 : s < 0
    · rw [if_pos (by simpa using hneg2)]
    · rw [if_neg (by simpa using hneg2)]
      have hs2 := hq2 (by omega)
      have hsz : a0.Nodes.length + wsum zN a0.Nodes ≤ 1048576 := by omega
      obtain ⟨hT, hsm, hl, hlg, htx⟩ := okT_of a0 h0 hsz
      have htx2 : ∀ d ∈ a0.Nodes, ∀ x ∈ d.Entries, x.Key.T.length ≤ 1048576 := fun d hd x hx => (hlg d hd).2.1 x hx
      have hw := wN_le a0.Nodes
      have es := spec_TreeAdd a0 a1 a2 hT hsm h1 (by omega) htx2
      have ei := impl_TreeAdd a0 a1 a2 hT hsm h1 (by omega) htx2
      have hRs := tad_sm a0 (Entry.mk a1 a2) hT h1 htx2 (by show a1.T.length ≤ 1048576; omega)
      generalize TAD a0 (Entry.mk a1 a2) = R at hRs es ei
      obtain ⟨R1, R2⟩ := R
      obtain ⟨hR1, hR2⟩ := hRs
      simp only [] at hR1 hR2
      obtain ⟨hlR, hwR⟩ := smb_lg hR1 hR2
      obtain ⟨m0, em0, _⟩ := markTreeH a0 1 (by omega) hlg (by omega) (by omega)
      obtain ⟨m2, em2⟩ := markItem1t a1 (1 + (wsum wN a0.Nodes : Int)) (by omega) (by omega)
      obtain ⟨m1, em1, eh1⟩ := markTreeH R1 1 (by omega) hlR (by omega) (by omega)
      have t0 := toTree a0 (by omega) hlg
      have t1 := toItem a1 (by omega)
      have q0 := eqTree a0 (by omega) hlg
      have q2 := eqItem a1 (by omega)
      have q1 := eqTree R1 (by omega) hlR
      have n0 : ¬ (1 + (wsum wN a0.Nodes : Int) + (a1.T.length : Int) < 0) := by omega
      have n1 : ¬ (1 + (wsum wN R1.Nodes : Int) < 0) := by omega
      have q1' : laws_eqTree.f R1 (Tree.mk R1.Nodes R1.Root) = some true := q1
      have q1'' : laws_eqTree.f (Tree.mk R1.Nodes R1.Root) (Tree.mk R1.Nodes R1.Root) = some true := q1
      have eh1' := eh1 R1.Root
      simp only [t0, t1, es, ei, q0, q2, q1', q1'', em0, em2, em1, eh1', Option.bind_some]
      simp [n0, n1]
end Go.Proofs.YtlpbggnpiogioaaGreat
