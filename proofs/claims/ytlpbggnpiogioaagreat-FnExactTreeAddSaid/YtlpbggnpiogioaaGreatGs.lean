/- The functions as models, and that the calls come to what the models tell. -/
import Derived.Test.YtlpbggnpiogioaaGreatGsb
set_option linter.unusedVariables false
set_option linter.unusedSimpArgs false
set_option maxHeartbeats 4000000
set_option maxRecDepth 100000
noncomputable section
namespace Go.Proofs.YtlpbggnpiogioaaGreat
open Go V Tryz
theorem slices_Insert_impl_Entry_impl_Entry.cells : InsC prog 54 48 5 := by
 intro n i w w0 cells os gv mc cv hR h1 hi hcv h1v hgv hng hl
 have hlL := hl
 simp only [Lim] at hlL
 have hcl := hR.1
 obtain ⟨s0, rfl, K0, hk40, hks, hg0⟩ := insS w os gv hng
 have B0 : BlF s0 gv 48 cv 0 := ⟨hgv, hg0⟩
 by_cases hin : i = n
 ·
  obtain ⟨A, cap, rfl, hnc, _⟩ := hR.cells
  have R0 : RcF 48 5 s0 (.slice A n cap) n cells 40 := ⟨os, hR, hk40⟩
  refine Xf (m := some ()) (r := ()) (R := fun _ en w' => ∃ v, en = .returned v ∧ (∃ os', RowAt w' 48 5 v (n + 1) (cells.take (i * 5) ++ cv ++ cells.drop (i * 5)) os' ∧ ∀ b ∈ os', b ∈ os ∨ s0.w.heap.size ≤ b) ∧ Ky os s0.w w') (args := [.slice A n cap, .int .i64 (i : Int), .slice (some ⟨gv, 0, none⟩) 1 mc]) func54 ntmps54 rfl rfl rfl (sr (Xb rfl (dn (sr (Xw (.slice A n cap) rfl (Xb rfl (qvt (ctU_q (a := i) (by omega) (by omega) u52 z48 rfl rfl rfl rfl rfl rfl rfl) (dn (sr (Xw (.slice (some ⟨gv, 0, none⟩) 1 mc) rfl (qvt (lnS_q u52 rfl rfl rfl rfl rfl rfl) (Xb rfl (dn (sq ?_))))))))))))))
  refine sr (Xb rfl (qvt (Yi (v := .bool false) (congrArg Value.bool (by first | (simp; done) | (simp; omega))) rfl) (dn (cdf rfl (sk (sr (Xw (.slice A n cap) rfl (qvt (lnS_q u52 rfl rfl rfl rfl rfl rfl) (Xb rfl (dn (sq (sr (Xb rfl (Xb rfl ?_))))))))))))))
  refine qvt (Yi (v := .bool true) (congrArg Value.bool (by first | (simp; done) | (simp; omega))) rfl) (dn (cdt rfl (sr (Xw (.slice A n cap) rfl (Xw (.slice (some ⟨gv, 0, none⟩) 1 mc) rfl (apC sl52 R0 B0 hcv h1v hl rfl rfl rfl rfl rfl rfl rfl (fun v1 s1 p1 R1 => ?_)))))))
  exact asg' v1 rfl (dn (re rfl func54 rfl (Xv rfl Xg) rfl ⟨_, rfl, insE (n := n) (nn := (n + 1)) hk40 hks (by omega) (Kp.st K0 p1 rfl) R1 (by rw [show i = n by omega, List.take_of_length_le (by omega), List.drop_eq_nil_of_le (by omega), List.append_nil]) rfl, insK hk40 hks (Kp.st K0 p1 rfl)⟩))
 ·
  obtain ⟨g, cap, rfl, hnc, hcm, hog⟩ : ∃ g cap, w0 = .slice (some ⟨g, 0, none⟩) n cap ∧ n ≤ cap ∧ cap ≤ maxLen ∧ os = [g] := by
   rcases hR.2 with ⟨_, h0, _⟩ | ⟨g, cap, cur, e1, _, e3, e4, _, _, e7⟩
   ·
    omega
   exact ⟨g, cap, e1, e3, e4, e7⟩
  simp only [maxLen] at hcm
  have hne : gv ≠ g := fun e => hng (by rw [hog, e]; simp)
  have R0 : RcF 48 5 s0 (.slice (some ⟨g, 0, none⟩) n cap) n cells 40 := ⟨os, hR, hk40⟩
  refine Xf (m := some ()) (r := ()) (R := fun _ en w' => ∃ v, en = .returned v ∧ (∃ os', RowAt w' 48 5 v (n + 1) (cells.take (i * 5) ++ cv ++ cells.drop (i * 5)) os' ∧ ∀ b ∈ os', b ∈ os ∨ s0.w.heap.size ≤ b) ∧ Ky os s0.w w') (args := [.slice (some ⟨g, 0, none⟩) n cap, .int .i64 (i : Int), .slice (some ⟨gv, 0, none⟩) 1 mc]) func54 ntmps54 rfl rfl rfl ?_
  by_cases hroom : cap < n + 1
  ·
   refine sr (Xb rfl (dn (sr (Xw (.slice (some ⟨g, 0, none⟩) n cap) rfl (Xb rfl (qvt (ctL_q (a := i) (by omega) (by omega) (by omega) u52 z48 rfl rfl rfl rfl rfl rfl rfl) (dn (sr (Xw (.slice (some ⟨gv, 0, none⟩) 1 mc) rfl (qvt (lnS_q u52 rfl rfl rfl rfl rfl rfl) (Xb rfl (dn (sq (sr ?_))))))))))))))
   refine Xb rfl (qvt (Yi (v := .bool false) (congrArg Value.bool (by first | (simp; done) | (simp; omega))) rfl) (dn (cdf rfl (sk (sr (Xw (.slice (some ⟨g, 0, none⟩) n cap) rfl (qvt (lnS_q u52 rfl rfl rfl rfl rfl rfl) (Xb rfl (dn (sq (sr (Xb rfl (Xb rfl (qvt (Yi (v := .bool false) (congrArg Value.bool (by first | (simp; done) | (simp; omega))) rfl) ?_))))))))))))))
   refine dn (cdf rfl (sk (sq (sr (Xb rfl (Xb rfl (qvt (Yi (v := (iI (((n + 1) : Nat) : Int))) (by rw [wr64 (by omega) (by omega)] <;> (congr 1 <;> omega)) rfl) (Xw (.slice (some ⟨g, 0, none⟩) n cap) rfl (qvt (cpS_q u52 rfl rfl rfl rfl rfl rfl) (qvt (Yi (v := .bool true) (congrArg Value.bool (by first | (simp; done) | (simp; omega))) rfl) (dn (cdt rfl (sr (Xw (.slice (some ⟨g, 0, none⟩) n cap) rfl ?_))))))))))))))
   refine Xb rfl (qvt (ctH_q (b := i) (by omega) u52 z48 rfl rfl rfl rfl rfl rfl rfl) ?_)
   obtain ⟨os2, hR2, hc2⟩ := id R0
   have R8 : RcF 48 5 s0 (.slice (some ⟨g, 0, none⟩) i cap) i (cells.take (i * 5)) 40 := ⟨os2, hR2.less (by omega), hc2⟩
   refine Xb rfl (Xb rfl (qvt (Yi (v := (iI (((n + 1) : Nat) : Int))) (by rw [wr64 (by omega) (by omega)] <;> (congr 1 <;> omega)) rfl) (Xb rfl (qvt (Yi (v := (iI ((((n + 1) - i) : Nat) : Int))) (by rw [wr64 (by omega) (by omega)] <;> (congr 1 <;> omega)) rfl) (apZg 41 (kx := ((n + 1) - i)) sl52 o48 u3 R8 (by omega) (by omega) (by simp only [Lim]; omega) rfl rfl rfl rfl rfl rfl rfl (fun g2 q Z s1 p1 hZ hq N1 => ?_))))))
   have hq3 : n + 1 ≤ q := by omega
   refine asg' (.slice (some ⟨g2, 0, none⟩) (i + ((n + 1) - i)) q) rfl (dn (sr (Xw (.slice (some ⟨g2, 0, none⟩) (i + ((n + 1) - i)) q) rfl (Xb rfl (qvt (ctL_q (a := i) (by omega) (by omega) (by omega) u52 z48 rfl rfl rfl rfl rfl rfl rfl) (Xw (.slice (some ⟨gv, 0, none⟩) 1 mc) rfl (cpyS (cs := cv) (lx := (i + ((n + 1) - i))) u52 z48 N1 (BlF.src (B0.st p1 rfl)) (by rw [nmin_l (by omega), hcv]) h1v (by first | (rw [hcv] <;> omega) | (rw [List.length_drop, hcl] <;> omega)) rfl rfl rfl rfl rfl rfl rfl (fun s2 p2 R2 => ?_))))))))
   refine dn (sq (Ya [[], [], [], [1, 2], [0, 3], [], [], [5, 6], [4, 7]] [some 46, some 47, some 48, some 49, some 50, some 51, some 52, some 53, some 54] [[9], [1], [7], [47, 48], [46, 49], [0], [1], [51, 52], [50, 53]] [0, 1, 2, 3, 4, 5, 6, 7, 8] ⟨by kernel_rfl, by kernel_rfl, by kernel_rfl⟩ (by kernel_rfl) (fun s3 p3 l3 tb3 zd3 => ?_)))
   have zd5 := (zd3.add 0 46 (.slice (some ⟨g2, 0, none⟩) (i + ((n + 1) - i)) q) rfl).add 1 47 (iI ((i : Nat) : Int)) rfl
   refine Xu [8] tb3 ((((((zd5.add 2 48 (iI ((1 : Nat) : Int)) rfl).add 3 49 (iI (((i + 1) : Nat) : Int)) rfl).add 4 50 (.slice (some ⟨g2, ((i + 1) * 5), none⟩) ((i + ((n + 1) - i)) - (i + 1)) (q - (i + 1))) rfl).add 5 51 (.slice (some ⟨g, 0, none⟩) n cap) rfl).add 6 52 (iI ((i : Nat) : Int)) rfl).add 7 53 (.slice (some ⟨g, (i * 5), none⟩) (n - i) (cap - i)) rfl) (Xa (ctL_q (a := i) (by omega) (by omega) (by omega) u52 z48 rfl rfl rfl rfl rfl rfl rfl) rfl (Xa (Xc rfl) rfl (Xa (Xq (.slice (some ⟨g, 0, none⟩) n cap) rfl) rfl (Xa (ctL_q (a := (i + 1)) (by omega) (by omega) (by omega) u52 z48 rfl rfl rfl rfl rfl rfl rfl) rfl (Xa (Yi (v := (iI (((i + 1) : Nat) : Int))) (by rw [wr64 (by omega) (by omega)] <;> (congr 1 <;> omega)) rfl) rfl (Xa (Xc rfl) rfl (Xa (Xc rfl) rfl (Xa (Xq (.slice (some ⟨g2, 0, none⟩) (i + ((n + 1) - i)) q) rfl) rfl Xe)))))))) (by kernel_rfl) (by decide) (cpyS (cs := (cells.drop (i * 5))) (lx := (i + ((n + 1) - i))) u52 z48 (RcF.st R2 p3 rfl) (RcF.src (RcF.st (RcF.st (RcF.st R0 p1 rfl) p2 rfl) p3 rfl) (i * 5) (cells.drop (i * 5)) (fun j u hj => by rw [List.getElem?_drop] at hj; exact hj)) (by rw [nmin_l (by omega), List.length_drop, hcl] <;> omega) (fun u hu => h1 u (List.mem_of_mem_drop hu)) (by first | (rw [hcv] <;> omega) | (rw [List.length_drop, hcl] <;> omega)) rfl rfl rfl rfl rfl rfl rfl (fun s12 p12 R12 => ?_))
   exact dn (sr (Xw (.slice (some ⟨g2, 0, none⟩) (i + ((n + 1) - i)) q) rfl (asg' (.slice (some ⟨g2, 0, none⟩) (i + ((n + 1) - i)) q) rfl (dn (re rfl func54 rfl (Xv rfl Xg) rfl ⟨_, rfl, insE (n := n) (nn := (i + ((n + 1) - i))) hk40 hks (by omega) (Kp.st (Kp.st (Kp.st (Kp.st K0 p1 rfl) p2 rfl) p3 rfl) p12 rfl) R12 (fin_B hcl hcv (by omega) (by rw [hZ])) rfl, insK hk40 hks (Kp.st (Kp.st (Kp.st (Kp.st K0 p1 rfl) p2 rfl) p3 rfl) p12 rfl)⟩)))))
  refine sr (Xb rfl (dn (sr (Xw (.slice (some ⟨g, 0, none⟩) n cap) rfl (Xb rfl (qvt (ctL_q (a := i) (by omega) (by omega) (by omega) u52 z48 rfl rfl rfl rfl rfl rfl rfl) (dn (sr (Xw (.slice (some ⟨gv, 0, none⟩) 1 mc) rfl (qvt (lnS_q u52 rfl rfl rfl rfl rfl rfl) (Xb rfl (dn (sq (sr ?_))))))))))))))
  refine Xb rfl (qvt (Yi (v := .bool false) (congrArg Value.bool (by first | (simp; done) | (simp; omega))) rfl) (dn (cdf rfl (sk (sr (Xw (.slice (some ⟨g, 0, none⟩) n cap) rfl (qvt (lnS_q u52 rfl rfl rfl rfl rfl rfl) (Xb rfl (dn (sq (sr (Xb rfl (Xb rfl (qvt (Yi (v := .bool false) (congrArg Value.bool (by first | (simp; done) | (simp; omega))) rfl) ?_))))))))))))))
  refine dn (cdf rfl (sk (sq (sr (Xb rfl (Xb rfl (qvt (Yi (v := (iI (((n + 1) : Nat) : Int))) (by rw [wr64 (by omega) (by omega)] <;> (congr 1 <;> omega)) rfl) (Xw (.slice (some ⟨g, 0, none⟩) n cap) rfl (qvt (cpS_q u52 rfl rfl rfl rfl rfl rfl) (qvt (Yi (v := .bool false) (congrArg Value.bool (by first | (simp; done) | (simp; omega))) rfl) (dn (cdf rfl (sk (sr ?_))))))))))))))
  refine Xw (.slice (some ⟨g, 0, none⟩) n cap) rfl (Xb rfl (Xb rfl (qvt (Yi (v := (iI (((n + 1) : Nat) : Int))) (by rw [wr64 (by omega) (by omega)] <;> (congr 1 <;> omega)) rfl) (qvt (ctH_q (b := (n + 1)) (by omega) u52 z48 rfl rfl rfl rfl rfl rfl rfl) ?_))))
  obtain ⟨os2, hR2, hc2⟩ := id R0
  obtain ⟨junk, hj, hR3⟩ := hR2.more 1 (by omega)
  have R9 : RcF 48 5 s0 (.slice (some ⟨g, 0, none⟩) (n + 1) cap) (n + 1) (cells ++ junk) 40 := ⟨os2, hR3, hc2⟩
  refine asg' (.slice (some ⟨g, 0, none⟩) (n + 1) cap) rfl (dn (sq (sr (Xw (.slice (some ⟨gv, 0, none⟩) 1 mc) rfl (Xw (.slice (some ⟨g, 0, none⟩) (n + 1) cap) rfl (Xb rfl (Xb rfl (qvt (Yi (v := (iI (((i + 1) : Nat) : Int))) (by rw [wr64 (by omega) (by omega)] <;> (congr 1 <;> omega)) rfl) (qvt (ctL_q (a := (i + 1)) (by omega) (by omega) (by omega) u52 z48 rfl rfl rfl rfl rfl rfl rfl) (ovS (sz := 5) (lx := n + 1) u52 z48 R9 B0 hne (by omega) rfl rfl rfl rfl rfl func77 rfl rfl xn77 xf77 rfl rfl (Xb rfl (dn (cdt rfl (sq ?_))))))))))))))
  refine Ya [[], [], [], [1, 2], [0, 3], [], [], [5, 6], [4, 7]] [some 69, some 70, some 71, some 72, some 73, some 74, some 75, some 76, some 77] [[0], [1], [7], [70, 71], [69, 72], [0], [1], [74, 75], [73, 76]] [0, 1, 2, 3, 4, 5, 6, 7, 8] ⟨by kernel_rfl, by kernel_rfl, by kernel_rfl⟩ (by kernel_rfl) (fun s1 p1 l1 tb1 zd1 => ?_)
  have zd4 := ((zd1.add 0 69 (.slice (some ⟨g, 0, none⟩) (n + 1) cap) rfl).add 1 70 (iI ((i : Nat) : Int)) rfl).add 2 71 (iI ((1 : Nat) : Int)) rfl
  refine Xu [8] tb1 (((((zd4.add 3 72 (iI (((i + 1) : Nat) : Int)) rfl).add 4 73 (.slice (some ⟨g, ((i + 1) * 5), none⟩) ((n + 1) - (i + 1)) (cap - (i + 1))) rfl).add 5 74 (.slice (some ⟨g, 0, none⟩) (n + 1) cap) rfl).add 6 75 (iI ((i : Nat) : Int)) rfl).add 7 76 (.slice (some ⟨g, (i * 5), none⟩) ((n + 1) - i) (cap - i)) rfl) (Xa (ctL_q (a := i) (by omega) (by omega) (by omega) u52 z48 rfl rfl rfl rfl rfl rfl rfl) rfl (Xa (Xc rfl) rfl (Xa (Xq (.slice (some ⟨g, 0, none⟩) (n + 1) cap) rfl) rfl (Xa (ctL_q (a := (i + 1)) (by omega) (by omega) (by omega) u52 z48 rfl rfl rfl rfl rfl rfl rfl) rfl (Xa (Yi (v := (iI (((i + 1) : Nat) : Int))) (by rw [wr64 (by omega) (by omega)] <;> (congr 1 <;> omega)) rfl) rfl (Xa (Xc rfl) rfl (Xa (Xc rfl) rfl (Xa (Xq (.slice (some ⟨g, 0, none⟩) (n + 1) cap) rfl) rfl Xe)))))))) (by kernel_rfl) (by decide) (cpyS (cs := (cells.drop (i * 5))) (lx := (n + 1)) u52 z48 (RcF.st R9 p1 rfl) (RcF.src (RcF.st R9 p1 rfl) (i * 5) (cells.drop (i * 5)) (fun j u hj => by rw [List.getElem?_drop] at hj; rw [List.getElem?_append_left (List.getElem?_eq_some_iff.1 hj).1]; exact hj)) (by rw [nmin_r (by omega), List.length_drop, hcl] <;> omega) (fun u hu => h1 u (List.mem_of_mem_drop hu)) (by first | (rw [hcv] <;> omega) | (rw [List.length_drop, hcl] <;> omega)) rfl rfl rfl rfl rfl rfl rfl (fun s10 p10 R10 => ?_))
  refine dn (sr (Xw (.slice (some ⟨g, 0, none⟩) (n + 1) cap) rfl (Xb rfl (qvt (ctL_q (a := i) (by omega) (by omega) (by omega) u52 z48 rfl rfl rfl rfl rfl rfl rfl) (Xw (.slice (some ⟨gv, 0, none⟩) 1 mc) rfl (cpyS (cs := cv) (lx := (n + 1)) u52 z48 R10 (BlF.src (B0.st (Xo p1 p10) rfl)) (by rw [nmin_l (by omega), hcv]) h1v (by first | (rw [hcv] <;> omega) | (rw [List.length_drop, hcl] <;> omega)) rfl rfl rfl rfl rfl rfl rfl (fun s11 p11 R11 => ?_)))))))
  exact dn (sr (Xw (.slice (some ⟨g, 0, none⟩) (n + 1) cap) rfl (asg' (.slice (some ⟨g, 0, none⟩) (n + 1) cap) rfl (dn (re rfl func54 rfl (Xv rfl Xg) rfl ⟨_, rfl, insE (n := n) (nn := (n + 1)) hk40 hks (by omega) (Kp.st (Kp.st (Kp.st K0 p1 rfl) p10 rfl) p11 rfl) R11 (fin_C hcl hcv (by omega) hj) rfl, insK hk40 hks (Kp.st (Kp.st (Kp.st K0 p1 rfl) p10 rfl) p11 rfl)⟩)))))
def slices_Insert_impl_Entry_impl_Entry.f (a0 : (List Entry)) (a1 : Int) (a2 : Entry) : Option ((List Entry)) := if 0 ≤ a1 ∧ a1 ≤ (a0.length : Int) ∧ a0.length + 1 ≤ Lim then some (a0.take a1.toNat ++ a2 :: a0.drop a1.toNat) else none
theorem slices_Insert_impl_Entry_impl_Entry.calls : InsC prog 54 48 5 := slices_Insert_impl_Entry_impl_Entry.cells

theorem slices_Insert_int_int.cells : InsC prog 55 3 1 := by
 intro n i w w0 cells os gv mc cv hR h1 hi hcv h1v hgv hng hl
 have hlL := hl
 simp only [Lim] at hlL
 have hcl := hR.1
 obtain ⟨s0, rfl, K0, hk40, hks, hg0⟩ := insS w os gv hng
 have B0 : BlF s0 gv 3 cv 0 := ⟨hgv, hg0⟩
 by_cases hin : i = n
 ·
  obtain ⟨A, cap, rfl, hnc, _⟩ := hR.cells
  have R0 : RcF 3 1 s0 (.slice A n cap) n cells 40 := ⟨os, hR, hk40⟩
  refine Xf (m := some ()) (r := ()) (R := fun _ en w' => ∃ v, en = .returned v ∧ (∃ os', RowAt w' 3 1 v (n + 1) (cells.take (i * 1) ++ cv ++ cells.drop (i * 1)) os' ∧ ∀ b ∈ os', b ∈ os ∨ s0.w.heap.size ≤ b) ∧ Ky os s0.w w') (args := [.slice A n cap, .int .i64 (i : Int), .slice (some ⟨gv, 0, none⟩) 1 mc]) func55 ntmps55 rfl rfl rfl (sr (Xb rfl (dn (sr (Xw (.slice A n cap) rfl (Xb rfl (qvt (ctU_q (a := i) (by omega) (by omega) u59 z3 rfl rfl rfl rfl rfl rfl rfl) (dn (sr (Xw (.slice (some ⟨gv, 0, none⟩) 1 mc) rfl (qvt (lnS_q u59 rfl rfl rfl rfl rfl rfl) (Xb rfl (dn (sq ?_))))))))))))))
  refine sr (Xb rfl (qvt (Yi (v := .bool false) (congrArg Value.bool (by first | (simp; done) | (simp; omega))) rfl) (dn (cdf rfl (sk (sr (Xw (.slice A n cap) rfl (qvt (lnS_q u59 rfl rfl rfl rfl rfl rfl) (Xb rfl (dn (sq (sr (Xb rfl (Xb rfl ?_))))))))))))))
  refine qvt (Yi (v := .bool true) (congrArg Value.bool (by first | (simp; done) | (simp; omega))) rfl) (dn (cdt rfl (sr (Xw (.slice A n cap) rfl (Xw (.slice (some ⟨gv, 0, none⟩) 1 mc) rfl (apC sl59 R0 B0 hcv h1v hl rfl rfl rfl rfl rfl rfl rfl (fun v1 s1 p1 R1 => ?_)))))))
  exact asg' v1 rfl (dn (re rfl func55 rfl (Xv rfl Xg) rfl ⟨_, rfl, insE (n := n) (nn := (n + 1)) hk40 hks (by omega) (Kp.st K0 p1 rfl) R1 (by rw [show i = n by omega, List.take_of_length_le (by omega), List.drop_eq_nil_of_le (by omega), List.append_nil]) rfl, insK hk40 hks (Kp.st K0 p1 rfl)⟩))
 ·
  obtain ⟨g, cap, rfl, hnc, hcm, hog⟩ : ∃ g cap, w0 = .slice (some ⟨g, 0, none⟩) n cap ∧ n ≤ cap ∧ cap ≤ maxLen ∧ os = [g] := by
   rcases hR.2 with ⟨_, h0, _⟩ | ⟨g, cap, cur, e1, _, e3, e4, _, _, e7⟩
   ·
    omega
   exact ⟨g, cap, e1, e3, e4, e7⟩
  simp only [maxLen] at hcm
  have hne : gv ≠ g := fun e => hng (by rw [hog, e]; simp)
  have R0 : RcF 3 1 s0 (.slice (some ⟨g, 0, none⟩) n cap) n cells 40 := ⟨os, hR, hk40⟩
  refine Xf (m := some ()) (r := ()) (R := fun _ en w' => ∃ v, en = .returned v ∧ (∃ os', RowAt w' 3 1 v (n + 1) (cells.take (i * 1) ++ cv ++ cells.drop (i * 1)) os' ∧ ∀ b ∈ os', b ∈ os ∨ s0.w.heap.size ≤ b) ∧ Ky os s0.w w') (args := [.slice (some ⟨g, 0, none⟩) n cap, .int .i64 (i : Int), .slice (some ⟨gv, 0, none⟩) 1 mc]) func55 ntmps55 rfl rfl rfl ?_
  by_cases hroom : cap < n + 1
  ·
   refine sr (Xb rfl (dn (sr (Xw (.slice (some ⟨g, 0, none⟩) n cap) rfl (Xb rfl (qvt (ctL_q (a := i) (by omega) (by omega) (by omega) u59 z3 rfl rfl rfl rfl rfl rfl rfl) (dn (sr (Xw (.slice (some ⟨gv, 0, none⟩) 1 mc) rfl (qvt (lnS_q u59 rfl rfl rfl rfl rfl rfl) (Xb rfl (dn (sq (sr ?_))))))))))))))
   refine Xb rfl (qvt (Yi (v := .bool false) (congrArg Value.bool (by first | (simp; done) | (simp; omega))) rfl) (dn (cdf rfl (sk (sr (Xw (.slice (some ⟨g, 0, none⟩) n cap) rfl (qvt (lnS_q u59 rfl rfl rfl rfl rfl rfl) (Xb rfl (dn (sq (sr (Xb rfl (Xb rfl (qvt (Yi (v := .bool false) (congrArg Value.bool (by first | (simp; done) | (simp; omega))) rfl) ?_))))))))))))))
   refine dn (cdf rfl (sk (sq (sr (Xb rfl (Xb rfl (qvt (Yi (v := (iI (((n + 1) : Nat) : Int))) (by rw [wr64 (by omega) (by omega)] <;> (congr 1 <;> omega)) rfl) (Xw (.slice (some ⟨g, 0, none⟩) n cap) rfl (qvt (cpS_q u59 rfl rfl rfl rfl rfl rfl) (qvt (Yi (v := .bool true) (congrArg Value.bool (by first | (simp; done) | (simp; omega))) rfl) (dn (cdt rfl (sr (Xw (.slice (some ⟨g, 0, none⟩) n cap) rfl ?_))))))))))))))
   refine Xb rfl (qvt (ctH_q (b := i) (by omega) u59 z3 rfl rfl rfl rfl rfl rfl rfl) ?_)
   obtain ⟨os2, hR2, hc2⟩ := id R0
   have R8 : RcF 3 1 s0 (.slice (some ⟨g, 0, none⟩) i cap) i (cells.take (i * 1)) 40 := ⟨os2, hR2.less (by omega), hc2⟩
   refine Xb rfl (Xb rfl (qvt (Yi (v := (iI (((n + 1) : Nat) : Int))) (by rw [wr64 (by omega) (by omega)] <;> (congr 1 <;> omega)) rfl) (Xb rfl (qvt (Yi (v := (iI ((((n + 1) - i) : Nat) : Int))) (by rw [wr64 (by omega) (by omega)] <;> (congr 1 <;> omega)) rfl) (apZg 41 (kx := ((n + 1) - i)) sl59 o3 u3 R8 (by omega) (by omega) (by simp only [Lim]; omega) rfl rfl rfl rfl rfl rfl rfl (fun g2 q Z s1 p1 hZ hq N1 => ?_))))))
   have hq3 : n + 1 ≤ q := by omega
   refine asg' (.slice (some ⟨g2, 0, none⟩) (i + ((n + 1) - i)) q) rfl (dn (sr (Xw (.slice (some ⟨g2, 0, none⟩) (i + ((n + 1) - i)) q) rfl (Xb rfl (qvt (ctL_q (a := i) (by omega) (by omega) (by omega) u59 z3 rfl rfl rfl rfl rfl rfl rfl) (Xw (.slice (some ⟨gv, 0, none⟩) 1 mc) rfl (cpyS (cs := cv) (lx := (i + ((n + 1) - i))) u59 z3 N1 (BlF.src (B0.st p1 rfl)) (by rw [nmin_l (by omega), hcv]) h1v (by first | (rw [hcv] <;> omega) | (rw [List.length_drop, hcl] <;> omega)) rfl rfl rfl rfl rfl rfl rfl (fun s2 p2 R2 => ?_))))))))
   refine dn (sq (Ya [[], [], [], [1, 2], [0, 3], [], [], [5, 6], [4, 7]] [some 46, some 47, some 48, some 49, some 50, some 51, some 52, some 53, some 54] [[9], [1], [7], [47, 48], [46, 49], [0], [1], [51, 52], [50, 53]] [0, 1, 2, 3, 4, 5, 6, 7, 8] ⟨by kernel_rfl, by kernel_rfl, by kernel_rfl⟩ (by kernel_rfl) (fun s3 p3 l3 tb3 zd3 => ?_)))
   have zd5 := (zd3.add 0 46 (.slice (some ⟨g2, 0, none⟩) (i + ((n + 1) - i)) q) rfl).add 1 47 (iI ((i : Nat) : Int)) rfl
   refine Xu [8] tb3 ((((((zd5.add 2 48 (iI ((1 : Nat) : Int)) rfl).add 3 49 (iI (((i + 1) : Nat) : Int)) rfl).add 4 50 (.slice (some ⟨g2, ((i + 1) * 1), none⟩) ((i + ((n + 1) - i)) - (i + 1)) (q - (i + 1))) rfl).add 5 51 (.slice (some ⟨g, 0, none⟩) n cap) rfl).add 6 52 (iI ((i : Nat) : Int)) rfl).add 7 53 (.slice (some ⟨g, (i * 1), none⟩) (n - i) (cap - i)) rfl) (Xa (ctL_q (a := i) (by omega) (by omega) (by omega) u59 z3 rfl rfl rfl rfl rfl rfl rfl) rfl (Xa (Xc rfl) rfl (Xa (Xq (.slice (some ⟨g, 0, none⟩) n cap) rfl) rfl (Xa (ctL_q (a := (i + 1)) (by omega) (by omega) (by omega) u59 z3 rfl rfl rfl rfl rfl rfl rfl) rfl (Xa (Yi (v := (iI (((i + 1) : Nat) : Int))) (by rw [wr64 (by omega) (by omega)] <;> (congr 1 <;> omega)) rfl) rfl (Xa (Xc rfl) rfl (Xa (Xc rfl) rfl (Xa (Xq (.slice (some ⟨g2, 0, none⟩) (i + ((n + 1) - i)) q) rfl) rfl Xe)))))))) (by kernel_rfl) (by decide) (cpyS (cs := (cells.drop (i * 1))) (lx := (i + ((n + 1) - i))) u59 z3 (RcF.st R2 p3 rfl) (RcF.src (RcF.st (RcF.st (RcF.st R0 p1 rfl) p2 rfl) p3 rfl) (i * 1) (cells.drop (i * 1)) (fun j u hj => by rw [List.getElem?_drop] at hj; exact hj)) (by rw [nmin_l (by omega), List.length_drop, hcl] <;> omega) (fun u hu => h1 u (List.mem_of_mem_drop hu)) (by first | (rw [hcv] <;> omega) | (rw [List.length_drop, hcl] <;> omega)) rfl rfl rfl rfl rfl rfl rfl (fun s12 p12 R12 => ?_))
   exact dn (sr (Xw (.slice (some ⟨g2, 0, none⟩) (i + ((n + 1) - i)) q) rfl (asg' (.slice (some ⟨g2, 0, none⟩) (i + ((n + 1) - i)) q) rfl (dn (re rfl func55 rfl (Xv rfl Xg) rfl ⟨_, rfl, insE (n := n) (nn := (i + ((n + 1) - i))) hk40 hks (by omega) (Kp.st (Kp.st (Kp.st (Kp.st K0 p1 rfl) p2 rfl) p3 rfl) p12 rfl) R12 (fin_B hcl hcv (by omega) (by rw [hZ])) rfl, insK hk40 hks (Kp.st (Kp.st (Kp.st (Kp.st K0 p1 rfl) p2 rfl) p3 rfl) p12 rfl)⟩)))))
  refine sr (Xb rfl (dn (sr (Xw (.slice (some ⟨g, 0, none⟩) n cap) rfl (Xb rfl (qvt (ctL_q (a := i) (by omega) (by omega) (by omega) u59 z3 rfl rfl rfl rfl rfl rfl rfl) (dn (sr (Xw (.slice (some ⟨gv, 0, none⟩) 1 mc) rfl (qvt (lnS_q u59 rfl rfl rfl rfl rfl rfl) (Xb rfl (dn (sq (sr ?_))))))))))))))
  refine Xb rfl (qvt (Yi (v := .bool false) (congrArg Value.bool (by first | (simp; done) | (simp; omega))) rfl) (dn (cdf rfl (sk (sr (Xw (.slice (some ⟨g, 0, none⟩) n cap) rfl (qvt (lnS_q u59 rfl rfl rfl rfl rfl rfl) (Xb rfl (dn (sq (sr (Xb rfl (Xb rfl (qvt (Yi (v := .bool false) (congrArg Value.bool (by first | (simp; done) | (simp; omega))) rfl) ?_))))))))))))))
  refine dn (cdf rfl (sk (sq (sr (Xb rfl (Xb rfl (qvt (Yi (v := (iI (((n + 1) : Nat) : Int))) (by rw [wr64 (by omega) (by omega)] <;> (congr 1 <;> omega)) rfl) (Xw (.slice (some ⟨g, 0, none⟩) n cap) rfl (qvt (cpS_q u59 rfl rfl rfl rfl rfl rfl) (qvt (Yi (v := .bool false) (congrArg Value.bool (by first | (simp; done) | (simp; omega))) rfl) (dn (cdf rfl (sk (sr ?_))))))))))))))
  refine Xw (.slice (some ⟨g, 0, none⟩) n cap) rfl (Xb rfl (Xb rfl (qvt (Yi (v := (iI (((n + 1) : Nat) : Int))) (by rw [wr64 (by omega) (by omega)] <;> (congr 1 <;> omega)) rfl) (qvt (ctH_q (b := (n + 1)) (by omega) u59 z3 rfl rfl rfl rfl rfl rfl rfl) ?_))))
  obtain ⟨os2, hR2, hc2⟩ := id R0
  obtain ⟨junk, hj, hR3⟩ := hR2.more 1 (by omega)
  have R9 : RcF 3 1 s0 (.slice (some ⟨g, 0, none⟩) (n + 1) cap) (n + 1) (cells ++ junk) 40 := ⟨os2, hR3, hc2⟩
  refine asg' (.slice (some ⟨g, 0, none⟩) (n + 1) cap) rfl (dn (sq (sr (Xw (.slice (some ⟨gv, 0, none⟩) 1 mc) rfl (Xw (.slice (some ⟨g, 0, none⟩) (n + 1) cap) rfl (Xb rfl (Xb rfl (qvt (Yi (v := (iI (((i + 1) : Nat) : Int))) (by rw [wr64 (by omega) (by omega)] <;> (congr 1 <;> omega)) rfl) (qvt (ctL_q (a := (i + 1)) (by omega) (by omega) (by omega) u59 z3 rfl rfl rfl rfl rfl rfl rfl) (ovS (sz := 1) (lx := n + 1) u59 z3 R9 B0 hne (by omega) rfl rfl rfl rfl rfl func79 rfl rfl xn79 xf79 rfl rfl (Xb rfl (dn (cdt rfl (sq ?_))))))))))))))
  refine Ya [[], [], [], [1, 2], [0, 3], [], [], [5, 6], [4, 7]] [some 69, some 70, some 71, some 72, some 73, some 74, some 75, some 76, some 77] [[0], [1], [7], [70, 71], [69, 72], [0], [1], [74, 75], [73, 76]] [0, 1, 2, 3, 4, 5, 6, 7, 8] ⟨by kernel_rfl, by kernel_rfl, by kernel_rfl⟩ (by kernel_rfl) (fun s1 p1 l1 tb1 zd1 => ?_)
  have zd4 := ((zd1.add 0 69 (.slice (some ⟨g, 0, none⟩) (n + 1) cap) rfl).add 1 70 (iI ((i : Nat) : Int)) rfl).add 2 71 (iI ((1 : Nat) : Int)) rfl
  refine Xu [8] tb1 (((((zd4.add 3 72 (iI (((i + 1) : Nat) : Int)) rfl).add 4 73 (.slice (some ⟨g, ((i + 1) * 1), none⟩) ((n + 1) - (i + 1)) (cap - (i + 1))) rfl).add 5 74 (.slice (some ⟨g, 0, none⟩) (n + 1) cap) rfl).add 6 75 (iI ((i : Nat) : Int)) rfl).add 7 76 (.slice (some ⟨g, (i * 1), none⟩) ((n + 1) - i) (cap - i)) rfl) (Xa (ctL_q (a := i) (by omega) (by omega) (by omega) u59 z3 rfl rfl rfl rfl rfl rfl rfl) rfl (Xa (Xc rfl) rfl (Xa (Xq (.slice (some ⟨g, 0, none⟩) (n + 1) cap) rfl) rfl (Xa (ctL_q (a := (i + 1)) (by omega) (by omega) (by omega) u59 z3 rfl rfl rfl rfl rfl rfl rfl) rfl (Xa (Yi (v := (iI (((i + 1) : Nat) : Int))) (by rw [wr64 (by omega) (by omega)] <;> (congr 1 <;> omega)) rfl) rfl (Xa (Xc rfl) rfl (Xa (Xc rfl) rfl (Xa (Xq (.slice (some ⟨g, 0, none⟩) (n + 1) cap) rfl) rfl Xe)))))))) (by kernel_rfl) (by decide) (cpyS (cs := (cells.drop (i * 1))) (lx := (n + 1)) u59 z3 (RcF.st R9 p1 rfl) (RcF.src (RcF.st R9 p1 rfl) (i * 1) (cells.drop (i * 1)) (fun j u hj => by rw [List.getElem?_drop] at hj; rw [List.getElem?_append_left (List.getElem?_eq_some_iff.1 hj).1]; exact hj)) (by rw [nmin_r (by omega), List.length_drop, hcl] <;> omega) (fun u hu => h1 u (List.mem_of_mem_drop hu)) (by first | (rw [hcv] <;> omega) | (rw [List.length_drop, hcl] <;> omega)) rfl rfl rfl rfl rfl rfl rfl (fun s10 p10 R10 => ?_))
  refine dn (sr (Xw (.slice (some ⟨g, 0, none⟩) (n + 1) cap) rfl (Xb rfl (qvt (ctL_q (a := i) (by omega) (by omega) (by omega) u59 z3 rfl rfl rfl rfl rfl rfl rfl) (Xw (.slice (some ⟨gv, 0, none⟩) 1 mc) rfl (cpyS (cs := cv) (lx := (n + 1)) u59 z3 R10 (BlF.src (B0.st (Xo p1 p10) rfl)) (by rw [nmin_l (by omega), hcv]) h1v (by first | (rw [hcv] <;> omega) | (rw [List.length_drop, hcl] <;> omega)) rfl rfl rfl rfl rfl rfl rfl (fun s11 p11 R11 => ?_)))))))
  exact dn (sr (Xw (.slice (some ⟨g, 0, none⟩) (n + 1) cap) rfl (asg' (.slice (some ⟨g, 0, none⟩) (n + 1) cap) rfl (dn (re rfl func55 rfl (Xv rfl Xg) rfl ⟨_, rfl, insE (n := n) (nn := (n + 1)) hk40 hks (by omega) (Kp.st (Kp.st (Kp.st K0 p1 rfl) p10 rfl) p11 rfl) R11 (fin_C hcl hcv (by omega) hj) rfl, insK hk40 hks (Kp.st (Kp.st (Kp.st K0 p1 rfl) p10 rfl) p11 rfl)⟩)))))
def slices_Insert_int_int.f (a0 : (List Int)) (a1 : Int) (a2 : Int) : Option ((List Int)) := if 0 ≤ a1 ∧ a1 ≤ (a0.length : Int) ∧ a0.length + 1 ≤ Lim then some (a0.take a1.toNat ++ a2 :: a0.drop a1.toNat) else none
theorem slices_Insert_int_int.calls : InsC prog 55 3 1 := slices_Insert_int_int.cells

def impl_Tree_split.f (a0 : Tree) (a1 : Int) : Option (Entry × Tree) :=
 (if 0 ≤ a1 ∧ a1 < (a0.Nodes.length : Int) then (if 0 ≤ (2 : Int) ∧ (2 : Int) < (((at_ a0.Nodes a1).Entries).length : Int) then (if (at_ a0.Nodes a1).Leaf = true then (if 0 ≤ (2 : Int) ∧ (2 : Int) ≤ (((at_ a0.Nodes a1).Entries).length : Int) then ((impl_ownEntries.f (((at_ a0.Nodes a1).Entries).drop ((2 : Int)).toNat)).bind fun r36 => (if 0 ≤ (2 : Int) ∧ (2 : Int) ≤ (((at_ a0.Nodes a1).Entries).length : Int) then ((impl_ownEntries.f (((at_ a0.Nodes a1).Entries).take ((2 : Int)).toNat)).bind fun r46 => (if (a0.Nodes.set (a1).toNat (Node.mk ((at_ a0.Nodes a1).Leaf) r46 ((at_ a0.Nodes a1).Kids))).length + ([(Node.mk ((at_ a0.Nodes a1).Leaf) r36 ([] : (List Int)))]).length ≤ Lim then ((impl_Item_own.f ((at_ ((at_ a0.Nodes a1).Entries) (2 : Int)).Key)).bind fun r103 => (some ((Entry.mk r103 ((at_ ((at_ a0.Nodes a1).Entries) (2 : Int)).Id)), (Tree.mk ((a0.Nodes.set (a1).toNat (Node.mk ((at_ a0.Nodes a1).Leaf) r46 ((at_ a0.Nodes a1).Kids))) ++ [(Node.mk ((at_ a0.Nodes a1).Leaf) r36 ([] : (List Int)))]) a0.Root)))) else none)) else none)) else none) else (if 0 ≤ (3 : Int) ∧ (3 : Int) ≤ (((at_ a0.Nodes a1).Entries).length : Int) then (if 0 ≤ (3 : Int) ∧ (3 : Int) ≤ (((at_ a0.Nodes a1).Kids).length : Int) then ((impl_ownEntries.f (((at_ a0.Nodes a1).Entries).drop ((3 : Int)).toNat)).bind fun r140 => ((slices_Clone_int_int.f (((at_ a0.Nodes a1).Kids).drop ((3 : Int)).toNat)).bind fun r148 => (if 0 ≤ (3 : Int) ∧ (3 : Int) ≤ (((at_ a0.Nodes a1).Kids).length : Int) then ((slices_Clone_int_int.f (((at_ a0.Nodes a1).Kids).take ((3 : Int)).toNat)).bind fun r163 => (if 0 ≤ (2 : Int) ∧ (2 : Int) ≤ (((at_ a0.Nodes a1).Entries).length : Int) then ((impl_ownEntries.f (((at_ a0.Nodes a1).Entries).take ((2 : Int)).toNat)).bind fun r174 => (if (a0.Nodes.set (a1).toNat (Node.mk ((at_ a0.Nodes a1).Leaf) r174 r163)).length + ([(Node.mk ((at_ a0.Nodes a1).Leaf) r140 r148)]).length ≤ Lim then ((impl_Item_own.f ((at_ ((at_ a0.Nodes a1).Entries) (2 : Int)).Key)).bind fun r234 => (some ((Entry.mk r234 ((at_ ((at_ a0.Nodes a1).Entries) (2 : Int)).Id)), (Tree.mk ((a0.Nodes.set (a1).toNat (Node.mk ((at_ a0.Nodes a1).Leaf) r174 r163)) ++ [(Node.mk ((at_ a0.Nodes a1).Leaf) r140 r148)]) a0.Root)))) else none)) else none)) else none))) else none) else none)) else none) else none)
def impl_Tree_split.Q (s0 : St) (p0 : Nat) (r : Entry × Tree) (v : Value) (w' : World) : Prop :=
 ∃ (v0 : Value) (v1 : Value) (u0_0 : Value) (s' : St), v = (.agg #[(iI r.1.Key.Kind), (iI r.1.Key.N), v0, v1, (iI r.1.Id)]) ∧ w' = s'.w ∧ Kp s0 s' ∧ FL v0 r.1.Key.F ∧ OwF Ym s' [v1] r.1.Key.T 898 ∧ BlF s' p0 33 [u0_0, (iI r.2.Root)] 2 ∧ OwF Yp s' [u0_0] r.2.Nodes 897
theorem impl_Tree_split.calls (a0 : Tree) (a1 : Int) (s0 : St) (p0 : Nat) (w0_0 : Value) (A0_0 : OwF Yp s0 [w0_0] a0.Nodes 897) (B0 : BlF s0 p0 33 [w0_0, (iI a0.Root)] 2) (r : Entry × Tree) (m : impl_Tree_split.f a0 a1 = some r) :
  Calls prog 56 #[(pB p0), (iI a1)] s0.w (RT (impl_Tree_split.Q s0 p0) r) := by
 have kp0 : Kp s0 s0 := Kp.self s0
 refine Xf (args := [(pB p0), (iI a1)]) func56 ntmps56 rfl rfl m ?_
 unfold impl_Tree_split.f
 refine sr (al' (cs := [(iI 0), (iI 0), (.float .f64 0), (.slice none 0 0), (iI 0)]) 40 rfl o48 rfl (fun b3 s3 p3 B3 => ?_))
 refine dn (sr (Xb rfl (Xb rfl (Xs fa33_0 rfl ?_))))
 have A5 := B0.st p3 rfl
 refine Yb A5 u31 rfl (Xb rfl ?_)
 have A6 := A0_0.st p3 rfl
 refine ix' A6.rd u31 z61 rfl (fun ad7 es7 h0_7 h1_7 he7 ce7 ia7 => ?_)
 obtain ⟨v7_0, v7_1, rfl, A7_0, A7_1⟩ := op61 he7
 refine Xb rfl ?_
 obtain ⟨s11, hw11, p11, O11, G11, ce11⟩ := takeW 41 42 A6 h0_7 h1_7 ia7 ce7 rfl rfl rfl
 rw [hw11]
 obtain ⟨s14, hw14, p14, Au11_e_0, Au11_e_1⟩ := ap61 43 O11 rfl
 rw [hw14]
 refine dn (sr (Xb rfl (Xb rfl (Xs fa61_1 rfl ?_))))
 have ce17 := ce11.st p14 rfl rfl
 refine lc ce17 u52 rfl rfl rfl rfl rfl rfl rfl rfl (ix' Au11_e_0.rd u52 z48 rfl (fun ad18 es18 h0_18 h1_18 he18 ce18 ia18 => ?_))
 obtain ⟨v18_0, v18_1, rfl, A18_0, A18_1⟩ := op48 he18
 refine lca ce18 u48 z48 rfl rfl rfl rfl rfl rfl rfl (al' (cs := [(iI 0), (iI 0), (.float .f64 0), (.slice none 0 0), (iI 0)]) 44 rfl o48 rfl (fun b21 s21 p21 B21 => ?_))
 have A23 := A18_1.st p21 rfl
 refine Yk (vs := [(iI (((at_ ((at_ a0.Nodes a1).Entries) (2 : Int)).Key).Kind)), (iI (((at_ ((at_ a0.Nodes a1).Entries) (2 : Int)).Key).N)), v18_0, v18_1, (iI ((at_ ((at_ a0.Nodes a1).Entries) (2 : Int)).Id))]) B21 z48 rfl (Xd rfl (Xd rfl (Xd (FL.one A18_0) (Xd A23.one (Xd rfl Xt))))) rfl (fun s24 p24 B24 => ?_)
 refine dn (sr (Xb rfl (Xb rfl (Xs fa61_0 rfl ?_))))
 have ce26 := ce17.st (Xo p21 p24) rfl rfl
 refine lc0 ce26 u4 rfl rfl rfl rfl rfl rfl rfl rfl (bd (cells := [(.bool ((at_ a0.Nodes a1).Leaf)), (.slice none 0 0), (.slice none 0 0)]) pl61 o61 rfl rfl rfl rfl rfl rfl (al' (cs := [(.bool false), (.slice none 0 0), (.slice none 0 0)]) 45 rfl o61 rfl (fun b27 s27 p27 B27 => ?_)))
 refine Yk (vs := [(.bool ((at_ a0.Nodes a1).Leaf)), (.slice none 0 0), (.slice none 0 0)]) B27 z61 rfl (Xd rfl (Xd rfl (Xd rfl Xt))) rfl (fun s29 p29 B29 => ?_)
 refine dn (sq (sr (Xb rfl (Xb rfl (Xs fa61_0 rfl ?_)))))
 have ce31 := ce26.st (Xo p27 p29) rfl rfl
 refine lc0 ce31 u4 rfl rfl rfl rfl rfl rfl rfl rfl (dn (cd rfl (fun h32 => ?_) (fun h32 => ?_)))
 ·
  refine rg (Xb rfl (Xb rfl (Xs fa61_1 rfl (lc ce31 u52 rfl rfl rfl rfl rfl rfl rfl rfl ?_))))
  have A33 := Au11_e_0.st (Yf p21 p24 p27 p29) rfl
  refine sla A33.rd u52 z48 rfl rfl rfl rfl rfl rfl rfl (fun v34 A34 => ?_)
  refine clO 46 rfl func51 rfl (impl_ownEntries.calls (((at_ a0.Nodes a1).Entries).drop ((2 : Int)).toNat) s29.w (mm [41] s29) v34 A34) (fun r36 v36_0 s37 p37 A36_0 => ?_)
  refine Xs fa61_1 rfl (sv' (B29.st p37 rfl) z52 rfl A36_0.rd.one rfl (fun s40 p40 B40 => ?_))
  refine dn (sr (Xb rfl (Xb rfl (Xb rfl (Xs fa61_1 rfl ?_)))))
  have ce42 := ce31.st (Xo p37 p40) rfl rfl
  refine lc ce42 u52 rfl rfl rfl rfl rfl rfl rfl rfl (slO (A33.st (Xo p37 p40) rfl) u52 z48 rfl rfl rfl rfl rfl rfl rfl (fun v44 A44 => ?_))
  refine clO 47 rfl func51 rfl (impl_ownEntries.calls (((at_ a0.Nodes a1).Entries).take ((2 : Int)).toNat) s40.w (mm [41] s40) v44 A44.rd) (fun r46 v46_0 s47 p47 A46_0 => ?_)
  refine Xb rfl (Xs fa61_1 rfl ?_)
  refine stE (G11.st (tr8 p14 p21 p24 p27 p29 p37 p40 p47) rfl) ia7 (ce42.st p47 rfl rfl) A46_0.rd.one rfl rfl rfl z52 rfl rfl rfl rfl rfl rfl (fun s51 p51 G51 ce51 => ?_)
  replace ce51 : CeF s51 ad7 [(.bool ((at_ a0.Nodes a1).Leaf)), v46_0, v7_1] [897] := ce51
  refine dn (sq ?_)
  obtain ⟨s56, hw56, p56, A56⟩ := ow_2 (A46_0.st p51 rfl) (Au11_e_1.st (tr8 p21 p24 p27 p29 p37 p40 p47 p51) rfl) rfl rfl
  rw [hw56]
  have A58 : OwF kd61 s56 [(.bool ((at_ a0.Nodes a1).Leaf)), v46_0, v7_1] (Node.mk ((at_ a0.Nodes a1).Leaf) r46 ((at_ a0.Nodes a1).Kids)) 47 := (Xz (fun x : Node => (x.Leaf, x.Entries, x.Kids)) (Node.mk ((at_ a0.Nodes a1).Leaf) r46 ((at_ a0.Nodes a1).Kids)) (ow_l (fz_bool ((at_ a0.Nodes a1).Leaf)) A56))
  obtain ⟨s62, hw62, p62, A62⟩ := putW (G51.st p56 rfl) ia7 (ce51.st p56 rfl rfl) A58 rfl
  rw [hw62]
  refine Ya [[], [], [1], [2], [3], [], [5], [4, 6], [0, 0, 1, 2, 3, 4, 5, 6, 7], [8, 0, 1, 2, 3, 4, 5, 6, 7], [9, 7, 7, 0, 1, 2, 3, 4, 5, 6, 7]] [some 68, some 69, some 70, some 71, some 72, some 73, some 74, some 75, some 76, some 77, none] [[0], [0], [69], [70], [71], [7], [73], [72, 74], [68], [76], [77, 75]] [0, 1, 2, 3, 4, 5, 6, 7, 8, 9, 10] ⟨by kernel_rfl, by kernel_rfl, by kernel_rfl⟩ (by kernel_rfl) (fun s64 p64 l64 tb64 zd64 => ?_)
  refine Xm 6 [some 72, some 71, some 70, some 69, some 68] tb64 ((((((zd64.add 0 68 (pB p0) rfl).add 1 69 (pB p0) rfl).add 2 70 (pB p0) rfl).add 3 71 (pB p0) rfl).add 4 72 w0_0 rfl).add 5 73 (.agg #[(.bool ((at_ a0.Nodes a1).Leaf)), v36_0, (.slice none 0 0)]) rfl) (Xa (Xp (es := [(.bool ((at_ a0.Nodes a1).Leaf)), v36_0, (.slice none 0 0)]) (B40.st (tr5 p47 p51 p56 p62 p64) rfl) u61 z61 rfl) rfl (Xa (Xl (A5.st (Xo (Xy p11 p14 p21 p24 p27 p29 p37 p40 p47 p51 p56 p62) p64) rfl) u31 rfl) rfl (Xa (Xj fa33_0 rfl) rfl (Xa (Xc rfl) rfl (Xa (Xc rfl) rfl (Xa (Xc rfl) rfl Xe)))))) (by kernel_rfl) rfl (fun l73 e73 zd73 => ?_)
  have A76 : OwF kd61 s64 [(.bool ((at_ a0.Nodes a1).Leaf)), v36_0, (.slice none 0 0)] (Node.mk ((at_ a0.Nodes a1).Leaf) r36 ([] : (List Int))) 46 := (Xz (fun x : Node => (x.Leaf, x.Entries, x.Kids)) (Node.mk ((at_ a0.Nodes a1).Leaf) r36 ([] : (List Int))) (ow_l (fz_bool ((at_ a0.Nodes a1).Leaf)) (ow_r (A36_0.st (tr6 p40 p47 p51 p56 p62 p64) rfl) (fz_nil 3 (Kd.int .i64)))))
  refine ltO (K := kd61) (cells := [(.bool ((at_ a0.Nodes a1).Leaf)), v36_0, (.slice none 0 0)]) [(Node.mk ((at_ a0.Nodes a1).Leaf) r36 ([] : (List Int)))] 46 u31 z61 o61 (lo_one A76) rfl rfl rfl rfl rfl rfl rfl rfl rfl rfl (fun v80 s80 p80 A80 => ?_)
  refine Xh (L' := [4, 3, 2, 1, 0]) (D' := [5, 6]) zd73 rfl (fun zd82 => ?_)
  refine Xm 7 [some 68] tb64 zd82 (Xa (Xl (A5.st (Ye (Xy p11 p14 p21 p24 p27 p29 p37 p40 p47 p51 p56 p62) p64 p80) rfl) u31 rfl) rfl (Xa (Xj fa33_0 rfl) rfl (Xa (Xc rfl) rfl (Xa (Xc rfl) rfl (Xa (Xc rfl) rfl Xe))))) (by kernel_rfl) rfl (fun l83 e83 zd83 => ?_)
  refine apO sl31 (A62.st (Xo p64 p80) rfl) A80 rfl rfl rfl rfl rfl rfl rfl rfl rfl (fun v86 s86 p86 A86 => ?_)
  refine Xh (L' := [0]) (D' := [1, 2, 3, 4, 7, 5, 6]) zd83 rfl (fun zd88 => ?_)
  refine Xu [8, 9, 10] tb64 zd88 (Xa (Xc rfl) rfl Xe) (by kernel_rfl) (by decide) (Xb rfl (Xs fa33_0 rfl ?_))
  refine sv' (A5.st (Yf (Xy p11 p14 p21 p24 p27 p29 p37 p40 p47 p51 p56 p62) p64 p80 p86) rfl) z31 rfl A86.rd.one rfl (fun s90 p90 B90 => ?_)
  refine dn (sq (Ya [[], [0], [1], [], [3], [2, 4], [5, 2, 0, 1, 2, 3, 4, 5]] [some 78, some 79, some 80, some 81, some 82, some 83, none] [[6], [78], [79], [6], [81], [80, 82], [4, 83]] [0, 1, 2, 3, 4, 5, 6] ⟨by kernel_rfl, by kernel_rfl, by kernel_rfl⟩ (by kernel_rfl) (fun s92 p92 l92 tb92 zd92 => ?_)))
  refine Xm 2 [some 82, some 81] tb92 ((((zd92.add 0 78 (pB b21) rfl).add 1 79 (.agg #[(iI (((at_ ((at_ a0.Nodes a1).Entries) (2 : Int)).Key).Kind)), (iI (((at_ ((at_ a0.Nodes a1).Entries) (2 : Int)).Key).N)), v18_0, v18_1]) rfl).add 3 81 (pO b21 4) rfl).add 4 82 (iI ((at_ ((at_ a0.Nodes a1).Entries) (2 : Int)).Id)) rfl) (Xa (Xl (B24.st (Xo (Xy p27 p29 p37 p40 p47 p51 p56 p62 p64 p80 p86 p90) p92) rfl) u3 rfl) rfl (Xa (Xj fa48_1 rfl) rfl (Xa (Xp (es := [(iI (((at_ ((at_ a0.Nodes a1).Entries) (2 : Int)).Key).Kind)), (iI (((at_ ((at_ a0.Nodes a1).Entries) (2 : Int)).Key).N)), v18_0, v18_1]) (B24.st (Xo (Xy p27 p29 p37 p40 p47 p51 p56 p62 p64 p80 p86 p90) p92) rfl) u37 z37 rfl) rfl (Xa (Xj fa48_0 rfl) rfl Xe)))) (by kernel_rfl) rfl (fun l99 e99 zd99 => ?_)
  refine cl' rfl func53 rfl (impl_Item_own.calls ((at_ ((at_ a0.Nodes a1).Entries) (2 : Int)).Key) s92.w (mm [41] s92) v18_0 v18_1 ((Xk (s := s92) A18_0).sub (D := [41]) rfl) (A23.st (Ye (Xy p24 p27 p29 p37 p40 p47 p51 p56 p62 p64 p80 p86) p90 p92) rfl)) ?_
  rintro r103 _ w103 m103 ⟨v103_0, v103_1, rfl, f103_0, ky103⟩
  obtain ⟨s104, rfl, p104, n104⟩ := nwx s92 w103 49 ky103
  obtain ⟨hu103_0_0, Au103_0_1⟩ := ap37 (f103_0.c n104)
  refine Xh (L' := [4, 3]) (D' := [0, 1, 2]) zd99 rfl (fun zd106 => ?_)
  refine Xu [5, 6] tb92 zd106 (Xa (Xl (B24.st (Ye (Xy p27 p29 p37 p40 p47 p51 p56 p62 p64 p80 p86 p90) p92 p104) rfl) u3 rfl) rfl (Xa (Xj fa48_1 rfl) rfl Xe)) (by kernel_rfl) (by decide) (bd (cells := [(iI r103.Kind), (iI r103.N), v103_0, v103_1, (iI ((at_ ((at_ a0.Nodes a1).Entries) (2 : Int)).Id))]) pl48 o48 rfl rfl rfl rfl rfl rfl ?_)
  refine Yk (vs := [(iI r103.Kind), (iI r103.N), v103_0, v103_1, (iI ((at_ ((at_ a0.Nodes a1).Entries) (2 : Int)).Id))]) (B3.st (tr7 (Xy p11 p14 p21 p24 p27 p29 p37 p40 p47 p51 p56 p62) p64 p80 p86 p90 p92 p104) rfl) z48 rfl (Xd rfl (Xd rfl (Xd (FL.one hu103_0_0) (Xd Au103_0_1.rd.one (Xd rfl Xt))))) rfl (fun s109 p109 B109 => ?_)
  refine dn ?_
  obtain ⟨s112, hw112, p112, A112⟩ := (Au103_0_1.st p109 rfl).rc 898 rfl
  rw [hw112]
  exact re rfl func56 rfl (r_b (B109.st p112 rfl) u48 rfl z48 rfl Xg) rfl ⟨_, rfl, v103_0, v103_1, v86, s112, rfl, rfl, (kp0.st (tr10 (Xy p3 p11 p14 p21 p24 p27 p29 p37 p40 p47 p51 p56) p62 p64 p80 p86 p90 p92 p104 p109 p112) rfl), hu103_0_0, A112, (B90.st (Yf p92 p104 p109 p112) rfl), (A86.st (tr5 p90 p92 p104 p109 p112) rfl)⟩
 refine sq (Ya [[], [0], [1], [2], [3], [4], [], [6], [7], [8], [9], [10, 5], [0, 1, 2, 3, 4, 5], [12, 5, 11, 0, 1, 2, 3, 4, 5], [0, 1, 2, 3, 4, 5, 6, 7, 8, 9, 10, 11, 12, 13], [14, 11, 13, 0, 1, 2, 3, 4, 5, 6, 7, 8, 9, 10, 11, 12, 13]] [some 36, some 37, some 38, some 39, some 40, some 41, some 42, some 43, some 44, some 45, some 46, some 47, some 48, none, some 49, none] [[5], [36], [37], [38], [39], [40], [5], [42], [43], [44], [45], [46], [7], [48, 41], [7], [49, 47]] [0, 1, 2, 3, 4, 5, 6, 7, 8, 9, 10, 11, 12, 13, 14, 15] ⟨by kernel_rfl, by kernel_rfl, by kernel_rfl⟩ (by kernel_rfl) (fun s118 p118 l118 tb118 zd118 => ?_))
 have A124 := Au11_e_0.st (tr5 p21 p24 p27 p29 p118) rfl
 refine mg fun hg125 => ?_
 obtain ⟨v125, A125, cu125⟩ := cut_lo A124.rd hg125
 have A133 := Au11_e_1.st (tr5 p21 p24 p27 p29 p118) rfl
 refine mg fun hg134 => ?_
 obtain ⟨v134, A134, cu134⟩ := cut_lo A133.rd hg134
 refine Xm 5 [some 46, some 45, some 44, some 43, some 42] tb118 ((((((((((zd118.add 0 36 (.pointer (some ad7)) rfl).add 1 37 (.pointer (some ad7)) rfl).add 2 38 (.pointer (some (ad7.add 1))) rfl).add 3 39 v7_0 rfl).add 4 40 v125 rfl).add 6 42 (.pointer (some ad7)) rfl).add 7 43 (.pointer (some ad7)) rfl).add 8 44 (.pointer (some (ad7.add 2))) rfl).add 9 45 v7_1 rfl).add 10 46 v134 rfl) (Xa (sla_q' cu134 hg134.1 u59 z3 rfl) rfl (Xa (lc_q (ce31.st p118 rfl rfl) u59 rfl rfl rfl rfl rfl rfl rfl rfl) rfl (Xa (Xj fa61_2 rfl) rfl (Xa (Xc rfl) rfl (Xa (Xc rfl) rfl (Xa (sla_q' cu125 hg125.1 u52 z48 rfl) rfl (Xa (lc_q (ce31.st p118 rfl rfl) u52 rfl rfl rfl rfl rfl rfl rfl rfl) rfl (Xa (Xj fa61_1 rfl) rfl (Xa (Xc rfl) rfl (Xa (Xc rfl) rfl Xe)))))))))) (by kernel_rfl) rfl (fun l137 e137 zd137 => ?_)
 refine clO 50 rfl func51 rfl (impl_ownEntries.calls (((at_ a0.Nodes a1).Entries).drop ((3 : Int)).toNat) s118.w (mm [41] s118) v125 A125) (fun r140 v140_0 s141 p141 A140_0 => ?_)
 refine Xh (L' := [10, 9, 8, 7, 6]) (D' := [0, 1, 2, 3, 4, 5]) zd137 rfl (fun zd143 => ?_)
 refine Xm 11 [some 48] tb118 (zd143.add 12 48 (pO b27 1) rfl) (Xa (Xj fa61_1 rfl) rfl (Xa (sla_q' cu134 hg134.1 u59 z3 rfl) rfl (Xa (lc_q (ce31.st (Xo p118 p141) rfl rfl) u59 rfl rfl rfl rfl rfl rfl rfl rfl) rfl (Xa (Xj fa61_2 rfl) rfl (Xa (Xc rfl) rfl (Xa (Xc rfl) rfl Xe)))))) (by kernel_rfl) rfl (fun l145 e145 zd145 => ?_)
 refine clO 51 rfl func52 rfl (slices_Clone_int_int.calls (((at_ a0.Nodes a1).Kids).drop ((3 : Int)).toNat) s141.w (mm [43] s141) v134 (A134.st p141 rfl)) (fun r148 v148_0 s149 p149 A148_0 => ?_)
 refine Xh (L' := [12]) (D' := [6, 7, 8, 9, 10, 11, 0, 1, 2, 3, 4, 5]) zd145 rfl (fun zd151 => ?_)
 refine Xu [13, 14, 15] tb118 zd151 (Xa (Xj fa61_1 rfl) rfl Xe) (by kernel_rfl) (by decide) ?_
 have A153 := A140_0.st p149 rfl
 refine sv' (B29.st (Ye p118 p141 p149) rfl) z52 rfl A153.rd.one rfl (fun s154 p154 B154 => ?_)
 refine Xs fa61_2 rfl ?_
 have A156 := A148_0.st p154 rfl
 refine sv' B154 z59 rfl A156.rd.one rfl (fun s157 p157 B157 => ?_)
 refine dn (rg (Xb rfl (Xb rfl (Xb rfl (Xs fa61_2 rfl ?_)))))
 have ce159 := ce31.st (tr5 p118 p141 p149 p154 p157) rfl rfl
 refine lc ce159 u59 rfl rfl rfl rfl rfl rfl rfl rfl (slo Yd (A133.st (Yf p141 p149 p154 p157) rfl) u59 z3 rfl rfl rfl rfl rfl rfl rfl (fun v161 A161 => ?_))
 refine clO 52 rfl func52 rfl (slices_Clone_int_int.calls (((at_ a0.Nodes a1).Kids).take ((3 : Int)).toNat) s157.w (mm [43] s157) v161 A161.rd) (fun r163 v163_0 s164 p164 A163_0 => ?_)
 refine Xb rfl (Xs fa61_2 rfl ?_)
 refine stE (G11.st (tr11 p14 p21 p24 p27 p29 p118 p141 p149 p154 p157 p164) rfl) ia7 (ce159.st p164 rfl rfl) A163_0.rd.one rfl rfl rfl z59 rfl rfl rfl rfl rfl rfl (fun s168 p168 G168 ce168 => ?_)
 replace ce168 : CeF s168 ad7 [(.bool ((at_ a0.Nodes a1).Leaf)), v7_0, v163_0] [897] := ce168
 refine dn (sr (Xb rfl (Xb rfl (Xb rfl (Xs fa61_1 rfl (lc ce168 u52 rfl rfl rfl rfl rfl rfl rfl rfl ?_))))))
 refine slO (A124.st (tr6 p141 p149 p154 p157 p164 p168) rfl) u52 z48 rfl rfl rfl rfl rfl rfl rfl (fun v172 A172 => ?_)
 refine clO 53 rfl func51 rfl (impl_ownEntries.calls (((at_ a0.Nodes a1).Entries).take ((2 : Int)).toNat) s168.w (mm [41] s168) v172 A172.rd) (fun r174 v174_0 s175 p175 A174_0 => ?_)
 refine Xb rfl (Xs fa61_1 rfl ?_)
 refine stE (G168.st p175 rfl) ia7 (ce168.st p175 rfl rfl) A174_0.rd.one rfl rfl rfl z52 rfl rfl rfl rfl rfl rfl (fun s179 p179 G179 ce179 => ?_)
 replace ce179 : CeF s179 ad7 [(.bool ((at_ a0.Nodes a1).Leaf)), v174_0, v163_0] [897] := ce179
 refine dn (sq ?_)
 obtain ⟨s184, hw184, p184, A184⟩ := ow_2 (A174_0.st p179 rfl) (A163_0.st (Ye p168 p175 p179) rfl) rfl rfl
 rw [hw184]
 have A186 : OwF kd61 s184 [(.bool ((at_ a0.Nodes a1).Leaf)), v174_0, v163_0] (Node.mk ((at_ a0.Nodes a1).Leaf) r174 r163) 53 := (Xz (fun x : Node => (x.Leaf, x.Entries, x.Kids)) (Node.mk ((at_ a0.Nodes a1).Leaf) r174 r163) (ow_l (fz_bool ((at_ a0.Nodes a1).Leaf)) A184))
 obtain ⟨s190, hw190, p190, A190⟩ := putW (G179.st p184 rfl) ia7 (ce179.st p184 rfl rfl) A186 rfl
 rw [hw190]
 refine Ya [[], [], [1], [2], [3], [], [5], [4, 6], [0, 0, 1, 2, 3, 4, 5, 6, 7], [8, 0, 1, 2, 3, 4, 5, 6, 7], [9, 7, 7, 0, 1, 2, 3, 4, 5, 6, 7]] [some 68, some 69, some 70, some 71, some 72, some 73, some 74, some 75, some 76, some 77, none] [[0], [0], [69], [70], [71], [7], [73], [72, 74], [68], [76], [77, 75]] [0, 1, 2, 3, 4, 5, 6, 7, 8, 9, 10] ⟨by kernel_rfl, by kernel_rfl, by kernel_rfl⟩ (by kernel_rfl) (fun s192 p192 l192 tb192 zd192 => ?_)
 refine Xm 6 [some 72, some 71, some 70, some 69, some 68] tb192 ((((((zd192.add 0 68 (pB p0) rfl).add 1 69 (pB p0) rfl).add 2 70 (pB p0) rfl).add 3 71 (pB p0) rfl).add 4 72 w0_0 rfl).add 5 73 (.agg #[(.bool ((at_ a0.Nodes a1).Leaf)), v140_0, v148_0]) rfl) (Xa (Xp (es := [(.bool ((at_ a0.Nodes a1).Leaf)), v140_0, v148_0]) (B157.st (tr7 p164 p168 p175 p179 p184 p190 p192) rfl) u61 z61 rfl) rfl (Xa (Xl (A5.st (tr7 (Xy p11 p14 p21 p24 p27 p29 p118 p141 p149 p154 p157 p164) p168 p175 p179 p184 p190 p192) rfl) u31 rfl) rfl (Xa (Xj fa33_0 rfl) rfl (Xa (Xc rfl) rfl (Xa (Xc rfl) rfl (Xa (Xc rfl) rfl Xe)))))) (by kernel_rfl) rfl (fun l201 e201 zd201 => ?_)
 obtain ⟨s206, hw206, p206, A206⟩ := ow_2 (A153.st (tr9 p154 p157 p164 p168 p175 p179 p184 p190 p192) rfl) (A156.st (tr8 p157 p164 p168 p175 p179 p184 p190 p192) rfl) rfl rfl
 rw [hw206]
 have A208 : OwF kd61 s206 [(.bool ((at_ a0.Nodes a1).Leaf)), v140_0, v148_0] (Node.mk ((at_ a0.Nodes a1).Leaf) r140 r148) 50 := (Xz (fun x : Node => (x.Leaf, x.Entries, x.Kids)) (Node.mk ((at_ a0.Nodes a1).Leaf) r140 r148) (ow_l (fz_bool ((at_ a0.Nodes a1).Leaf)) A206))
 refine ltO (K := kd61) (cells := [(.bool ((at_ a0.Nodes a1).Leaf)), v140_0, v148_0]) [(Node.mk ((at_ a0.Nodes a1).Leaf) r140 r148)] 50 u31 z61 o61 (lo_one A208) rfl rfl rfl rfl rfl rfl rfl rfl rfl rfl (fun v211 s211 p211 A211 => ?_)
 refine Xh (L' := [4, 3, 2, 1, 0]) (D' := [5, 6]) zd201 rfl (fun zd213 => ?_)
 refine Xm 7 [some 68] tb192 zd213 (Xa (Xl (A5.st (tr9 (Xy p11 p14 p21 p24 p27 p29 p118 p141 p149 p154 p157 p164) p168 p175 p179 p184 p190 p192 p206 p211) rfl) u31 rfl) rfl (Xa (Xj fa33_0 rfl) rfl (Xa (Xc rfl) rfl (Xa (Xc rfl) rfl (Xa (Xc rfl) rfl Xe))))) (by kernel_rfl) rfl (fun l214 e214 zd214 => ?_)
 refine apO sl31 (A190.st (Ye p192 p206 p211) rfl) A211 rfl rfl rfl rfl rfl rfl rfl rfl rfl (fun v217 s217 p217 A217 => ?_)
 refine Xh (L' := [0]) (D' := [1, 2, 3, 4, 7, 5, 6]) zd214 rfl (fun zd219 => ?_)
 refine Xu [8, 9, 10] tb192 zd219 (Xa (Xc rfl) rfl Xe) (by kernel_rfl) (by decide) (Xb rfl (Xs fa33_0 rfl ?_))
 refine sv' (A5.st (tr10 (Xy p11 p14 p21 p24 p27 p29 p118 p141 p149 p154 p157 p164) p168 p175 p179 p184 p190 p192 p206 p211 p217) rfl) z31 rfl A217.rd.one rfl (fun s221 p221 B221 => ?_)
 refine dn (sq (Ya [[], [0], [1], [], [3], [2, 4], [5, 2, 0, 1, 2, 3, 4, 5]] [some 78, some 79, some 80, some 81, some 82, some 83, none] [[6], [78], [79], [6], [81], [80, 82], [4, 83]] [0, 1, 2, 3, 4, 5, 6] ⟨by kernel_rfl, by kernel_rfl, by kernel_rfl⟩ (by kernel_rfl) (fun s223 p223 l223 tb223 zd223 => ?_)))
 refine Xm 2 [some 82, some 81] tb223 ((((zd223.add 0 78 (pB b21) rfl).add 1 79 (.agg #[(iI (((at_ ((at_ a0.Nodes a1).Entries) (2 : Int)).Key).Kind)), (iI (((at_ ((at_ a0.Nodes a1).Entries) (2 : Int)).Key).N)), v18_0, v18_1]) rfl).add 3 81 (pO b21 4) rfl).add 4 82 (iI ((at_ ((at_ a0.Nodes a1).Entries) (2 : Int)).Id)) rfl) (Xa (Xl (B24.st (tr8 (Xy p27 p29 p118 p141 p149 p154 p157 p164 p168 p175 p179 p184) p190 p192 p206 p211 p217 p221 p223) rfl) u3 rfl) rfl (Xa (Xj fa48_1 rfl) rfl (Xa (Xp (es := [(iI (((at_ ((at_ a0.Nodes a1).Entries) (2 : Int)).Key).Kind)), (iI (((at_ ((at_ a0.Nodes a1).Entries) (2 : Int)).Key).N)), v18_0, v18_1]) (B24.st (tr8 (Xy p27 p29 p118 p141 p149 p154 p157 p164 p168 p175 p179 p184) p190 p192 p206 p211 p217 p221 p223) rfl) u37 z37 rfl) rfl (Xa (Xj fa48_0 rfl) rfl Xe)))) (by kernel_rfl) rfl (fun l230 e230 zd230 => ?_)
 refine cl' rfl func53 rfl (impl_Item_own.calls ((at_ ((at_ a0.Nodes a1).Entries) (2 : Int)).Key) s223.w (mm [41] s223) v18_0 v18_1 ((Xk (s := s223) A18_0).sub (D := [41]) rfl) (A23.st (tr9 (Xy p24 p27 p29 p118 p141 p149 p154 p157 p164 p168 p175 p179) p184 p190 p192 p206 p211 p217 p221 p223) rfl)) ?_
 rintro r234 _ w234 m234 ⟨v234_0, v234_1, rfl, f234_0, ky234⟩
 obtain ⟨s235, rfl, p235, n235⟩ := nwx s223 w234 55 ky234
 obtain ⟨hu234_0_0, Au234_0_1⟩ := ap37 (f234_0.c n235)
 refine Xh (L' := [4, 3]) (D' := [0, 1, 2]) zd230 rfl (fun zd237 => ?_)
 refine Xu [5, 6] tb223 zd237 (Xa (Xl (B24.st (tr9 (Xy p27 p29 p118 p141 p149 p154 p157 p164 p168 p175 p179 p184) p190 p192 p206 p211 p217 p221 p223 p235) rfl) u3 rfl) rfl (Xa (Xj fa48_1 rfl) rfl Xe)) (by kernel_rfl) (by decide) (bd (cells := [(iI r234.Kind), (iI r234.N), v234_0, v234_1, (iI ((at_ ((at_ a0.Nodes a1).Entries) (2 : Int)).Id))]) pl48 o48 rfl rfl rfl rfl rfl rfl ?_)
 refine Yk (vs := [(iI r234.Kind), (iI r234.N), v234_0, v234_1, (iI ((at_ ((at_ a0.Nodes a1).Entries) (2 : Int)).Id))]) (B3.st (Xo (Xy (Xy p11 p14 p21 p24 p27 p29 p118 p141 p149 p154 p157 p164) p168 p175 p179 p184 p190 p192 p206 p211 p217 p221 p223) p235) rfl) z48 rfl (Xd rfl (Xd rfl (Xd (FL.one hu234_0_0) (Xd Au234_0_1.rd.one (Xd rfl Xt))))) rfl (fun s240 p240 B240 => ?_)
 refine dn ?_
 obtain ⟨s243, hw243, p243, A243⟩ := (Au234_0_1.st p240 rfl).rc 898 rfl
 rw [hw243]
 exact re rfl func56 rfl (r_b (B240.st p243 rfl) u48 rfl z48 rfl Xg) rfl ⟨_, rfl, v234_0, v234_1, v217, s243, rfl, rfl, (kp0.st (tr5 (Xy (Xy p3 p11 p14 p21 p24 p27 p29 p118 p141 p149 p154 p157) p164 p168 p175 p179 p184 p190 p192 p206 p211 p217 p221) p223 p235 p240 p243) rfl), hu234_0_0, A243, (B221.st (Yf p223 p235 p240 p243) rfl), (A217.st (tr5 p221 p223 p235 p240 p243) rfl)⟩
def impl_Tree_add.b0 (r19 : (List Int) × (List Int)) (x95 : Int × (List Node) × Int × Int × Int × Nat × (List Int) × Int) : Option ((Int × (List Node) × Int × Int × Int × Nat × (List Int) × Int) ⊕ Tree) :=
 (if (decide (x95.1 ≥ (0 : Int))) = true then (if 0 ≤ x95.1 ∧ x95.1 < (r19.1.length : Int) then (if 0 ≤ (at_ r19.1 x95.1) ∧ (at_ r19.1 x95.1) < (x95.2.1.length : Int) then (if 0 ≤ x95.1 ∧ x95.1 < (r19.2.length : Int) then (if 0 ≤ (at_ r19.2 x95.1) ∧ (at_ r19.2 x95.1) ≤ (((at_ x95.2.1 (at_ r19.1 x95.1)).Entries).length : Int) ∧ ((at_ x95.2.1 (at_ r19.1 x95.1)).Entries).length + 1 ≤ Lim then ((some (x95.2.1.set ((at_ r19.1 x95.1)).toNat (Node.mk (at_ x95.2.1 (at_ r19.1 x95.1)).Leaf (((at_ x95.2.1 (at_ r19.1 x95.1)).Entries).take ((at_ r19.2 x95.1)).toNat ++ (Entry.mk (Item.mk x95.2.2.2.1 x95.2.2.2.2.1 x95.2.2.2.2.2.1 x95.2.2.2.2.2.2.1) x95.2.2.2.2.2.2.2) :: ((at_ x95.2.1 (at_ r19.1 x95.1)).Entries).drop ((at_ r19.2 x95.1)).toNat) (at_ x95.2.1 (at_ r19.1 x95.1)).Kids))).bind fun y167 => ((if (!((at_ y167 (at_ r19.1 x95.1)).Leaf)) = true then (if 0 ≤ x95.1 ∧ x95.1 < (r19.2.length : Int) then (if 0 ≤ (IntKind.wrap .i64 ((at_ r19.2 x95.1) + (1 : Int))) ∧ (IntKind.wrap .i64 ((at_ r19.2 x95.1) + (1 : Int))) ≤ (((at_ y167 (at_ r19.1 x95.1)).Kids).length : Int) ∧ ((at_ y167 (at_ r19.1 x95.1)).Kids).length + 1 ≤ Lim then ((some (y167.set ((at_ r19.1 x95.1)).toNat (Node.mk (at_ y167 (at_ r19.1 x95.1)).Leaf (at_ y167 (at_ r19.1 x95.1)).Entries (((at_ y167 (at_ r19.1 x95.1)).Kids).take ((IntKind.wrap .i64 ((at_ r19.2 x95.1) + (1 : Int)))).toNat ++ (IntKind.wrap .i64 ((y167.length : Int) - (1 : Int))) :: ((at_ y167 (at_ r19.1 x95.1)).Kids).drop ((IntKind.wrap .i64 ((at_ r19.2 x95.1) + (1 : Int)))).toNat)))).bind fun y223 => (some y223)) else none) else none) else (some y167)).bind fun y172 => (if (at_ r19.1 x95.1) < (y172.length : Int) then (if (decide ((((at_ y172 (at_ r19.1 x95.1)).Entries).length : Int) ≤ (4 : Int))) = true then (some (Sum.inr (Tree.mk y172 x95.2.2.1))) else (if 0 ≤ x95.1 ∧ x95.1 < (r19.1.length : Int) then ((impl_Tree_split.f (Tree.mk y172 x95.2.2.1) (at_ r19.1 x95.1)).bind fun r246 => (some (Sum.inl ((IntKind.wrap .i64 (x95.1 - (1 : Int))), r246.2.Nodes, r246.2.Root, r246.1.Key.Kind, r246.1.Key.N, r246.1.Key.F, r246.1.Key.T, r246.1.Id)))) else none)) else none))) else none) else none) else none) else none) else (((if x95.2.1.length + ([(Node.mk false ([(Entry.mk (Item.mk x95.2.2.2.1 x95.2.2.2.2.1 x95.2.2.2.2.2.1 x95.2.2.2.2.2.2.1) x95.2.2.2.2.2.2.2)]) ([x95.2.2.1, (IntKind.wrap .i64 ((x95.2.1.length : Int) - (1 : Int)))]))]).length ≤ Lim then (some (x95.2.1 ++ [(Node.mk false ([(Entry.mk (Item.mk x95.2.2.2.1 x95.2.2.2.2.1 x95.2.2.2.2.2.1 x95.2.2.2.2.2.2.1) x95.2.2.2.2.2.2.2)]) ([x95.2.2.1, (IntKind.wrap .i64 ((x95.2.1.length : Int) - (1 : Int)))]))])) else none).bind fun y284 => (some (Tree.mk y284 (IntKind.wrap .i64 ((y284.length : Int) - (1 : Int)))))).bind fun o => some (Sum.inr o)))
def impl_Tree_add.f (a0 : Tree) (a1 : Entry) : Option (Tree) :=
 ((impl_Tree_way.f a0 a1).bind fun r19 => (((impl_Item_own.f a1.Key).bind fun r42 => (some (r42.Kind, r42.N, r42.F, r42.T))).bind fun y35 => (iter (impl_Tree_add.b0 r19) ((IntKind.wrap .i64 ((r19.1.length : Int) - (1 : Int))), a0.Nodes, a0.Root, y35.1, y35.2.1, y35.2.2.1, y35.2.2.2, a1.Id))))
def impl_Tree_add.Q (s0 : St) (p0 : Nat) (r : Tree) (v : Value) (w' : World) : Prop :=
 ∃ (u0_0 : Value) (s' : St), v = .tuple #[] ∧ w' = s'.w ∧ Kp s0 s' ∧ BlF s' p0 33 [u0_0, (iI r.Root)] 2 ∧ OwF Yp s' [u0_0] r.Nodes 897
theorem impl_Tree_add.calls (a0 : Tree) (a1 : Entry) (s0 : St) (p0 : Nat) (w0_0 : Value) (w1_0 : Value) (w1_1 : Value) (A0_0 : OwF Yp s0 [w0_0] a0.Nodes 897) (B0 : BlF s0 p0 33 [w0_0, (iI a0.Root)] 2) (A1_0 : FL w1_0 a1.Key.F) (A1_1 : RdF Ym s0 [w1_1] a1.Key.T [0]) (r : Tree) (m : impl_Tree_add.f a0 a1 = some r) :
  Calls prog 31 #[(pB p0), (.agg #[(iI a1.Key.Kind), (iI a1.Key.N), w1_0, w1_1, (iI a1.Id)])] s0.w (RT (impl_Tree_add.Q s0 p0) r) := by
 have kp0 : Kp s0 s0 := Kp.self s0
 refine Xf (args := [(pB p0), (.agg #[(iI a1.Key.Kind), (iI a1.Key.N), w1_0, w1_1, (iI a1.Id)])]) func31 ntmps31 rfl rfl m ?_
 unfold impl_Tree_add.f
 refine sr (bx' (cs := [(iI a1.Key.Kind), (iI a1.Key.N), w1_0, w1_1, (iI a1.Id)]) 40 rfl rfl (fun b4 s4 p4 B4 => ?_))
 refine dn (sq (Ya [[], [0], [1], [], [2, 3], [4], [5], [5], [6, 4, 0, 1, 2, 3, 4, 5, 6], [7, 8, 0, 1, 2, 3, 4, 5, 6, 7, 8]] [some 10, some 11, some 12, some 13, some 14, some 9, some 15, some 16, some 4, some 5] [[0], [10], [11], [3], [12, 13], [14], [9], [9], [15], [16]] [0, 1, 2, 3, 4, 5, 6, 8, 7, 9] ⟨by kernel_rfl, by kernel_rfl, by kernel_rfl⟩ (by kernel_rfl) (fun s6 p6 l6 tb6 zd6 => ?_)))
 refine Xm 4 [] tb6 ((((zd6.add 0 10 (pB p0) rfl).add 1 11 (pB p0) rfl).add 2 12 (.agg #[w0_0, (iI a0.Root)]) rfl).add 3 13 (.agg #[(iI a1.Key.Kind), (iI a1.Key.N), w1_0, w1_1, (iI a1.Id)]) rfl) (Xa (Xp (es := [(iI a1.Key.Kind), (iI a1.Key.N), w1_0, w1_1, (iI a1.Id)]) (B4.st p6 rfl) u48 z48 rfl) rfl (Xa (Xp (es := [w0_0, (iI a0.Root)]) (B0.st (Xo p4 p6) rfl) u33 z33 rfl) rfl (Xa (Xc rfl) rfl (Xa (Xc rfl) rfl Xe)))) (by kernel_rfl) rfl (fun l13 e13 zd13 => ?_)
 have A16 := A0_0.st (Xo p4 p6) rfl
 have K17 := kp0.st (Xo p4 p6) rfl
 refine cl' rfl func49 rfl (impl_Tree_way.calls a0 a1 s6.w (mm [897, 0] s6) w0_0 w1_0 w1_1 (A16.rd.sub (D := [897, 0]) rfl) ((Xk (s := s6) A1_0).sub (D := [897, 0]) rfl) ((A1_1.kp K17).sub (D := [897, 0]) rfl)) ?_
 rintro r19 _ w19 m19 ⟨v19_0, v19_1, rfl, f19_0, f19_1, ky19⟩
 obtain ⟨s20, rfl, p20, n20⟩ := nwx s6 w19 41 ky19
 have A19_0 := f19_0.c n20
 have A19_1 := f19_1.c n20
 refine Xh (L' := []) (D' := [0, 1, 2, 3, 4]) zd13 rfl (fun zd23 => ?_)
 refine Xu [9] tb6 ((((zd23.add 5 9 (.tuple #[v19_0, v19_1]) rfl).add 6 15 v19_0 rfl).add 7 16 v19_1 rfl).add 8 4 v19_0 rfl) (Xa (asg_q v19_0 rfl rfl rfl rfl rfl rfl) rfl (Xa (Xc (v := v19_1) rfl) rfl (Xa (Xc (v := v19_0) rfl) rfl (Xa (Xc rfl) rfl Xe)))) (by kernel_rfl) (by decide) (asg' v19_1 rfl (dn (sq (Ya [[], [0], [1], [], [3], [2, 4], [], [6, 5, 2, 0, 1, 2, 3, 4, 5, 6]] [some 17, some 18, some 19, some 20, some 21, some 22, some 6, none] [[3], [17], [18], [3], [20], [19, 21], [], [6, 22]] [0, 1, 2, 3, 4, 5, 6, 7] ⟨by kernel_rfl, by kernel_rfl, by kernel_rfl⟩ (by kernel_rfl) (fun s28 p28 l28 tb28 zd28 => ?_)))))
 refine ji [7] (fun (y35 : Int × Int × Nat × (List Int)) e w => ∃ (s : St) (e0 : Env) (vy35_0 uy35_0 : Value) (by35_0 : Nat), w = s.w ∧ e = upd (upd (upd (upd (upd e0 0 (pB p0)) 4 v19_0) 5 v19_1) 6 (pB by35_0)) 22 (.agg #[(iI y35.1), (iI y35.2.1), uy35_0, vy35_0, (iI a1.Id)]) ∧ Kp s0 s ∧ OwF Ym s [vy35_0] y35.2.2.2 43 ∧ FL uy35_0 y35.2.2.1 ∧ BlF s p0 33 [w0_0, (iI a0.Root)] 2 ∧ BlF s by35_0 48 [(iI 0), (iI 0), (.float .f64 0), (.slice none 0 0), (iI 0)] 42 ∧ OwF Yo s [v19_0] r19.1 41 ∧ OwF Yo s [v19_1] r19.2 41 ∧ OwF Yp s [w0_0] a0.Nodes 897) (fun Gj35 Kj35 => ?_) ?_
 ·
  refine zstep2 2 6 [some 21, some 20] [some 21, some 20, some 18, some 17] tb28 ((((zd28.add 0 17 (pB b4) rfl).add 1 18 (.agg #[(iI a1.Key.Kind), (iI a1.Key.N), w1_0, w1_1]) rfl).add 3 20 (pO b4 4) rfl).add 4 21 (iI a1.Id) rfl) (Xa (Xl (B4.st (Ye p6 p20 p28) rfl) u3 rfl) rfl (Xa (Xj fa48_1 rfl) rfl (Xa (Xp (es := [(iI a1.Key.Kind), (iI a1.Key.N), w1_0, w1_1]) (B4.st (Ye p6 p20 p28) rfl) u37 z37 rfl) rfl (Xa (Xj fa48_0 rfl) rfl Xe)))) (by kernel_rfl) (by kernel_rfl) (fun l36 e36 zd36 => ?_) (fun l37 e37 zd37 => ?_)
  ·
   have K40 := K17.st (Xo p20 p28) rfl
   refine cl' rfl func53 rfl (impl_Item_own.calls a1.Key s28.w (mm [0] s28) w1_0 w1_1 ((Xk (s := s28) A1_0).sub (D := [0]) rfl) (A1_1.kp K40)) ?_
   rintro r42 _ w42 m42 ⟨v42_0, v42_1, rfl, f42_0, ky42⟩
   obtain ⟨s43, rfl, p43, n43⟩ := nwx s28 w42 44 ky42
   obtain ⟨hu42_0_0, Au42_0_1⟩ := ap37 (f42_0.c n43)
   refine Xh (L' := [4, 3]) (D' := [0, 1, 2]) zd36 rfl (fun zd45 => ?_)
   refine Xm 6 [some 22, some 21, some 20] tb28 (zd45.add 5 22 (.agg #[(iI r42.Kind), (iI r42.N), v42_0, v42_1, (iI a1.Id)]) rfl) (Xa (bd_q' (cells := [(iI r42.Kind), (iI r42.N), v42_0, v42_1, (iI a1.Id)]) pl48 o48 rfl rfl) rfl (Xa (Xl (B4.st (Yf p6 p20 p28 p43) rfl) u3 rfl) rfl (Xa (Xj fa48_1 rfl) rfl Xe))) (by kernel_rfl) rfl (fun l47 e47 zd47 => ?_)
   refine al' (cs := [(iI 0), (iI 0), (.float .f64 0), (.slice none 0 0), (iI 0)]) 45 rfl o48 rfl (fun b49 s49 p49 B49 => ?_)
   refine Xh (L' := [5, 4, 3]) (D' := [6, 0, 1, 2]) zd47 rfl (fun zd51 => ?_)
   refine Xu [7] tb28 zd51 (Xa (bd_q' (cells := [(iI r42.Kind), (iI r42.N), v42_0, v42_1, (iI a1.Id)]) pl48 o48 rfl rfl) rfl (Xa (Xl (B4.st (tr5 p6 p20 p28 p43 p49) rfl) u3 rfl) rfl (Xa (Xj fa48_1 rfl) rfl Xe))) (by kernel_rfl) (by decide) ?_
   obtain ⟨s53, hw53, p53, D53⟩ := BlF.rc B49 42 rfl
   rw [hw53]
   obtain ⟨s56, hw56, p56, A56⟩ := (Au42_0_1.st (Xo p49 p53) rfl).rc 43 rfl
   rw [hw56]
   exact Kj35 _ _ _ ⟨s56, _, v42_1, v42_0, b49, rfl, (ue (ue (ue (ue (ue rfl rfl) rfl) rfl) rfl) rfl), (K40.st (Yf p43 p49 p53 p56) rfl), A56, hu42_0_0, (B0.st (tr8 p4 p6 p20 p28 p43 p49 p53 p56) rfl), (D53.st p56 rfl), (A19_0.st (tr5 p28 p43 p49 p53 p56) rfl), (A19_1.st (tr5 p28 p43 p49 p53 p56) rfl), (A16.st (tr6 p20 p28 p43 p49 p53 p56) rfl)⟩
  refine al' (cs := [(iI 0), (iI 0), (.float .f64 0), (.slice none 0 0), (iI 0)]) 46 rfl o48 rfl (fun b63 s63 p63 B63 => ?_)
  refine Xh (L' := [4, 3, 1, 0]) (D' := [6]) zd37 rfl (fun zd65 => ?_)
  refine Xm 2 [some 21, some 20] tb28 zd65 (Xa (Xl (B4.st (Yf p6 p20 p28 p63) rfl) u3 rfl) rfl (Xa (Xj fa48_1 rfl) rfl (Xa (Xp (es := [(iI a1.Key.Kind), (iI a1.Key.N), w1_0, w1_1]) (B4.st (Yf p6 p20 p28 p63) rfl) u37 z37 rfl) rfl (Xa (Xj fa48_0 rfl) rfl Xe)))) (by kernel_rfl) rfl (fun l66 e66 zd66 => ?_)
  have K69 := K17.st (Ye p20 p28 p63) rfl
  refine cl' rfl func53 rfl (impl_Item_own.calls a1.Key s63.w (mm [0] s63) w1_0 w1_1 ((Xk (s := s63) A1_0).sub (D := [0]) rfl) (A1_1.kp K69)) ?_
  rintro r71 _ w71 m71 ⟨v71_0, v71_1, rfl, f71_0, ky71⟩
  obtain ⟨s72, rfl, p72, n72⟩ := nwx s63 w71 47 ky71
  obtain ⟨hu71_0_0, Au71_0_1⟩ := ap37 (f71_0.c n72)
  refine Xh (L' := [4, 3]) (D' := [0, 1, 2, 6]) zd66 rfl (fun zd74 => ?_)
  refine Xu [7] tb28 (zd74.add 5 22 (.agg #[(iI r71.Kind), (iI r71.N), v71_0, v71_1, (iI a1.Id)]) rfl) (Xa (bd_q' (cells := [(iI r71.Kind), (iI r71.N), v71_0, v71_1, (iI a1.Id)]) pl48 o48 rfl rfl) rfl (Xa (Xl (B4.st (tr5 p6 p20 p28 p63 p72) rfl) u3 rfl) rfl (Xa (Xj fa48_1 rfl) rfl Xe))) (by kernel_rfl) (by decide) ?_
  obtain ⟨s78, hw78, p78, D78⟩ := BlF.rc (B63.st p72 rfl) 42 rfl
  rw [hw78]
  obtain ⟨s81, hw81, p81, A81⟩ := (Au71_0_1.st p78 rfl).rc 43 rfl
  rw [hw81]
  exact Kj35 _ _ _ ⟨s81, _, v71_1, v71_0, b63, rfl, (ue (ue (ue (ue (ue rfl rfl) rfl) rfl) rfl) rfl), (K69.st (Ye p72 p78 p81) rfl), A81, hu71_0_0, (B0.st (tr8 p4 p6 p20 p28 p63 p72 p78 p81) rfl), (D78.st p81 rfl), (A19_0.st (tr5 p28 p63 p72 p78 p81) rfl), (A19_1.st (tr5 p28 p63 p72 p78 p81) rfl), (A16.st (tr6 p20 p28 p63 p72 p78 p81) rfl)⟩
 rintro y35 _ _ ⟨s88, _, vy35_0, uy35_0, by35_0, rfl, rfl, Ky35, Ay35_0, Fy35_0, By35_p0, Dy35_0, Cy35_21, Cy35_22, Cy35_1⟩
 refine Yk (vs := [(iI y35.1), (iI y35.2.1), uy35_0, vy35_0, (iI a1.Id)]) Dy35_0 z48 rfl (Xd rfl (Xd rfl (Xd (FL.one Fy35_0) (Xd Ay35_0.rd.one (Xd rfl Xt))))) rfl (fun s92 p92 B92 => ?_)
 refine dn (sq (sr (Xw v19_0 rfl ?_)))
 have A94 := Cy35_21.st p92 rfl
 refine ln' A94.rd u59 rfl (Xb rfl (Xb rfl (dn (bl ?_))))
 refine lpI (fun (x95 : Int × (List Node) × Int × Int × Int × Nat × (List Int) × Int) e w => ∃ (s : St) (e0 : Env) (vx95_0 vx95_1 ux95_0 : Value), w = s.w ∧ e = upd (upd (upd (upd (upd e0 0 (pB p0)) 4 v19_0) 5 v19_1) 6 (pB by35_0)) 7 (iI x95.1) ∧ Kp s0 s ∧ OwF Yp s [vx95_0] x95.2.1 897 ∧ OwF Ym s [vx95_1] x95.2.2.2.2.2.2.1 43 ∧ FL ux95_0 x95.2.2.2.2.2.1 ∧ BlF s p0 33 [vx95_0, (iI x95.2.2.1)] 2 ∧ BlF s by35_0 48 [(iI x95.2.2.2.1), (iI x95.2.2.2.2.1), ux95_0, vx95_1, (iI x95.2.2.2.2.2.2.2)] 42 ∧ OwF Yo s [v19_0] r19.1 41 ∧ OwF Yo s [v19_1] r19.2 41) ⟨s92, _, w0_0, vy35_0, uy35_0, rfl, (ue (ue (ue (ue (ue rfl rfl) rfl) rfl) rfl) rfl), (Ky35.st p92 rfl), (Cy35_1.st p92 rfl), (Ay35_0.st p92 rfl), Fy35_0, (By35_p0.st p92 rfl), B92, A94, (Cy35_22.st p92 rfl)⟩ (fun g95 ih95 => ?_)
 rintro x95 _ _ ⟨s101, _, vx95_0, vx95_1, ux95_0, rfl, rfl, Kx95, Ax95_0, Ax95_1, Fx95_0, Bx95_p0, Bx95_by35_0, Cx95_21, Cx95_22⟩
 unfold impl_Tree_add.b0
 refine sq (sr (Xb rfl (Xb rfl (dn (cd rfl (fun h106 => ?_) (fun h106 => ?_))))))
 ·
  refine sk (sq (bl (sq (Ya [[], [0], [1], [2], [], [], [4, 5], [6], [3, 7], [8, 0, 1, 2, 3, 4, 5, 6, 7, 8]] [some 30, some 31, some 32, some 33, some 34, some 35, some 36, some 37, some 38, some 8] [[0], [30], [31], [32], [4], [7], [34, 35], [36], [33, 37], [38]] [0, 1, 2, 3, 4, 5, 6, 7, 8, 9] ⟨by kernel_rfl, by kernel_rfl, by kernel_rfl⟩ (by kernel_rfl) (fun s107 p107 l107 tb107 zd107 => ?_)))))
  have A115 := Cx95_21.st p107 rfl
  refine mg fun hg116 => ?_
  obtain ⟨ad116, es116, he116, ce116, ia116⟩ := ix_e A115.rd rfl hg116.1 hg116.2
  obtain rfl := he116
  refine Xu [8, 9] tb107 ((((((((zd107.add 0 30 (pB p0) rfl).add 1 31 (pB p0) rfl).add 2 32 (pB p0) rfl).add 3 33 vx95_0 rfl).add 4 34 v19_0 rfl).add 5 35 (iI x95.1) rfl).add 6 36 (.pointer (some ad116)) rfl).add 7 37 (iI (at_ r19.1 x95.1)) rfl) (Xa (lc0_q' ce116 u3 rfl) rfl (Xa (Yg A115.rd u59 z3 hg116.1 hg116.2 ia116 rfl) rfl (Xa (Xc rfl) rfl (Xa (Xq v19_0 rfl) rfl (Xa (Xl (Bx95_p0.st p107 rfl) u31 rfl) rfl (Xa (Xj fa33_0 rfl) rfl (Xa (Xc rfl) rfl (Xa (Xc rfl) rfl Xe)))))))) (by kernel_rfl) (by decide) ?_
  have A121 := Ax95_0.st p107 rfl
  refine ix' A121.rd u31 z61 rfl (fun ad122 es122 h0_122 h1_122 he122 ce122 ia122 => ?_)
  obtain ⟨v122_0, v122_1, rfl, A122_0, A122_1⟩ := op61 he122
  refine Xb rfl (dn (sq (Ya [[], [], [1], [2], [3], [], [], [5, 6], [7], [], [9], [4, 8, 10], [0, 0, 1, 2, 3, 4, 5, 6, 7, 8, 9, 10, 11], [12, 0, 1, 2, 3, 4, 5, 6, 7, 8, 9, 10, 11], [13, 11, 11, 0, 1, 2, 3, 4, 5, 6, 7, 8, 9, 10, 11]] [some 39, some 40, some 41, some 42, some 43, some 44, some 45, some 46, some 47, some 48, some 49, some 50, some 51, some 52, none] [[8], [8], [40], [41], [42], [5], [7], [44, 45], [46], [6], [48], [43, 47, 49], [39], [51], [52, 50]] [0, 1, 2, 3, 4, 5, 6, 7, 8, 9, 10, 11, 12, 13, 14] ⟨by kernel_rfl, by kernel_rfl, by kernel_rfl⟩ (by kernel_rfl) (fun s126 p126 l126 tb126 zd126 => ?_))))
  have A135 := Cx95_22.st (Xo p107 p126) rfl
  refine mg fun hg136 => ?_
  obtain ⟨ad136, es136, he136, ce136, ia136⟩ := ix_e A135.rd rfl hg136.1 hg136.2
  obtain rfl := he136
  refine Xm 10 [some 47, some 46, some 45, some 44, some 43, some 42, some 41, some 40, some 39] tb126 ((((((((((zd126.add 0 39 (.pointer (some ad122)) rfl).add 1 40 (.pointer (some ad122)) rfl).add 2 41 (.pointer (some ad122)) rfl).add 3 42 (.pointer (some (ad122.add 1))) rfl).add 4 43 v122_0 rfl).add 5 44 v19_1 rfl).add 6 45 (iI x95.1) rfl).add 7 46 (.pointer (some ad136)) rfl).add 8 47 (iI (at_ r19.2 x95.1)) rfl).add 9 48 (.agg #[(iI x95.2.2.2.1), (iI x95.2.2.2.2.1), ux95_0, vx95_1, (iI x95.2.2.2.2.2.2.2)]) rfl) (Xa (Xp (es := [(iI x95.2.2.2.1), (iI x95.2.2.2.2.1), ux95_0, vx95_1, (iI x95.2.2.2.2.2.2.2)]) (Bx95_by35_0.st (Xo p107 p126) rfl) u48 z48 rfl) rfl (Xa (lc0_q' ce136 u3 rfl) rfl (Xa (Yg A135.rd u59 z3 hg136.1 hg136.2 ia136 rfl) rfl (Xa (Xc rfl) rfl (Xa (Xq v19_1 rfl) rfl (Xa (lc_q (ce122.st p126 rfl rfl) u52 rfl rfl rfl rfl rfl rfl rfl rfl) rfl (Xa (Xj fa61_1 rfl) rfl (Xa (Xc rfl) rfl (Xa (Xc rfl) rfl (Xa (Xc rfl) rfl Xe)))))))))) (by kernel_rfl) rfl (fun l142 e142 zd142 => ?_)
  refine ltB (cells := [(iI x95.2.2.2.1), (iI x95.2.2.2.2.1), ux95_0, vx95_1, (iI x95.2.2.2.2.2.2.2)]) 48 u52 z48 o48 rfl rfl rfl rfl rfl rfl rfl rfl rfl (fun b145 s145 p145 B145 => ?_)
  refine Xh (L' := [8, 7, 6, 5, 4, 3, 2, 1, 0]) (D' := [9, 10]) zd142 rfl (fun zd147 => ?_)
  have A150 := A135.st p145 rfl
  refine Xm 11 [some 39] tb126 zd147 (Xa (lc0_q' (ce136.st p145 rfl rfl) u3 rfl) rfl (Xa (Yg A150.rd u59 z3 hg136.1 hg136.2 ia136 rfl) rfl (Xa (Xc rfl) rfl (Xa (Xq v19_1 rfl) rfl (Xa (lc_q (ce122.st (Xo p126 p145) rfl rfl) u52 rfl rfl rfl rfl rfl rfl rfl rfl) rfl (Xa (Xj fa61_1 rfl) rfl (Xa (Xc rfl) rfl (Xa (Xc rfl) rfl (Xa (Xc rfl) rfl Xe))))))))) (by kernel_rfl) rfl (fun l148 e148 zd148 => ?_)
  obtain ⟨s154, hw154, p154, A154, H154, ce154⟩ := take_ 49 (lg_iso (fun x : Node => (x.Leaf, x.Entries, x.Kids)) (fun x => x.Entries) (fun x y => (Node.mk x.Leaf y x.Kids)) (lg_right (lg_left lg_id)) (fun _ => rfl) (fun _ _ => rfl)) (A121.st (Xo p126 p145) rfl) h0_122 h1_122 ia122 (ce122.st (Xo p126 p145) rfl rfl) rfl rfl rfl rfl
  rw [hw154]
  have A157 : OwF kd48 s154 [(iI x95.2.2.2.1), (iI x95.2.2.2.2.1), ux95_0, vx95_1, (iI x95.2.2.2.2.2.2.2)] (Entry.mk (Item.mk x95.2.2.2.1 x95.2.2.2.2.1 x95.2.2.2.2.2.1 x95.2.2.2.2.2.2.1) x95.2.2.2.2.2.2.2) 43 := (Xz (fun x : Entry => (x.Key, x.Id)) (Entry.mk (Item.mk x95.2.2.2.1 x95.2.2.2.2.1 x95.2.2.2.2.2.1 x95.2.2.2.2.2.2.1) x95.2.2.2.2.2.2.2) (ow_r (Xz (fun x : Item => (x.Kind, x.N, x.F, x.T)) (Item.mk x95.2.2.2.1 x95.2.2.2.2.1 x95.2.2.2.2.2.1 x95.2.2.2.2.2.2.1) (ow_l (Yc .i64 x95.2.2.2.1) (ow_l (Yc .i64 x95.2.2.2.2.1) (ow_l (fz_flt Fx95_0) (Ax95_1.st (Yf p107 p126 p145 p154) rfl))))) (Yc .i64 x95.2.2.2.2.2.2.2)))
  refine clI (K := kd48) (x := (Entry.mk (Item.mk x95.2.2.2.1 x95.2.2.2.2.1 x95.2.2.2.2.2.1 x95.2.2.2.2.2.2.1) x95.2.2.2.2.2.2.2)) slices_Insert_impl_Entry_impl_Entry.calls A154 A157 (B145.st p154 rfl) rfl rfl rfl rfl rfl rfl rfl rfl rfl func54 rfl rfl rfl rfl rfl (fun v161 s161 p161 A161 => ?_)
  refine Xh (L' := [0]) (D' := [1, 2, 3, 5, 6, 7, 4, 8, 11, 9, 10]) zd148 rfl (fun zd163 => ?_)
  refine Xu [12, 13, 14] tb126 zd163 (Xa (Xc rfl) rfl Xe) (by kernel_rfl) (by decide) (Xb rfl (Xs fa61_1 rfl ?_))
  refine soh (x' := (((at_ x95.2.1 (at_ r19.1 x95.1)).Entries).take ((at_ r19.2 x95.1)).toNat ++ (Entry.mk (Item.mk x95.2.2.2.1 x95.2.2.2.2.1 x95.2.2.2.2.2.1 x95.2.2.2.2.2.2.1) x95.2.2.2.2.2.2.2) :: ((at_ x95.2.1 (at_ r19.1 x95.1)).Entries).drop ((at_ r19.2 x95.1)).toNat)) (H154.st p161 rfl) ia122 A161 rfl rfl z52 rfl rfl rfl rfl rfl (oc A161.rd.one) (fun s165 p165 A165 => ?_)
  refine nb (fun y167 h167 => ?_)
  have A167 : OwF Yp s165 [vx95_0] y167 897 := by rw [h167]; exact A165
  refine dn (sq (sr (Xb rfl (Xb rfl (Xs fa61_0 rfl ?_)))))
  have h1_168 : (at_ r19.1 x95.1) < (y167.length : Int) := by simpa [h167] using h1_122
  obtain ⟨es168, he168, ce168⟩ := ix_re A167.rd rfl h0_122 h1_168 ia122
  obtain ⟨v168_0, v168_1, rfl, A168_0, A168_1⟩ := op61 he168
  refine lc0 ce168 u4 rfl rfl rfl rfl rfl rfl rfl rfl (Xb rfl (dn (jc (fun (y172 : (List Node)) e w => ∃ (s : St) (e0 : Env), w = s.w ∧ e = upd (upd (upd (upd (upd (upd e0 0 (pB p0)) 4 v19_0) 5 v19_1) 6 (pB by35_0)) 7 (iI x95.1)) 8 (.pointer (some ad122)) ∧ Kp s0 s ∧ OwF Yp s [vx95_0] y172 897 ∧ BlF s p0 33 [vx95_0, (iI x95.2.2.1)] 2 ∧ BlF s by35_0 48 [(iI x95.2.2.2.1), (iI x95.2.2.2.2.1), ux95_0, vx95_1, (iI x95.2.2.2.2.2.2.2)] 42 ∧ OwF Yo s [v19_0] r19.1 41 ∧ OwF Yo s [v19_1] r19.2 41) (fun Gj172 Kj172 => ?_) ?_)))
  ·
   refine cd rfl (fun h173 => ?_) (fun h173 => ?_)
   ·
    refine Ya [[], [], [1], [2], [3], [], [], [5, 6], [7], [8], [], [10], [11], [12], [13], [14], [15], [4, 9, 16], [0, 0, 1, 2, 3, 4, 5, 6, 7, 8, 9, 10, 11, 12, 13, 14, 15, 16, 17], [18, 0, 1, 2, 3, 4, 5, 6, 7, 8, 9, 10, 11, 12, 13, 14, 15, 16, 17], [19, 17, 17, 0, 1, 2, 3, 4, 5, 6, 7, 8, 9, 10, 11, 12, 13, 14, 15, 16, 17]] [some 58, some 59, some 60, some 61, some 62, some 63, some 64, some 65, some 66, some 67, some 68, some 69, some 70, some 71, some 72, some 73, some 74, some 75, some 76, some 77, none] [[8], [8], [59], [60], [61], [5], [7], [63, 64], [65], [66], [0], [68], [69], [70], [71], [72], [73], [62, 67, 74], [58], [76], [77, 75]] [0, 1, 2, 3, 4, 5, 6, 7, 8, 9, 10, 11, 12, 13, 14, 15, 16, 17, 18, 19, 20] ⟨by kernel_rfl, by kernel_rfl, by kernel_rfl⟩ (by kernel_rfl) (fun s174 p174 l174 tb174 zd174 => ?_)
    have zd176 := (zd174.add 0 58 (.pointer (some ad122)) rfl).add 1 59 (.pointer (some ad122)) rfl
    have A179 := A167.st p174 rfl
    have h1_180 : (at_ r19.1 x95.1) < (y167.length : Int) := by simpa [h167] using h1_122
    obtain ⟨es180, he180, ce180⟩ := ix_re A179.rd rfl h0_122 h1_180 ia122
    obtain ⟨v180_0, v180_1, rfl, A180_0, A180_1⟩ := op61 he180
    have A187 := A150.st (Yf p154 p161 p165 p174) rfl
    refine mg fun hg188 => ?_
    obtain ⟨ad188, es188, he188, ce188, ia188⟩ := ix_e A187.rd rfl hg188.1 hg188.2
    obtain rfl := he188
    refine Xm 16 [some 67, some 66, some 65, some 64, some 63, some 62, some 61, some 60, some 59, some 58] tb174 ((((((((((((((zd176.add 2 60 (.pointer (some ad122)) rfl).add 3 61 (.pointer (some (ad122.add 2))) rfl).add 4 62 v180_1 rfl).add 5 63 v19_1 rfl).add 6 64 (iI x95.1) rfl).add 7 65 (.pointer (some ad188)) rfl).add 8 66 (iI (at_ r19.2 x95.1)) rfl).add 9 67 (iI (IntKind.wrap .i64 ((at_ r19.2 x95.1) + (1 : Int)))) rfl).add 10 68 (pB p0) rfl).add 11 69 (pB p0) rfl).add 12 70 (pB p0) rfl).add 13 71 vx95_0 rfl).add 14 72 (iI (y167.length : Int)) rfl).add 15 73 (iI (IntKind.wrap .i64 ((y167.length : Int) - (1 : Int)))) rfl) (Xa (Xc rfl) rfl (Xa (ln_q' A179.rd u31 rfl) rfl (Xa (Xl (Bx95_p0.st (tr7 p107 p126 p145 p154 p161 p165 p174) rfl) u31 rfl) rfl (Xa (Xj fa33_0 rfl) rfl (Xa (Xc rfl) rfl (Xa (Xc rfl) rfl (Xa (Xc rfl) rfl (Xa (lc0_q' ce188 u3 rfl) rfl (Xa (Yg A187.rd u59 z3 hg188.1 hg188.2 ia188 rfl) rfl (Xa (Xc rfl) rfl (Xa (Xq v19_1 rfl) rfl (Xa (lc_q ce180 u59 rfl rfl rfl rfl rfl rfl rfl rfl) rfl (Xa (Xj fa61_2 rfl) rfl (Xa (Xc rfl) rfl (Xa (Xc rfl) rfl (Xa (Xc rfl) rfl Xe)))))))))))))))) (by kernel_rfl) rfl (fun l200 e200 zd200 => ?_)
    refine ltB (cells := [(iI (IntKind.wrap .i64 ((y167.length : Int) - (1 : Int))))]) 50 u59 z3 o3 rfl rfl rfl rfl rfl rfl rfl rfl rfl (fun b202 s202 p202 B202 => ?_)
    refine Xh (L' := [9, 8, 7, 6, 5, 4, 3, 2, 1, 0]) (D' := [10, 11, 12, 13, 14, 15, 16]) zd200 rfl (fun zd204 => ?_)
    have A207 := A187.st p202 rfl
    refine Xm 17 [some 58] tb174 zd204 (Xa (Xc rfl) rfl (Xa (lc0_q' (ce188.st p202 rfl rfl) u3 rfl) rfl (Xa (Yg A207.rd u59 z3 hg188.1 hg188.2 ia188 rfl) rfl (Xa (Xc rfl) rfl (Xa (Xq v19_1 rfl) rfl (Xa (lc_q (ce180.st p202 rfl rfl) u59 rfl rfl rfl rfl rfl rfl rfl rfl) rfl (Xa (Xj fa61_2 rfl) rfl (Xa (Xc rfl) rfl (Xa (Xc rfl) rfl (Xa (Xc rfl) rfl Xe)))))))))) (by kernel_rfl) rfl (fun l205 e205 zd205 => ?_)
    obtain ⟨s211, hw211, p211, A211, H211, ce211⟩ := take_ 51 (lg_iso (fun x : Node => (x.Leaf, x.Entries, x.Kids)) (fun x => x.Kids) (fun x y => (Node.mk x.Leaf x.Entries y)) (lg_right (lg_right lg_id)) (fun _ => rfl) (fun _ _ => rfl)) (A179.st p202 rfl) h0_122 h1_180 ia122 (ce180.st p202 rfl rfl) rfl rfl rfl rfl
    rw [hw211]
    have A214 : OwF (Kd.int .i64) s211 [(iI (IntKind.wrap .i64 ((y167.length : Int) - (1 : Int))))] (IntKind.wrap .i64 ((y167.length : Int) - (1 : Int))) 52 := ow_z _ _ (Yc .i64 (IntKind.wrap .i64 ((y167.length : Int) - (1 : Int))))
    refine clI (K := (Kd.int .i64)) (x := (IntKind.wrap .i64 ((y167.length : Int) - (1 : Int)))) slices_Insert_int_int.calls A211 A214 (B202.st p211 rfl) rfl rfl rfl rfl rfl rfl rfl rfl rfl func55 rfl rfl rfl rfl rfl (fun v217 s217 p217 A217 => ?_)
    refine Xh (L' := [0]) (D' := [1, 2, 3, 5, 6, 7, 8, 4, 9, 17, 10, 11, 12, 13, 14, 15, 16]) zd205 rfl (fun zd219 => ?_)
    refine Xu [18, 19, 20] tb174 zd219 (Xa (Xc rfl) rfl Xe) (by kernel_rfl) (by decide) (Xb rfl (Xs fa61_2 rfl ?_))
    refine soh (x' := (((at_ y167 (at_ r19.1 x95.1)).Kids).take ((IntKind.wrap .i64 ((at_ r19.2 x95.1) + (1 : Int)))).toNat ++ (IntKind.wrap .i64 ((y167.length : Int) - (1 : Int))) :: ((at_ y167 (at_ r19.1 x95.1)).Kids).drop ((IntKind.wrap .i64 ((at_ r19.2 x95.1) + (1 : Int)))).toNat)) (H211.st p217 rfl) ia122 A217 rfl rfl z59 rfl rfl rfl rfl rfl (oc A217.rd.one) (fun s221 p221 A221 => ?_)
    refine nb (fun y223 h223 => ?_)
    have A223 : OwF Yp s221 [vx95_0] y223 897 := by rw [h223]; exact A221
    exact dn (Kj172 _ _ _ ⟨s221, _, rfl, (ue (ue (ue (ue (ue (ue rfl rfl) rfl) rfl) rfl) rfl) rfl), (Kx95.st (tr11 p107 p126 p145 p154 p161 p165 p174 p202 p211 p217 p221) rfl), A223, (Bx95_p0.st (tr11 p107 p126 p145 p154 p161 p165 p174 p202 p211 p217 p221) rfl), (Bx95_by35_0.st (tr11 p107 p126 p145 p154 p161 p165 p174 p202 p211 p217 p221) rfl), (A115.st (tr10 p126 p145 p154 p161 p165 p174 p202 p211 p217 p221) rfl), (A207.st (Ye p211 p217 p221) rfl)⟩)
   exact sk (Kj172 _ _ _ ⟨s165, _, rfl, (ue (ue (ue (ue (ue (ue rfl rfl) rfl) rfl) rfl) rfl) rfl), (Kx95.st (tr6 p107 p126 p145 p154 p161 p165) rfl), A167, (Bx95_p0.st (tr6 p107 p126 p145 p154 p161 p165) rfl), (Bx95_by35_0.st (tr6 p107 p126 p145 p154 p161 p165) rfl), (A115.st (tr5 p126 p145 p154 p161 p165) rfl), (A150.st (Ye p154 p161 p165) rfl)⟩)
  rintro y172 _ _ ⟨s234, _, rfl, rfl, Ky172, Ay172_0, By172_p0, By172_by35_0, Cy172_21, Cy172_22⟩
  refine sq (sr (Xb rfl (Xb rfl (Xs fa61_1 rfl (mg fun hg238 => ?_)))))
  have h1_239 : (at_ r19.1 x95.1) < (y172.length : Int) := by simpa [h167] using hg238
  obtain ⟨es239, he239, ce239⟩ := ix_re Ay172_0.rd rfl h0_122 h1_239 ia122
  obtain ⟨v239_0, v239_1, rfl, A239_0, A239_1⟩ := op61 he239
  refine lc ce239 u52 rfl rfl rfl rfl rfl rfl rfl rfl (ln' A239_0 u52 rfl (Xb rfl (dn (cd rfl (fun h243 => ?_) (fun h243 => ?_)))))
  ·
   exact sgi (re rfl func31 rfl Xg rfl ⟨_, rfl, vx95_0, s234, rfl, rfl, Ky172, By172_p0, Ay172_0⟩)
  refine sk (rg (Xb rfl (Xw v19_0 rfl (Xb rfl (ix' Cy172_21.rd u59 z3 rfl (fun ad244 es244 h0_244 h1_244 he244 ce244 ia244 => ?_))))))
  obtain rfl := he244
  refine lc0 ce244 u3 rfl rfl rfl rfl rfl rfl rfl rfl (cl' rfl func56 rfl (impl_Tree_split.calls (Tree.mk y172 x95.2.2.1) (at_ r19.1 x95.1) (vwL [] [(2, 2)] 897 s234) p0 vx95_0 (OwF.vwL Ay172_0) (BlF.vwL By172_p0 rfl (by simp))) ?_)
  rintro r246 _ _ m246 ⟨v246_0, v246_1, u246_0, t246, rfl, rfl, kp246, f246_0, f246_1, bw246, uf246_0⟩
  have hw247 : t246.w = (bkL [(2, 2)] 53 897 s234 t246).w := rfl
  have p247 := bkL_st (D := []) (M := [(2, 2)]) (cn := 53) (cR := 897) rfl kp246
  have B247 := BlF.bkL (D := []) (M := [(2, 2)]) (cn := 53) (cR := 897) (c := 2) bw246 rfl (by simp) kp246
  have U247_0 := OwF.bkL (D := []) (M := [(2, 2)]) (cn := 53) (cR := 897) uf246_0 rfl kp246
  have V247_1 := OwF.bkLn (D := []) (M := [(2, 2)]) (cn := 53) (cR := 897) f246_1 rfl kp246
  generalize bkL [(2, 2)] 53 897 s234 t246 = s247 at hw247 p247 B247 U247_0 V247_1
  rw [hw247]
  refine Yk (vs := [(iI r246.1.Key.Kind), (iI r246.1.Key.N), v246_0, v246_1, (iI r246.1.Id)]) (By172_by35_0.st p247 rfl) z48 rfl (Xd rfl (Xd rfl (Xd (FL.one f246_0) (Xd V247_1.rd.one (Xd rfl Xt))))) rfl (fun s252 p252 B252 => ?_)
  refine dn (ib (rg (Xb rfl (Xb rfl (Xb rfl (dn ?_))))))
  obtain ⟨s255, hw255, p255, A255⟩ := (V247_1.st p252 rfl).rc 43 rfl
  rw [hw255]
  exact lb ih95 ⟨s255, _, u246_0, v246_1, v246_0, rfl, (ue (ue (ue (ue (ue rfl rfl) rfl) rfl) rfl) rfl), (Ky172.st (Ye p247 p252 p255) rfl), (U247_0.st (Xo p252 p255) rfl), A255, f246_0, (B247.st (Xo p252 p255) rfl), (B252.st p255 rfl), (Cy172_21.st (Ye p247 p252 p255) rfl), (Cy172_22.st (Ye p247 p252 p255) rfl)⟩
 refine xt rfl (sgb (sq (Ya [[], [], [1], [2], [3], [], [5], [], [7], [8], [9], [], [11], [12], [13], [14], [15], [10, 16], [6, 17], [18], [4, 19], [0, 0, 1, 2, 3, 4, 5, 6, 7, 8, 9, 10, 11, 12, 13, 14, 15, 16, 17, 18, 19, 20], [21, 0, 1, 2, 3, 4, 5, 6, 7, 8, 9, 10, 11, 12, 13, 14, 15, 16, 17, 18, 19, 20], [22, 20, 20, 0, 1, 2, 3, 4, 5, 6, 7, 8, 9, 10, 11, 12, 13, 14, 15, 16, 17, 18, 19, 20]] [some 90, some 91, some 92, some 93, some 94, some 95, some 96, some 97, some 98, some 99, some 100, some 101, some 102, some 103, some 104, some 105, some 106, some 107, some 108, some 109, some 110, some 111, some 112, none] [[0], [0], [91], [92], [93], [6], [95], [0], [97], [98], [99], [0], [101], [102], [103], [104], [105], [100, 106], [96, 107], [108], [94, 109], [90], [111], [112, 110]] [0, 1, 2, 3, 4, 5, 6, 7, 8, 9, 10, 11, 12, 13, 14, 15, 16, 17, 18, 19, 20, 21, 22, 23] ⟨by kernel_rfl, by kernel_rfl, by kernel_rfl⟩ (by kernel_rfl) (fun s262 p262 l262 tb262 zd262 => ?_))))
 have zd272 := (((((((zd262.add 0 90 (pB p0) rfl).add 1 91 (pB p0) rfl).add 2 92 (pB p0) rfl).add 3 93 (pB p0) rfl).add 4 94 vx95_0 rfl).add 5 95 (.agg #[(iI x95.2.2.2.1), (iI x95.2.2.2.2.1), ux95_0, vx95_1, (iI x95.2.2.2.2.2.2.2)]) rfl).add 7 97 (pB p0) rfl).add 8 98 (pB p0) rfl
 refine ji [21, 22, 23] (fun (y284 : (List Node)) e w => ∃ (s : St) (e0 : Env) (vy284_0 : Value), w = s.w ∧ e = upd (upd (upd e0 0 (pB p0)) 90 (pB p0)) 110 vy284_0 ∧ Kp s0 s ∧ OwF Yp s [vy284_0] y284 897 ∧ BlF s p0 33 [vx95_0, (iI x95.2.2.1)] 2) (fun Gj284 Kj284 => ?_) ?_
 ·
  refine zstep2 6 17 [some 106, some 105, some 104, some 103, some 102, some 101, some 100, some 99, some 98, some 97, some 94, some 93, some 92, some 91, some 90] [some 95, some 94, some 93, some 92, some 91, some 90] tb262 ((((((((zd272.add 9 99 (pO p0 1) rfl).add 10 100 (iI x95.2.2.1) rfl).add 11 101 (pB p0) rfl).add 12 102 (pB p0) rfl).add 13 103 (pB p0) rfl).add 14 104 vx95_0 rfl).add 15 105 (iI (x95.2.1.length : Int)) rfl).add 16 106 (iI (IntKind.wrap .i64 ((x95.2.1.length : Int) - (1 : Int)))) rfl) (Xa (Xc rfl) rfl (Xa (ln_q' (Ax95_0.st p262 rfl).rd u31 rfl) rfl (Xa (Xl (Bx95_p0.st p262 rfl) u31 rfl) rfl (Xa (Xj fa33_0 rfl) rfl (Xa (Xc rfl) rfl (Xa (Xc rfl) rfl (Xa (Xl (Bx95_p0.st p262 rfl) u3 rfl) rfl (Xa (Xj fa33_1 rfl) rfl (Xa (Xc rfl) rfl (Xa (Xc rfl) rfl (Xa (Xp (es := [(iI x95.2.2.2.1), (iI x95.2.2.2.2.1), ux95_0, vx95_1, (iI x95.2.2.2.2.2.2.2)]) (Bx95_by35_0.st p262 rfl) u48 z48 rfl) rfl (Xa (Xl (Bx95_p0.st p262 rfl) u31 rfl) rfl (Xa (Xj fa33_0 rfl) rfl (Xa (Xc rfl) rfl (Xa (Xc rfl) rfl (Xa (Xc rfl) rfl Xe)))))))))))))))) (by kernel_rfl) (by kernel_rfl) (fun l285 e285 zd285 => ?_) (fun l286 e286 zd286 => ?_)
  ·
   have A292 : OwF kd48 s262 [(iI x95.2.2.2.1), (iI x95.2.2.2.2.1), ux95_0, vx95_1, (iI x95.2.2.2.2.2.2.2)] (Entry.mk (Item.mk x95.2.2.2.1 x95.2.2.2.2.1 x95.2.2.2.2.2.1 x95.2.2.2.2.2.2.1) x95.2.2.2.2.2.2.2) 43 := (Xz (fun x : Entry => (x.Key, x.Id)) (Entry.mk (Item.mk x95.2.2.2.1 x95.2.2.2.2.1 x95.2.2.2.2.2.1 x95.2.2.2.2.2.2.1) x95.2.2.2.2.2.2.2) (ow_r (Xz (fun x : Item => (x.Kind, x.N, x.F, x.T)) (Item.mk x95.2.2.2.1 x95.2.2.2.2.1 x95.2.2.2.2.2.1 x95.2.2.2.2.2.2.1) (ow_l (Yc .i64 x95.2.2.2.1) (ow_l (Yc .i64 x95.2.2.2.2.1) (ow_l (fz_flt Fx95_0) (Ax95_1.st p262 rfl))))) (Yc .i64 x95.2.2.2.2.2.2.2)))
   refine ltO (K := kd48) (cells := [(iI x95.2.2.2.1), (iI x95.2.2.2.2.1), ux95_0, vx95_1, (iI x95.2.2.2.2.2.2.2)]) [(Entry.mk (Item.mk x95.2.2.2.1 x95.2.2.2.2.1 x95.2.2.2.2.2.1 x95.2.2.2.2.2.2.1) x95.2.2.2.2.2.2.2)] 43 u52 z48 o48 (lo_one A292) rfl rfl rfl rfl rfl rfl rfl rfl rfl rfl (fun v296 s296 p296 A296 => ?_)
   refine Xh (L' := [16, 15, 14, 13, 12, 11, 10, 9, 8, 7, 4, 3, 2, 1, 0]) (D' := [5, 6]) zd285 rfl (fun zd298 => ?_)
   refine Xm 17 [some 94, some 93, some 92, some 91, some 90] tb262 zd298 (Xa (Xc rfl) rfl (Xa (ln_q' (Ax95_0.st (Xo p262 p296) rfl).rd u31 rfl) rfl (Xa (Xl (Bx95_p0.st (Xo p262 p296) rfl) u31 rfl) rfl (Xa (Xj fa33_0 rfl) rfl (Xa (Xc rfl) rfl (Xa (Xc rfl) rfl (Xa (Xl (Bx95_p0.st (Xo p262 p296) rfl) u3 rfl) rfl (Xa (Xj fa33_1 rfl) rfl (Xa (Xc rfl) rfl (Xa (Xc rfl) rfl (Xa (Xl (Bx95_p0.st (Xo p262 p296) rfl) u31 rfl) rfl (Xa (Xj fa33_0 rfl) rfl (Xa (Xc rfl) rfl (Xa (Xc rfl) rfl (Xa (Xc rfl) rfl Xe))))))))))))))) (by kernel_rfl) rfl (fun l299 e299 zd299 => ?_)
   refine ltF' (K := (Kd.int .i64)) (cells := [(iI x95.2.2.1), (iI (IntKind.wrap .i64 ((x95.2.1.length : Int) - (1 : Int))))]) [x95.2.2.1, (IntKind.wrap .i64 ((x95.2.1.length : Int) - (1 : Int)))] 55 Yd u59 z3 o3 (fun w => (els_flat _ _ _)) rfl (fun v304 s304 p304 A304 => ?_)
   refine Xh (L' := [4, 3, 2, 1, 0]) (D' := [7, 8, 9, 11, 12, 13, 14, 15, 10, 16, 17, 5, 6]) zd299 rfl (fun zd306 => ?_)
   refine Xm 19 [some 94, some 93, some 92, some 91, some 90] tb262 (zd306.add 18 108 (.agg #[(.bool false), v296, v304]) rfl) (Xa (bd_q' (cells := [(.bool false), v296, v304]) pl61 o61 rfl (Xx (Yh (oc (A296.st p304 rfl).rd.one) (Yh (oc A304.rd.one) pc_n)) rfl)) rfl (Xa (Xl (Bx95_p0.st (Ye p262 p296 p304) rfl) u31 rfl) rfl (Xa (Xj fa33_0 rfl) rfl (Xa (Xc rfl) rfl (Xa (Xc rfl) rfl (Xa (Xc rfl) rfl Xe)))))) (by kernel_rfl) rfl (fun l309 e309 zd309 => ?_)
   obtain ⟨s313, hw313, p313, A313⟩ := ow_2 (A296.st p304 rfl) A304 rfl rfl
   rw [hw313]
   have A315 : OwF kd61 s313 [(.bool false), v296, v304] (Node.mk false ([(Entry.mk (Item.mk x95.2.2.2.1 x95.2.2.2.2.1 x95.2.2.2.2.2.1 x95.2.2.2.2.2.2.1) x95.2.2.2.2.2.2.2)]) ([x95.2.2.1, (IntKind.wrap .i64 ((x95.2.1.length : Int) - (1 : Int)))])) 43 := (Xz (fun x : Node => (x.Leaf, x.Entries, x.Kids)) (Node.mk false ([(Entry.mk (Item.mk x95.2.2.2.1 x95.2.2.2.2.1 x95.2.2.2.2.2.1 x95.2.2.2.2.2.2.1) x95.2.2.2.2.2.2.2)]) ([x95.2.2.1, (IntKind.wrap .i64 ((x95.2.1.length : Int) - (1 : Int)))])) (ow_l (fz_bool false) A313))
   refine ltO (K := kd61) (cells := [(.bool false), v296, v304]) [(Node.mk false ([(Entry.mk (Item.mk x95.2.2.2.1 x95.2.2.2.2.1 x95.2.2.2.2.2.1 x95.2.2.2.2.2.2.1) x95.2.2.2.2.2.2.2)]) ([x95.2.2.1, (IntKind.wrap .i64 ((x95.2.1.length : Int) - (1 : Int)))]))] 43 u31 z61 o61 (lo_one A315) rfl rfl rfl rfl rfl rfl rfl rfl rfl rfl (fun v318 s318 p318 A318 => ?_)
   refine Xh (L' := [4, 3, 2, 1, 0]) (D' := [18, 19, 7, 8, 9, 11, 12, 13, 14, 15, 10, 16, 17, 5, 6]) zd309 rfl (fun zd320 => ?_)
   refine Xm 20 [some 90] tb262 zd320 (Xa (Xl (Bx95_p0.st (tr5 p262 p296 p304 p313 p318) rfl) u31 rfl) rfl (Xa (Xj fa33_0 rfl) rfl (Xa (Xc rfl) rfl (Xa (Xc rfl) rfl (Xa (Xc rfl) rfl Xe))))) (by kernel_rfl) rfl (fun l321 e321 zd321 => ?_)
   refine apO sl31 (Ax95_0.st (tr5 p262 p296 p304 p313 p318) rfl) A318 rfl rfl rfl rfl rfl rfl rfl rfl rfl (fun v324 s324 p324 A324 => ?_)
   refine Xh (L' := [0]) (D' := [1, 2, 3, 4, 20, 18, 19, 7, 8, 9, 11, 12, 13, 14, 15, 10, 16, 17, 5, 6]) zd321 rfl (fun zd326 => ?_)
   exact Xu [21, 22, 23] tb262 zd326 (Xa (Xc rfl) rfl Xe) (by kernel_rfl) (by decide) (Kj284 _ _ _ ⟨s324, _, v324, rfl, (ue (ue (ue rfl rfl) rfl) rfl), (Kx95.st (tr6 p262 p296 p304 p313 p318 p324) rfl), A324, (Bx95_p0.st (tr6 p262 p296 p304 p313 p318 p324) rfl)⟩)
  refine ltF' (K := (Kd.int .i64)) (cells := [(iI x95.2.2.1), (iI (IntKind.wrap .i64 ((x95.2.1.length : Int) - (1 : Int))))]) [x95.2.2.1, (IntKind.wrap .i64 ((x95.2.1.length : Int) - (1 : Int)))] 57 Yd u59 z3 o3 (fun w => (els_flat _ _ _)) rfl (fun v329 s329 p329 A329 => ?_)
  refine Xh (L' := [5, 4, 3, 2, 1, 0]) (D' := [7, 8, 9, 11, 12, 13, 14, 15, 10, 16, 17]) zd286 rfl (fun zd331 => ?_)
  refine Xm 6 [some 94, some 93, some 92, some 91, some 90] tb262 zd331 (Xa (Xp (es := [(iI x95.2.2.2.1), (iI x95.2.2.2.2.1), ux95_0, vx95_1, (iI x95.2.2.2.2.2.2.2)]) (Bx95_by35_0.st (Xo p262 p329) rfl) u48 z48 rfl) rfl (Xa (Xl (Bx95_p0.st (Xo p262 p329) rfl) u31 rfl) rfl (Xa (Xj fa33_0 rfl) rfl (Xa (Xc rfl) rfl (Xa (Xc rfl) rfl (Xa (Xc rfl) rfl Xe)))))) (by kernel_rfl) rfl (fun l332 e332 zd332 => ?_)
  have A335 : OwF kd48 s329 [(iI x95.2.2.2.1), (iI x95.2.2.2.2.1), ux95_0, vx95_1, (iI x95.2.2.2.2.2.2.2)] (Entry.mk (Item.mk x95.2.2.2.1 x95.2.2.2.2.1 x95.2.2.2.2.2.1 x95.2.2.2.2.2.2.1) x95.2.2.2.2.2.2.2) 43 := (Xz (fun x : Entry => (x.Key, x.Id)) (Entry.mk (Item.mk x95.2.2.2.1 x95.2.2.2.2.1 x95.2.2.2.2.2.1 x95.2.2.2.2.2.2.1) x95.2.2.2.2.2.2.2) (ow_r (Xz (fun x : Item => (x.Kind, x.N, x.F, x.T)) (Item.mk x95.2.2.2.1 x95.2.2.2.2.1 x95.2.2.2.2.2.1 x95.2.2.2.2.2.2.1) (ow_l (Yc .i64 x95.2.2.2.1) (ow_l (Yc .i64 x95.2.2.2.2.1) (ow_l (fz_flt Fx95_0) (Ax95_1.st (Xo p262 p329) rfl))))) (Yc .i64 x95.2.2.2.2.2.2.2)))
  refine ltO (K := kd48) (cells := [(iI x95.2.2.2.1), (iI x95.2.2.2.2.1), ux95_0, vx95_1, (iI x95.2.2.2.2.2.2.2)]) [(Entry.mk (Item.mk x95.2.2.2.1 x95.2.2.2.2.1 x95.2.2.2.2.2.1 x95.2.2.2.2.2.2.1) x95.2.2.2.2.2.2.2)] 43 u52 z48 o48 (lo_one A335) rfl rfl rfl rfl rfl rfl rfl rfl rfl rfl (fun v339 s339 p339 A339 => ?_)
  refine Xh (L' := [4, 3, 2, 1, 0]) (D' := [5, 6, 7, 8, 9, 11, 12, 13, 14, 15, 10, 16, 17]) zd332 rfl (fun zd341 => ?_)
  refine Xm 19 [some 94, some 93, some 92, some 91, some 90] tb262 (zd341.add 18 108 (.agg #[(.bool false), v339, v329]) rfl) (Xa (bd_q' (cells := [(.bool false), v339, v329]) pl61 o61 rfl (Xx (Yh (oc A339.rd.one) (Yh (oc (A329.st p339 rfl).rd.one) pc_n)) rfl)) rfl (Xa (Xl (Bx95_p0.st (Ye p262 p329 p339) rfl) u31 rfl) rfl (Xa (Xj fa33_0 rfl) rfl (Xa (Xc rfl) rfl (Xa (Xc rfl) rfl (Xa (Xc rfl) rfl Xe)))))) (by kernel_rfl) rfl (fun l344 e344 zd344 => ?_)
  obtain ⟨s348, hw348, p348, A348⟩ := ow_2 A339 (A329.st p339 rfl) rfl rfl
  rw [hw348]
  have A350 : OwF kd61 s348 [(.bool false), v339, v329] (Node.mk false ([(Entry.mk (Item.mk x95.2.2.2.1 x95.2.2.2.2.1 x95.2.2.2.2.2.1 x95.2.2.2.2.2.2.1) x95.2.2.2.2.2.2.2)]) ([x95.2.2.1, (IntKind.wrap .i64 ((x95.2.1.length : Int) - (1 : Int)))])) 43 := (Xz (fun x : Node => (x.Leaf, x.Entries, x.Kids)) (Node.mk false ([(Entry.mk (Item.mk x95.2.2.2.1 x95.2.2.2.2.1 x95.2.2.2.2.2.1 x95.2.2.2.2.2.2.1) x95.2.2.2.2.2.2.2)]) ([x95.2.2.1, (IntKind.wrap .i64 ((x95.2.1.length : Int) - (1 : Int)))])) (ow_l (fz_bool false) A348))
  refine ltO (K := kd61) (cells := [(.bool false), v339, v329]) [(Node.mk false ([(Entry.mk (Item.mk x95.2.2.2.1 x95.2.2.2.2.1 x95.2.2.2.2.2.1 x95.2.2.2.2.2.2.1) x95.2.2.2.2.2.2.2)]) ([x95.2.2.1, (IntKind.wrap .i64 ((x95.2.1.length : Int) - (1 : Int)))]))] 43 u31 z61 o61 (lo_one A350) rfl rfl rfl rfl rfl rfl rfl rfl rfl rfl (fun v353 s353 p353 A353 => ?_)
  refine Xh (L' := [4, 3, 2, 1, 0]) (D' := [18, 19, 5, 6, 7, 8, 9, 11, 12, 13, 14, 15, 10, 16, 17]) zd344 rfl (fun zd355 => ?_)
  refine Xm 20 [some 90] tb262 zd355 (Xa (Xl (Bx95_p0.st (tr5 p262 p329 p339 p348 p353) rfl) u31 rfl) rfl (Xa (Xj fa33_0 rfl) rfl (Xa (Xc rfl) rfl (Xa (Xc rfl) rfl (Xa (Xc rfl) rfl Xe))))) (by kernel_rfl) rfl (fun l356 e356 zd356 => ?_)
  refine apO sl31 (Ax95_0.st (tr5 p262 p329 p339 p348 p353) rfl) A353 rfl rfl rfl rfl rfl rfl rfl rfl rfl (fun v359 s359 p359 A359 => ?_)
  refine Xh (L' := [0]) (D' := [1, 2, 3, 4, 20, 18, 19, 5, 6, 7, 8, 9, 11, 12, 13, 14, 15, 10, 16, 17]) zd356 rfl (fun zd361 => ?_)
  exact Xu [21, 22, 23] tb262 zd361 (Xa (Xc rfl) rfl Xe) (by kernel_rfl) (by decide) (Kj284 _ _ _ ⟨s359, _, v359, rfl, (ue (ue (ue rfl rfl) rfl) rfl), (Kx95.st (tr6 p262 p329 p339 p348 p353 p359) rfl), A359, (Bx95_p0.st (tr6 p262 p329 p339 p348 p353 p359) rfl)⟩)
 rintro y284 _ _ ⟨s364, _, vy284_0, rfl, rfl, Ky284, Ay284_0, By284_p0⟩
 refine Xb rfl (Xs fa33_0 rfl (sv' By284_p0 z31 rfl Ay284_0.rd.one rfl (fun s367 p367 B367 => ?_)))
 refine dn (rg (Xb rfl (Xb rfl (Xb rfl (Xs fa33_0 rfl (Yb B367 u31 rfl ?_))))))
 have A369 := Ay284_0.st p367 rfl
 refine ln' A369.rd u31 rfl (Xb rfl (Xb rfl (Xs fa33_1 rfl (sv' B367 z3 rfl rfl rfl (fun s370 p370 B370 => ?_)))))
 exact dn (reE rfl func31 rfl Xg rfl ⟨_, rfl, vy284_0, s370, rfl, rfl, (Ky284.st (Xo p367 p370) rfl), B370, (A369.st p370 rfl)⟩)
def impl_TreeAdd.f (a0 : Tree) (a1 : Item) (a2 : Int) : Option (Tree × Bool) :=
 ((impl_TreeOk.f a0).bind fun r19 => ((if (!r19) = true then (some true) else ((impl_isEntry.f (Entry.mk a1 a2)).bind fun r29 => (some (!r29)))).bind fun y21 => (if y21 = true then (some ((Tree.mk ([] : (List Node)) (0 : Int)), false)) else ((impl_Tree_has.f a0 (Entry.mk a1 a2)).bind fun r47 => (if r47.2.2 = true then (some ((Tree.mk ([] : (List Node)) (0 : Int)), false)) else ((impl_Tree_own.f a0).bind fun r59 => ((impl_Tree_add.f r59 (Entry.mk a1 a2)).bind fun r71 => (if (decide ((r71.Nodes.length : Int) > (300 : Int))) = true then (some ((Tree.mk ([] : (List Node)) (0 : Int)), false)) else (some (r71, true))))))))))
def impl_TreeAdd.Q (w : World) (F : Nat → Prop) (r : Tree × Bool) (v : Value) (w' : World) : Prop :=
 ∃ (v0 : Value), v = .tuple #[(.agg #[v0, (iI r.1.Root)]), (.bool r.2)] ∧ FO kd33 w w' [v0, (iI r.1.Root)] r.1 ∧ Ky [] w w'
theorem impl_TreeAdd.calls (a0 : Tree) (a1 : Item) (a2 : Int) (w : World) (F : Nat → Prop) (w0_0 : Value) (w1_0 : Value) (w1_1 : Value) (h0_0 : Yp.rd w [w0_0] a0.Nodes F) (h1_0 : Kd.flt.rd w [w1_0] a1.F F) (h1_1 : Ym.rd w [w1_1] a1.T F) (r : Tree × Bool) (m : impl_TreeAdd.f a0 a1 a2 = some r) :
  Calls prog 9 #[(.agg #[w0_0, (iI a0.Root)]), (.agg #[(iI a1.Kind), (iI a1.N), w1_0, w1_1]), (iI a2)] w (RT (impl_TreeAdd.Q w F) r) := by
 obtain ⟨s0, rfl, kp0, z⟩ := Xn w F
 have A0_0 := z.rd h0_0
 have A1_0 := Yj h1_0
 have A1_1 := z.rd h1_1
 refine Xf (args := [(.agg #[w0_0, (iI a0.Root)]), (.agg #[(iI a1.Kind), (iI a1.N), w1_0, w1_1]), (iI a2)]) func9 ntmps9 rfl rfl m ?_
 unfold impl_TreeAdd.f
 refine sr (bx' (cs := [w0_0, (iI a0.Root)]) 40 rfl rfl (fun b3 s3 p3 B3 => ?_))
 refine bx' (cs := [(iI a1.Kind), (iI a1.N), w1_0, w1_1]) 41 rfl rfl (fun b5 s5 p5 B5 => ?_)
 refine al' (cs := [(.slice none 0 0), (iI 0)]) 42 rfl o33 rfl (fun b7 s7 p7 B7 => ?_)
 refine Xb rfl (dn (sr ?_))
 refine Yl (es := [(iI a1.Kind), (iI a1.N), w1_0, w1_1]) (B5.st p7 rfl) u37 z37 rfl (Xb rfl (bd (cells := [(iI a1.Kind), (iI a1.N), w1_0, w1_1, (iI a2)]) pl48 o48 rfl rfl rfl rfl rfl rfl (al' (cs := [(iI 0), (iI 0), (.float .f64 0), (.slice none 0 0), (iI 0)]) 43 rfl o48 rfl (fun b10 s10 p10 B10 => ?_))))
 have K12 := kp0.st (Yf p3 p5 p7 p10) rfl
 refine Yk (vs := [(iI a1.Kind), (iI a1.N), w1_0, w1_1, (iI a2)]) B10 z48 rfl (Xd rfl (Xd rfl (Xd (FL.one A1_0) (Xd (A1_1.kp K12).one (Xd rfl Xt))))) rfl (fun s14 p14 B14 => ?_)
 refine dn (sq (sr ?_))
 have A16 := B3.st (Yf p5 p7 p10 p14) rfl
 refine Yl (es := [w0_0, (iI a0.Root)]) A16 u33 z33 rfl ?_
 have K17 := K12.st p14 rfl
 refine clV 44 rfl func27 rfl (impl_TreeOk.calls a0 s14.w (mm [0] s14) w0_0 (A0_0.kp K17)) (fun r19 s20 p20 n20 => ?_)
 refine Xb rfl (Xb rfl (ji [] (fun (y21 : Bool) e w => ∃ (s : St) (e0 : Env), w = s.w ∧ e = upd (upd (upd (upd e0 3 (pB b3)) 6 (pB b7)) 8 (pB b10)) 23 (.bool y21) ∧ Kp s0 s ∧ BlF s b10 48 [(iI a1.Kind), (iI a1.N), w1_0, w1_1, (iI a2)] 43 ∧ BlF s b7 33 [(.slice none 0 0), (iI 0)] 42 ∧ BlF s b3 33 [w0_0, (iI a0.Root)] 40) (fun Gj21 Kj21 => ?_) ?_))
 ·
  rcases bft (!r19) with hb21 | hb21
  ·
   refine sbT hb21 ?_
   rw [if_pos hb21]
   refine Xr rfl (Xr rfl (Xr rfl (Xb rfl ?_)))
   exact Kj21 _ _ _ ⟨s20, _, rfl, (ue (ue (ue (ue rfl rfl) rfl) rfl) rfl), (K17.st p20 rfl), (B14.st p20 rfl), (B7.st (Ye p10 p14 p20) rfl), (A16.st p20 rfl)⟩
  refine sbT hb21 ?_
  rw [if_neg (by rw [hb21]; decide)]
  have A26 := B14.st p20 rfl
  refine Yl (es := [(iI a1.Kind), (iI a1.N), w1_0, w1_1, (iI a2)]) A26 u48 z48 rfl ?_
  have K27 := K17.st p20 rfl
  refine clV 45 rfl func28 rfl (impl_isEntry.calls (Entry.mk a1 a2) s20.w (mm [0] s20) w1_0 w1_1 ((Xk (s := s20) A1_0).sub (D := [0]) rfl) (A1_1.kp K27)) (fun r29 s30 p30 n30 => ?_)
  refine Xb rfl (Xb rfl ?_)
  exact Kj21 _ _ _ ⟨s30, _, rfl, (ue (ue (ue (ue rfl rfl) rfl) rfl) rfl), (K27.st p30 rfl), (A26.st p30 rfl), (B7.st (Yf p10 p14 p20 p30) rfl), (A16.st (Xo p20 p30) rfl)⟩
 rintro y21 _ _ ⟨s35, _, rfl, rfl, Ky21, By21_b10, By21_b7, By21_b3⟩
 refine dn (cd rfl (fun h39 => ?_) (fun h39 => ?_))
 ·
  refine sr (bd (cells := [(.slice none 0 0), (iI 0)]) pl33 o33 rfl rfl rfl rfl rfl rfl (Yk (vs := [(.slice none 0 0), (iI 0)]) By21_b7 z33 rfl (Xd rfl (Xd rfl Xt)) rfl (fun s40 p40 B40 => ?_)))
  refine Xb rfl (dn ?_)
  have A42 : OwF kd33 s40 [(.slice none 0 0), (iI 0)] (Tree.mk ([] : (List Node)) (0 : Int)) 46 := ow_z _ _ (fz_iso (fun x : Tree => (x.Nodes, x.Root)) (Tree.mk ([] : (List Node)) (0 : Int)) (fz_pair (fz_nil 61 kd61) (Yc .i64 (0 : Int))))
  have K44 := Ky21.st p40 rfl
  exact re rfl func9 rfl (r_b B40 u33 rfl z33 rfl (Xv rfl Xg)) rfl ⟨_, rfl, (.slice none 0 0), rfl, A42.fo K44 rfl z.l, z.ky K44⟩
 refine sk (sq (sr (Yl (es := [w0_0, (iI a0.Root)]) By21_b3 u33 z33 rfl (Yl (es := [(iI a1.Kind), (iI a1.N), w1_0, w1_1, (iI a2)]) By21_b10 u48 z48 rfl ?_))))
 refine clV 47 rfl func29 rfl (impl_Tree_has.calls a0 (Entry.mk a1 a2) s35.w (mm [0] s35) w0_0 w1_0 w1_1 (A0_0.kp Ky21) ((Xk (s := s35) A1_0).sub (D := [0]) rfl) (A1_1.kp Ky21)) (fun r47 s48 p48 n48 => ?_)
 refine Xb rfl (Xb (v := (iI r47.1)) rfl (Xb (v := (iI r47.2.1)) rfl (Xb (v := (.bool r47.2.2)) rfl (Xb rfl (Xb rfl (Xb rfl (dn (sr (Xb rfl (dn (cd rfl (fun h49 => ?_) (fun h49 => ?_))))))))))))
 ·
  refine sr (bd (cells := [(.slice none 0 0), (iI 0)]) pl33 o33 rfl rfl rfl rfl rfl rfl ?_)
  refine Yk (vs := [(.slice none 0 0), (iI 0)]) (By21_b7.st p48 rfl) z33 rfl (Xd rfl (Xd rfl Xt)) rfl (fun s51 p51 B51 => ?_)
  refine Xb rfl (dn ?_)
  have A53 : OwF kd33 s51 [(.slice none 0 0), (iI 0)] (Tree.mk ([] : (List Node)) (0 : Int)) 48 := ow_z _ _ (fz_iso (fun x : Tree => (x.Nodes, x.Root)) (Tree.mk ([] : (List Node)) (0 : Int)) (fz_pair (fz_nil 61 kd61) (Yc .i64 (0 : Int))))
  have K55 := Ky21.st (Xo p48 p51) rfl
  exact re rfl func9 rfl (r_b B51 u33 rfl z33 rfl (Xv rfl Xg)) rfl ⟨_, rfl, (.slice none 0 0), rfl, A53.fo K55 rfl z.l, z.ky K55⟩
 refine sk (sr ?_)
 refine Yl (es := [w0_0, (iI a0.Root)]) (By21_b3.st p48 rfl) u33 z33 rfl ?_
 have K57 := Ky21.st p48 rfl
 refine cl' rfl func30 rfl (impl_Tree_own.calls a0 s48.w (mm [0] s48) w0_0 (A0_0.kp K57)) ?_
 rintro r59 _ w59 m59 ⟨v59_0, rfl, f59_0, ky59⟩
 obtain ⟨s60, rfl, p60, n60⟩ := nwx s48 w59 49 ky59
 refine al' (cs := [(.slice none 0 0), (iI 0)]) 50 rfl o33 rfl (fun b62 s62 p62 B62 => ?_)
 have A64 := (ap33 (f59_0.c n60)).st p62 rfl
 refine Yk (vs := [v59_0, (iI r59.Root)]) B62 z33 rfl (Xd A64.rd.one (Xd rfl Xt)) rfl (fun s65 p65 B65 => ?_)
 refine dn (sq (sr ?_))
 refine Yl (es := [(iI a1.Kind), (iI a1.N), w1_0, w1_1, (iI a2)]) (By21_b10.st (Yf p48 p60 p62 p65) rfl) u48 z48 rfl ?_
 have K68 := K57.st (Ye p60 p62 p65) rfl
 refine cl' rfl func31 rfl (impl_Tree_add.calls r59 (Entry.mk a1 a2) (vwL [0] [(50, 2)] 49 s65) b62 v59_0 w1_0 w1_1 (OwF.vwL (A64.st p65 rfl)) (BlF.vwL B65 rfl (by simp)) A1_0 (RdF.vwL (A1_1.kp K68) rfl rfl)) ?_
 rintro r71 _ _ m71 ⟨u71_0, t71, rfl, rfl, kp71, bw71, uf71_0⟩
 have hw72 : t71.w = (bkL [(50, 2)] 51 49 s65 t71).w := rfl
 have p72 := bkL_st (D := [0]) (M := [(50, 2)]) (cn := 51) (cR := 49) rfl kp71
 have B72 := BlF.bkL (D := [0]) (M := [(50, 2)]) (cn := 51) (cR := 49) (c := 50) bw71 rfl (by simp) kp71
 have U72_0 := OwF.bkL (D := [0]) (M := [(50, 2)]) (cn := 51) (cR := 49) uf71_0 rfl kp71
 generalize bkL [(50, 2)] 51 49 s65 t71 = s72 at hw72 p72 B72 U72_0
 rw [hw72]
 refine dn (sr (Xs fa33_0 rfl (Yb B72 u31 rfl (ln' U72_0.rd u31 rfl (Xb rfl (dn (cd rfl (fun h75 => ?_) (fun h75 => ?_))))))))
 ·
  refine sr (bd (cells := [(.slice none 0 0), (iI 0)]) pl33 o33 rfl rfl rfl rfl rfl rfl ?_)
  refine Yk (vs := [(.slice none 0 0), (iI 0)]) (By21_b7.st (tr5 p48 p60 p62 p65 p72) rfl) z33 rfl (Xd rfl (Xd rfl Xt)) rfl (fun s77 p77 B77 => ?_)
  refine Xb rfl (dn ?_)
  have A79 : OwF kd33 s77 [(.slice none 0 0), (iI 0)] (Tree.mk ([] : (List Node)) (0 : Int)) 52 := ow_z _ _ (fz_iso (fun x : Tree => (x.Nodes, x.Root)) (Tree.mk ([] : (List Node)) (0 : Int)) (fz_pair (fz_nil 61 kd61) (Yc .i64 (0 : Int))))
  have K81 := K68.st (Xo p72 p77) rfl
  exact re rfl func9 rfl (r_b B77 u33 rfl z33 rfl (Xv rfl Xg)) rfl ⟨_, rfl, (.slice none 0 0), rfl, A79.fo K81 rfl z.l, z.ky K81⟩
 refine sk (sr (Yl (es := [u71_0, (iI r71.Root)]) B72 u33 z33 rfl ?_))
 refine Yk (vs := [u71_0, (iI r71.Root)]) (By21_b7.st (tr5 p48 p60 p62 p65 p72) rfl) z33 rfl (Xd U72_0.rd.one (Xd rfl Xt)) rfl (fun s83 p83 B83 => ?_)
 refine Xb rfl (dn ?_)
 have A85 : OwF kd33 s83 [u71_0, (iI r71.Root)] r71 49 := (Xz (fun x : Tree => (x.Nodes, x.Root)) r71 (ow_r (U72_0.st p83 rfl) (Yc .i64 r71.Root)))
 have K88 := K68.st (Xo p72 p83) rfl
 exact re rfl func9 rfl (r_b B83 u33 rfl z33 rfl (Xv rfl Xg)) rfl ⟨_, rfl, u71_0, rfl, A85.fo K88 rfl z.l, z.ky K88⟩
def laws_sameFloat.f (a0 : Nat) (a1 : Nat) : Option (Bool) :=
 (if ((fcmp .f64 a0 a0 != some .eq) || (fcmp .f64 a1 a1 != some .eq)) = true then (some ((fcmp .f64 a0 a0 != some .eq) && (fcmp .f64 a1 a1 != some .eq))) else (if ((fcmp .f64 a0 (0 : Nat) == some .eq) && (fcmp .f64 a1 (0 : Nat) == some .eq)) = true then (some ((fcmp .f64 (far .quo (4607182418800017408 : Nat) a0) (0 : Nat) == some .gt) == (fcmp .f64 (far .quo (4607182418800017408 : Nat) a1) (0 : Nat) == some .gt))) else (some (fcmp .f64 a0 a1 == some .eq))))
def laws_sameFloat.Q (w : World) (F : Nat → Prop) (r : Bool) (v : Value) (w' : World) : Prop :=
 v = (.bool r) ∧ Ky [] w w'
theorem laws_sameFloat.calls (a0 : Nat) (a1 : Nat) (w : World) (F : Nat → Prop) (w0_0 : Value) (w1_0 : Value) (h0_0 : Kd.flt.rd w [w0_0] a0 F) (h1_0 : Kd.flt.rd w [w1_0] a1 F) (r : Bool) (m : laws_sameFloat.f a0 a1 = some r) :
  Calls prog 33 #[w0_0, w1_0] w (RT (laws_sameFloat.Q w F) r) := by
 obtain ⟨s0, rfl, kp0, z⟩ := Xn w F
 have A0_0 := Yj h0_0
 have A1_0 := Yj h1_0
 refine Xf (args := [w0_0, w1_0]) func33 ntmps33 rfl rfl m ?_
 unfold laws_sameFloat.f
 refine sr (Xb rfl (dn (sq (sr (Xw w0_0 rfl (Xw w0_0 rfl (fq_' A0_0 A0_0 rfl (Xb rfl (jy [8, 9, 10, 11, 12] [] 12 (.bool ((fcmp .f64 a0 a0 != some .eq) || (fcmp .f64 a1 a1 != some .eq))) rfl (fun Kg1 => ?_) (fun j1 => ?_))))))))))
 ·
  rcases bft (fcmp .f64 a0 a0 != some .eq) with hb1 | hb1
  ·
   exact sbT hb1 (Xr rfl (Xr rfl (Xr rfl (Xb rfl (Kg1 _ (Ag.put ((Ag.put ((Ag.put ((Ag.put (Ag.base rfl) rfl)) rfl)) rfl)) rfl) (by rw [hb1]; rfl))))))
  exact sbT hb1 (Xw w1_0 rfl (Xw w1_0 rfl (fq_' A1_0 A1_0 rfl (Xb rfl (Kg1 _ (Ag.put ((Ag.put ((Ag.put ((Ag.put (Ag.base rfl) rfl)) rfl)) rfl)) rfl) (by rw [hb1]; rfl))))))
 refine dn (cd rfl (fun h2 => ?_) (fun h2 => ?_))
 ·
  refine sr (Xw w0_0 rfl (Xw w0_0 rfl (fq_' A0_0 A0_0 rfl (Xb rfl (jy [16, 17, 18, 19, 20] [8] 20 (.bool ((fcmp .f64 a0 a0 != some .eq) && (fcmp .f64 a1 a1 != some .eq))) rfl (fun Kg3 => ?_) (fun j3 => ?_))))))
  ·
   rcases bft (fcmp .f64 a0 a0 != some .eq) with hb3 | hb3
   ·
    exact sbT hb3 (Xw w1_0 rfl (Xw w1_0 rfl (fq_' A1_0 A1_0 rfl (Xb rfl (Kg3 _ (Ag.put ((Ag.put ((Ag.put ((Ag.put (Ag.base rfl) rfl)) rfl)) rfl)) rfl) (by rw [hb3]; rfl))))))
   exact sbT hb3 (Xr rfl (Xr rfl (Xr rfl (Xb rfl (Kg3 _ (Ag.put ((Ag.put ((Ag.put ((Ag.put (Ag.base rfl) rfl)) rfl)) rfl)) rfl) (by rw [hb3]; rfl))))))
  exact Xb rfl (dn (re rfl func33 rfl (Xv rfl Xg) rfl ⟨_, rfl, rfl, z.ky kp0⟩))
 refine sk (sq (sr (Xw w0_0 rfl (fq_' A0_0 (fl_c rfl) rfl (Xb rfl (jy [23, 24, 25, 26] [] 26 (.bool ((fcmp .f64 a0 (0 : Nat) == some .eq) && (fcmp .f64 a1 (0 : Nat) == some .eq))) rfl (fun Kg4 => ?_) (fun j4 => ?_)))))))
 ·
  rcases bft (fcmp .f64 a0 (0 : Nat) == some .eq) with hb4 | hb4
  ·
   exact sbT hb4 (Xw w1_0 rfl (fq_' A1_0 (fl_c rfl) rfl (Xb rfl (Kg4 _ (Ag.put ((Ag.put ((Ag.put (Ag.base rfl) rfl)) rfl)) rfl) (by rw [hb4]; rfl)))))
  exact sbT hb4 (Xr rfl (Xr rfl (Xb rfl (Kg4 _ (Ag.put ((Ag.put ((Ag.put (Ag.base rfl) rfl)) rfl)) rfl) (by rw [hb4]; rfl)))))
 refine dn (cd rfl (fun h5 => ?_) (fun h5 => ?_))
 ·
  refine sr (Xw w0_0 rfl (fa_ (fl_c rfl) A0_0 (by simp) rfl rfl rfl rfl rfl rfl rfl (fun v6 s6 p6 A6 => ?_)))
  refine fq_' A6 (fl_c rfl) rfl (Xw w1_0 rfl (fa_ (fl_c rfl) A1_0 (by simp) rfl rfl rfl rfl rfl rfl rfl (fun v7 s7 p7 A7 => ?_)))
  refine fq_' A7 (fl_c rfl) rfl (beq_ u4 rfl rfl rfl rfl rfl rfl rfl (Xb rfl (dn ?_)))
  exact re rfl func33 rfl (Xv rfl Xg) rfl ⟨_, rfl, rfl, z.ky (kp0.st (Xo p6 p7) rfl)⟩
 exact sk (sr (Xw w0_0 rfl (Xw w1_0 rfl (fq_' A0_0 A1_0 rfl (Xb rfl (dn (re rfl func33 rfl (Xv rfl Xg) rfl ⟨_, rfl, rfl, z.ky kp0⟩)))))))
def laws_eqByteS.b0 (a0 : (List Int)) (a1 : (List Int)) (x4 : Int) : Option (Int ⊕ Bool) :=
 (if (decide (x4 < (a0.length : Int))) = true then (if 0 ≤ x4 ∧ x4 < (a0.length : Int) then (if 0 ≤ x4 ∧ x4 < (a1.length : Int) then (if ((at_ a0 x4) != (at_ a1 x4)) = true then (some (Sum.inr false)) else (some (Sum.inl (IntKind.wrap .i64 (x4 + (1 : Int)))))) else none) else none) else ((some true).bind fun o => some (Sum.inr o)))
def laws_eqByteS.f (a0 : (List Int)) (a1 : (List Int)) : Option (Bool) :=
 (if ((a0.length : Int) != (a1.length : Int)) = true then (some false) else (iter (laws_eqByteS.b0 a0 a1) (0 : Int)))
def laws_eqByteS.Q (w : World) (F : Nat → Prop) (r : Bool) (v : Value) (w' : World) : Prop :=
 v = (.bool r) ∧ Ky [] w w'
theorem laws_eqByteS.calls (a0 : (List Int)) (a1 : (List Int)) (w : World) (F : Nat → Prop) (w0_0 : Value) (w1_0 : Value) (h0_0 : Ym.rd w [w0_0] a0 F) (h1_0 : Ym.rd w [w1_0] a1 F) (r : Bool) (m : laws_eqByteS.f a0 a1 = some r) :
  Calls prog 34 #[w0_0, w1_0] w (RT (laws_eqByteS.Q w F) r) := by
 obtain ⟨s0, rfl, kp0, z⟩ := Xn w F
 have A0_0 := z.rd h0_0
 have A1_0 := z.rd h1_0
 refine Xf (args := [w0_0, w1_0]) func34 ntmps34 rfl rfl m ?_
 unfold laws_eqByteS.f
 refine sr (Xb rfl (dn (sq (sr (Xw w0_0 rfl (ln' A0_0 u26 rfl (Xw w1_0 rfl (ln' A1_0 u26 rfl (Xb rfl (dn (cd rfl (fun h3 => ?_) (fun h3 => ?_))))))))))))
 ·
  exact sr (Xb rfl (dn (re rfl func34 rfl (Xv rfl Xg) rfl ⟨_, rfl, rfl, z.ky kp0⟩)))
 refine sk (sq (sr (Xb rfl (dn (bl (lpI (fun (x4 : Int) e w => ∃ (s : St) (e0 : Env), w = s.w ∧ e = upd (upd (upd e0 0 w0_0) 1 w1_0) 5 (iI x4) ∧ Kp s0 s) ⟨s0, _, rfl, (ue (ue (ue rfl rfl) rfl) rfl), kp0⟩ (fun g4 ih4 => ?_)))))))
 rintro x4 _ _ ⟨s5, _, rfl, rfl, Kx4⟩
 unfold laws_eqByteS.b0
 refine sq (sr (Xb rfl (Xw w0_0 rfl ?_)))
 refine ln' (A0_0.kp Kx4) u26 rfl (Xb rfl (dn (cd rfl (fun h7 => ?_) (fun h7 => ?_))))
 ·
  refine sk (sq (bl (sq (Ya [[], [], [0, 1], [2], [], [], [4, 5], [6], [3, 7]] [some 17, some 18, some 19, some 20, some 21, some 22, some 23, some 24, some 25] [[0], [5], [17, 18], [19], [1], [5], [21, 22], [23], [20, 24]] [0, 1, 2, 3, 4, 5, 6, 7, 8] ⟨by kernel_rfl, by kernel_rfl, by kernel_rfl⟩ (by kernel_rfl) (fun s8 p8 l8 tb8 zd8 => ?_)))))
  have K11 := Kx4.st p8 rfl
  have A12 := A0_0.kp K11
  refine mg fun hg13 => ?_
  obtain ⟨ad13, es13, he13, ce13, ia13⟩ := ix_e A12 rfl hg13.1 hg13.2
  obtain rfl := he13
  have A19 := A1_0.kp K11
  refine mg fun hg20 => ?_
  obtain ⟨ad20, es20, he20, ce20, ia20⟩ := ix_e A19 rfl hg20.1 hg20.2
  obtain rfl := he20
  refine Xu [8] tb8 ((((((((zd8.add 0 17 w0_0 rfl).add 1 18 (iI x4) rfl).add 2 19 (.pointer (some ad13)) rfl).add 3 20 (.int .u8 (at_ a0 x4)) rfl).add 4 21 w1_0 rfl).add 5 22 (iI x4) rfl).add 6 23 (.pointer (some ad20)) rfl).add 7 24 (.int .u8 (at_ a1 x4)) rfl) (Xa (lc0_q' ce20 u5 rfl) rfl (Xa (Yg A19 u26 z5 hg20.1 hg20.2 ia20 rfl) rfl (Xa (Xc rfl) rfl (Xa (Xq w1_0 rfl) rfl (Xa (lc0_q' ce13 u5 rfl) rfl (Xa (Yg A12 u26 z5 hg13.1 hg13.2 ia13 rfl) rfl (Xa (Xc rfl) rfl (Xa (Xq w0_0 rfl) rfl Xe)))))))) (by kernel_rfl) (by decide) (Xb rfl (dn (cd rfl (fun h24 => ?_) (fun h24 => ?_))))
  ·
   exact sr (Xb rfl (dn (sgi (re rfl func34 rfl (Xv rfl Xg) rfl ⟨_, rfl, rfl, z.ky K11⟩))))
  exact sk (ib (rg (Xb rfl (Xb rfl (Xb rfl (dn (lb ih4 ⟨s8, _, rfl, (ue (ue (ue rfl rfl) rfl) rfl), K11⟩)))))))
 exact xt rfl (sgb (sr (Xb rfl (dn (re rfl func34 rfl (Xv rfl Xg) rfl ⟨_, rfl, rfl, z.ky Kx4⟩)))))
def laws_eqItem.f (a0 : Item) (a1 : Item) : Option (Bool) :=
 (if (a0.Kind != a1.Kind) = true then (some false) else (if (a0.N != a1.N) = true then (some false) else ((laws_sameFloat.f a0.F a1.F).bind fun r12 => (if (!r12) = true then (some false) else ((laws_eqByteS.f a0.T a1.T).bind fun r21 => (if (!r21) = true then (some false) else (some true)))))))
def laws_eqItem.Q (w : World) (F : Nat → Prop) (r : Bool) (v : Value) (w' : World) : Prop :=
 v = (.bool r) ∧ Ky [] w w'
theorem laws_eqItem.calls (a0 : Item) (a1 : Item) (w : World) (F : Nat → Prop) (w0_0 : Value) (w0_1 : Value) (w1_0 : Value) (w1_1 : Value) (h0_0 : Kd.flt.rd w [w0_0] a0.F F) (h0_1 : Ym.rd w [w0_1] a0.T F) (h1_0 : Kd.flt.rd w [w1_0] a1.F F) (h1_1 : Ym.rd w [w1_1] a1.T F) (r : Bool) (m : laws_eqItem.f a0 a1 = some r) :
  Calls prog 11 #[(.agg #[(iI a0.Kind), (iI a0.N), w0_0, w0_1]), (.agg #[(iI a1.Kind), (iI a1.N), w1_0, w1_1])] w (RT (laws_eqItem.Q w F) r) := by
 obtain ⟨s0, rfl, kp0, z⟩ := Xn w F
 refine Xf (args := [(.agg #[(iI a0.Kind), (iI a0.N), w0_0, w0_1]), (.agg #[(iI a1.Kind), (iI a1.N), w1_0, w1_1])]) func11 ntmps11 rfl rfl m ?_
 unfold laws_eqItem.f
 refine sr (bx' (cs := [(iI a0.Kind), (iI a0.N), w0_0, w0_1]) 40 rfl rfl (fun b3 s3 p3 B3 => ?_))
 refine bx' (cs := [(iI a1.Kind), (iI a1.N), w1_0, w1_1]) 41 rfl rfl (fun b5 s5 p5 B5 => ?_)
 refine Xb rfl (dn (sq (sr (Xs fa37_0 rfl ?_))))
 have A7 := B3.st p5 rfl
 refine Yb A7 u3 rfl (Xs fa37_0 rfl (Yb B5 u3 rfl (Xb rfl (dn (cd rfl (fun h8 => ?_) (fun h8 => ?_))))))
 ·
  refine sr (Xb rfl (dn ?_))
  exact re rfl func11 rfl (Xv rfl Xg) rfl ⟨_, rfl, rfl, z.ky (kp0.st (Xo p3 p5) rfl)⟩
 refine sk (sq (sr (Xs fa37_1 rfl (Yb A7 u3 rfl (Xs fa37_1 rfl (Yb B5 u3 rfl (Xb rfl (dn (cd rfl (fun h10 => ?_) (fun h10 => ?_))))))))))
 ·
  refine sr (Xb rfl (dn ?_))
  exact re rfl func11 rfl (Xv rfl Xg) rfl ⟨_, rfl, rfl, z.ky (kp0.st (Xo p3 p5) rfl)⟩
 refine sk (sq (sr (Xs fa37_2 rfl (Yb A7 u25 rfl (Xs fa37_2 rfl (Yb B5 u25 rfl (clV 42 rfl func33 rfl (laws_sameFloat.calls a0.F a1.F s5.w (mm [] s5) w0_0 w1_0 (Xk (s := s5) (Yj h0_0)) (Xk (s := s5) (Yj h1_0))) (fun r12 s13 p13 n13 => ?_))))))))
 refine Xb rfl (dn (cd rfl (fun h14 => ?_) (fun h14 => ?_)))
 ·
  refine sr (Xb rfl (dn ?_))
  exact re rfl func11 rfl (Xv rfl Xg) rfl ⟨_, rfl, rfl, z.ky (kp0.st (Ye p3 p5 p13) rfl)⟩
 refine sk (sq (sr (Xs fa37_3 rfl ?_)))
 refine Yb (A7.st p13 rfl) u26 rfl (Xs fa37_3 rfl ?_)
 refine Yb (B5.st p13 rfl) u26 rfl ?_
 have K18 := kp0.st (Ye p3 p5 p13) rfl
 refine clV 43 rfl func34 rfl (laws_eqByteS.calls a0.T a1.T s13.w (mm [0] s13) w0_1 w1_1 ((z.rd h0_1).kp K18) ((z.rd h1_1).kp K18)) (fun r21 s22 p22 n22 => ?_)
 refine Xb rfl (dn (cd rfl (fun h23 => ?_) (fun h23 => ?_)))
 ·
  refine sr (Xb rfl (dn ?_))
  exact re rfl func11 rfl (Xv rfl Xg) rfl ⟨_, rfl, rfl, z.ky (K18.st p22 rfl)⟩
 refine sk (sr (Xb rfl (dn ?_)))
 exact re rfl func11 rfl (Xv rfl Xg) rfl ⟨_, rfl, rfl, z.ky (K18.st p22 rfl)⟩
def laws_eqEntry.f (a0 : Entry) (a1 : Entry) : Option (Bool) :=
 ((laws_eqItem.f a0.Key a1.Key).bind fun r11 => (if (!r11) = true then (some false) else (if (a0.Id != a1.Id) = true then (some false) else (some true))))
def laws_eqEntry.Q (w : World) (F : Nat → Prop) (r : Bool) (v : Value) (w' : World) : Prop :=
 v = (.bool r) ∧ Ky [] w w'
theorem laws_eqEntry.calls (a0 : Entry) (a1 : Entry) (w : World) (F : Nat → Prop) (w0_0 : Value) (w0_1 : Value) (w1_0 : Value) (w1_1 : Value) (h0_0 : Kd.flt.rd w [w0_0] a0.Key.F F) (h0_1 : Ym.rd w [w0_1] a0.Key.T F) (h1_0 : Kd.flt.rd w [w1_0] a1.Key.F F) (h1_1 : Ym.rd w [w1_1] a1.Key.T F) (r : Bool) (m : laws_eqEntry.f a0 a1 = some r) :
  Calls prog 94 #[(.agg #[(iI a0.Key.Kind), (iI a0.Key.N), w0_0, w0_1, (iI a0.Id)]), (.agg #[(iI a1.Key.Kind), (iI a1.Key.N), w1_0, w1_1, (iI a1.Id)])] w (RT (laws_eqEntry.Q w F) r) := by
 obtain ⟨s0, rfl, kp0, z⟩ := Xn w F
 refine Xf (args := [(.agg #[(iI a0.Key.Kind), (iI a0.Key.N), w0_0, w0_1, (iI a0.Id)]), (.agg #[(iI a1.Key.Kind), (iI a1.Key.N), w1_0, w1_1, (iI a1.Id)])]) func94 ntmps94 rfl rfl m ?_
 unfold laws_eqEntry.f
 refine sr (bx' (cs := [(iI a0.Key.Kind), (iI a0.Key.N), w0_0, w0_1, (iI a0.Id)]) 40 rfl rfl (fun b3 s3 p3 B3 => ?_))
 refine bx' (cs := [(iI a1.Key.Kind), (iI a1.Key.N), w1_0, w1_1, (iI a1.Id)]) 41 rfl rfl (fun b5 s5 p5 B5 => ?_)
 refine Xb rfl (dn (sq (sr (Xs fa48_0 rfl ?_))))
 have A7 := B3.st p5 rfl
 refine Yl (es := [(iI a0.Key.Kind), (iI a0.Key.N), w0_0, w0_1]) A7 u37 z37 rfl (Xs fa48_0 rfl (Yl (es := [(iI a1.Key.Kind), (iI a1.Key.N), w1_0, w1_1]) B5 u37 z37 rfl ?_))
 have K8 := kp0.st (Xo p3 p5) rfl
 refine clV 42 rfl func11 rfl (laws_eqItem.calls a0.Key a1.Key s5.w (mm [0] s5) w0_0 w0_1 w1_0 w1_1 ((Xk (s := s5) (Yj h0_0)).sub (D := [0]) rfl) ((z.rd h0_1).kp K8) ((Xk (s := s5) (Yj h1_0)).sub (D := [0]) rfl) ((z.rd h1_1).kp K8)) (fun r11 s12 p12 n12 => ?_)
 refine Xb rfl (dn (cd rfl (fun h13 => ?_) (fun h13 => ?_)))
 ·
  refine sr (Xb rfl (dn ?_))
  exact re rfl func94 rfl (Xv rfl Xg) rfl ⟨_, rfl, rfl, z.ky (K8.st p12 rfl)⟩
 refine sk (sq (sr (Xs fa48_1 rfl ?_)))
 refine Yb (A7.st p12 rfl) u3 rfl (Xs fa48_1 rfl ?_)
 refine Yb (B5.st p12 rfl) u3 rfl (Xb rfl (dn (cd rfl (fun h17 => ?_) (fun h17 => ?_))))
 ·
  refine sr (Xb rfl (dn ?_))
  exact re rfl func94 rfl (Xv rfl Xg) rfl ⟨_, rfl, rfl, z.ky (K8.st p12 rfl)⟩
 refine sk (sr (Xb rfl (dn ?_)))
 exact re rfl func94 rfl (Xv rfl Xg) rfl ⟨_, rfl, rfl, z.ky (K8.st p12 rfl)⟩
def laws_eqEntryS.b0 (a0 : (List Entry)) (a1 : (List Entry)) (x4 : Int) : Option (Int ⊕ Bool) :=
 (if (decide (x4 < (a0.length : Int))) = true then (if 0 ≤ x4 ∧ x4 < (a0.length : Int) then (if 0 ≤ x4 ∧ x4 < (a1.length : Int) then ((laws_eqEntry.f (Entry.mk ((at_ a0 x4).Key) ((at_ a0 x4).Id)) (Entry.mk ((at_ a1 x4).Key) ((at_ a1 x4).Id))).bind fun r26 => (if (!r26) = true then (some (Sum.inr false)) else (some (Sum.inl (IntKind.wrap .i64 (x4 + (1 : Int))))))) else none) else none) else ((some true).bind fun o => some (Sum.inr o)))
def laws_eqEntryS.f (a0 : (List Entry)) (a1 : (List Entry)) : Option (Bool) :=
 (if ((a0.length : Int) != (a1.length : Int)) = true then (some false) else (iter (laws_eqEntryS.b0 a0 a1) (0 : Int)))
def laws_eqEntryS.Q (w : World) (F : Nat → Prop) (r : Bool) (v : Value) (w' : World) : Prop :=
 v = (.bool r) ∧ Ky [] w w'
theorem laws_eqEntryS.calls (a0 : (List Entry)) (a1 : (List Entry)) (w : World) (F : Nat → Prop) (w0_0 : Value) (w1_0 : Value) (h0_0 : Yn.rd w [w0_0] a0 F) (h1_0 : Yn.rd w [w1_0] a1 F) (r : Bool) (m : laws_eqEntryS.f a0 a1 = some r) :
  Calls prog 81 #[w0_0, w1_0] w (RT (laws_eqEntryS.Q w F) r) := by
 obtain ⟨s0, rfl, kp0, z⟩ := Xn w F
 have A0_0 := z.rd h0_0
 have A1_0 := z.rd h1_0
 refine Xf (args := [w0_0, w1_0]) func81 ntmps81 rfl rfl m ?_
 unfold laws_eqEntryS.f
 refine sr (Xb rfl (dn (sq (sr (Xw w0_0 rfl (ln' A0_0 u52 rfl (Xw w1_0 rfl (ln' A1_0 u52 rfl (Xb rfl (dn (cd rfl (fun h3 => ?_) (fun h3 => ?_))))))))))))
 ·
  exact sr (Xb rfl (dn (re rfl func81 rfl (Xv rfl Xg) rfl ⟨_, rfl, rfl, z.ky kp0⟩)))
 refine sk (sq (sr (Xb rfl (dn (bl (lpI (fun (x4 : Int) e w => ∃ (s : St) (e0 : Env), w = s.w ∧ e = upd (upd (upd e0 0 w0_0) 1 w1_0) 5 (iI x4) ∧ Kp s0 s) ⟨s0, _, rfl, (ue (ue (ue rfl rfl) rfl) rfl), kp0⟩ (fun g4 ih4 => ?_)))))))
 rintro x4 _ _ ⟨s5, _, rfl, rfl, Kx4⟩
 unfold laws_eqEntryS.b0
 refine sq (sr (Xb rfl (Xw w0_0 rfl ?_)))
 refine ln' (A0_0.kp Kx4) u52 rfl (Xb rfl (dn (cd rfl (fun h7 => ?_) (fun h7 => ?_))))
 ·
  refine sk (sq (bl (sq (Ya [[], [], [0, 1], [2], [], [], [4, 5], [6], [3, 7], [8]] [some 17, some 18, some 19, some 20, some 21, some 22, some 23, some 24, some 25, some 26] [[0], [5], [17, 18], [19], [1], [5], [21, 22], [23], [20, 24], [25]] [0, 1, 2, 3, 4, 5, 6, 7, 8, 9] ⟨by kernel_rfl, by kernel_rfl, by kernel_rfl⟩ (by kernel_rfl) (fun s8 p8 l8 tb8 zd8 => ?_)))))
  have K11 := Kx4.st p8 rfl
  have A12 := A0_0.kp K11
  refine mg fun hg13 => ?_
  obtain ⟨ad13, es13, he13, ce13, ia13⟩ := ix_e A12 rfl hg13.1 hg13.2
  obtain ⟨v13_0, v13_1, rfl, A13_0, A13_1⟩ := op48 he13
  have A20 := A1_0.kp K11
  refine mg fun hg21 => ?_
  obtain ⟨ad21, es21, he21, ce21, ia21⟩ := ix_e A20 rfl hg21.1 hg21.2
  obtain ⟨v21_0, v21_1, rfl, A21_0, A21_1⟩ := op48 he21
  refine Xu [8, 9] tb8 ((((((((zd8.add 0 17 w0_0 rfl).add 1 18 (iI x4) rfl).add 2 19 (.pointer (some ad13)) rfl).add 3 20 (.agg #[(iI (((at_ a0 x4).Key).Kind)), (iI (((at_ a0 x4).Key).N)), v13_0, v13_1, (iI ((at_ a0 x4).Id))]) rfl).add 4 21 w1_0 rfl).add 5 22 (iI x4) rfl).add 6 23 (.pointer (some ad21)) rfl).add 7 24 (.agg #[(iI (((at_ a1 x4).Key).Kind)), (iI (((at_ a1 x4).Key).N)), v21_0, v21_1, (iI ((at_ a1 x4).Id))]) rfl) (Xa (lca_q' ce21 u48 z48 rfl) rfl (Xa (Yg A20 u52 z48 hg21.1 hg21.2 ia21 rfl) rfl (Xa (Xc rfl) rfl (Xa (Xq w1_0 rfl) rfl (Xa (lca_q' ce13 u48 z48 rfl) rfl (Xa (Yg A12 u52 z48 hg13.1 hg13.2 ia13 rfl) rfl (Xa (Xc rfl) rfl (Xa (Xq w0_0 rfl) rfl Xe)))))))) (by kernel_rfl) (by decide) (clV 40 rfl func94 rfl (laws_eqEntry.calls (Entry.mk ((at_ a0 x4).Key) ((at_ a0 x4).Id)) (Entry.mk ((at_ a1 x4).Key) ((at_ a1 x4).Id)) s8.w (mm [0] s8) v13_0 v13_1 v21_0 v21_1 ((Xk (s := s8) A13_0).sub (D := [0]) rfl) A13_1 ((Xk (s := s8) A21_0).sub (D := [0]) rfl) A21_1) (fun r26 s27 p27 n27 => ?_))
  refine Xb rfl (dn (cd rfl (fun h28 => ?_) (fun h28 => ?_)))
  ·
   refine sr (Xb rfl (dn (sgi ?_)))
   exact re rfl func81 rfl (Xv rfl Xg) rfl ⟨_, rfl, rfl, z.ky (K11.st p27 rfl)⟩
  refine sk (ib (rg (Xb rfl (Xb rfl (Xb rfl (dn ?_))))))
  exact lb ih4 ⟨s27, _, rfl, (ue (ue (ue rfl rfl) rfl) rfl), (K11.st p27 rfl)⟩
 exact xt rfl (sgb (sr (Xb rfl (dn (re rfl func81 rfl (Xv rfl Xg) rfl ⟨_, rfl, rfl, z.ky Kx4⟩)))))
def laws_eqIntS.b0 (a0 : (List Int)) (a1 : (List Int)) (x4 : Int) : Option (Int ⊕ Bool) :=
 (if (decide (x4 < (a0.length : Int))) = true then (if 0 ≤ x4 ∧ x4 < (a0.length : Int) then (if 0 ≤ x4 ∧ x4 < (a1.length : Int) then (if ((at_ a0 x4) != (at_ a1 x4)) = true then (some (Sum.inr false)) else (some (Sum.inl (IntKind.wrap .i64 (x4 + (1 : Int)))))) else none) else none) else ((some true).bind fun o => some (Sum.inr o)))
def laws_eqIntS.f (a0 : (List Int)) (a1 : (List Int)) : Option (Bool) :=
 (if ((a0.length : Int) != (a1.length : Int)) = true then (some false) else (iter (laws_eqIntS.b0 a0 a1) (0 : Int)))
def laws_eqIntS.Q (w : World) (F : Nat → Prop) (r : Bool) (v : Value) (w' : World) : Prop :=
 v = (.bool r) ∧ Ky [] w w'
theorem laws_eqIntS.calls (a0 : (List Int)) (a1 : (List Int)) (w : World) (F : Nat → Prop) (w0_0 : Value) (w1_0 : Value) (h0_0 : Yo.rd w [w0_0] a0 F) (h1_0 : Yo.rd w [w1_0] a1 F) (r : Bool) (m : laws_eqIntS.f a0 a1 = some r) :
  Calls prog 82 #[w0_0, w1_0] w (RT (laws_eqIntS.Q w F) r) := by
 obtain ⟨s0, rfl, kp0, z⟩ := Xn w F
 have A0_0 := z.rd h0_0
 have A1_0 := z.rd h1_0
 refine Xf (args := [w0_0, w1_0]) func82 ntmps82 rfl rfl m ?_
 unfold laws_eqIntS.f
 refine sr (Xb rfl (dn (sq (sr (Xw w0_0 rfl (ln' A0_0 u59 rfl (Xw w1_0 rfl (ln' A1_0 u59 rfl (Xb rfl (dn (cd rfl (fun h3 => ?_) (fun h3 => ?_))))))))))))
 ·
  exact sr (Xb rfl (dn (re rfl func82 rfl (Xv rfl Xg) rfl ⟨_, rfl, rfl, z.ky kp0⟩)))
 refine sk (sq (sr (Xb rfl (dn (bl (lpI (fun (x4 : Int) e w => ∃ (s : St) (e0 : Env), w = s.w ∧ e = upd (upd (upd e0 0 w0_0) 1 w1_0) 5 (iI x4) ∧ Kp s0 s) ⟨s0, _, rfl, (ue (ue (ue rfl rfl) rfl) rfl), kp0⟩ (fun g4 ih4 => ?_)))))))
 rintro x4 _ _ ⟨s5, _, rfl, rfl, Kx4⟩
 unfold laws_eqIntS.b0
 refine sq (sr (Xb rfl (Xw w0_0 rfl ?_)))
 refine ln' (A0_0.kp Kx4) u59 rfl (Xb rfl (dn (cd rfl (fun h7 => ?_) (fun h7 => ?_))))
 ·
  refine sk (sq (bl (sq (Ya [[], [], [0, 1], [2], [], [], [4, 5], [6], [3, 7]] [some 17, some 18, some 19, some 20, some 21, some 22, some 23, some 24, some 25] [[0], [5], [17, 18], [19], [1], [5], [21, 22], [23], [20, 24]] [0, 1, 2, 3, 4, 5, 6, 7, 8] ⟨by kernel_rfl, by kernel_rfl, by kernel_rfl⟩ (by kernel_rfl) (fun s8 p8 l8 tb8 zd8 => ?_)))))
  have K11 := Kx4.st p8 rfl
  have A12 := A0_0.kp K11
  refine mg fun hg13 => ?_
  obtain ⟨ad13, es13, he13, ce13, ia13⟩ := ix_e A12 rfl hg13.1 hg13.2
  obtain rfl := he13
  have A19 := A1_0.kp K11
  refine mg fun hg20 => ?_
  obtain ⟨ad20, es20, he20, ce20, ia20⟩ := ix_e A19 rfl hg20.1 hg20.2
  obtain rfl := he20
  refine Xu [8] tb8 ((((((((zd8.add 0 17 w0_0 rfl).add 1 18 (iI x4) rfl).add 2 19 (.pointer (some ad13)) rfl).add 3 20 (iI (at_ a0 x4)) rfl).add 4 21 w1_0 rfl).add 5 22 (iI x4) rfl).add 6 23 (.pointer (some ad20)) rfl).add 7 24 (iI (at_ a1 x4)) rfl) (Xa (lc0_q' ce20 u3 rfl) rfl (Xa (Yg A19 u59 z3 hg20.1 hg20.2 ia20 rfl) rfl (Xa (Xc rfl) rfl (Xa (Xq w1_0 rfl) rfl (Xa (lc0_q' ce13 u3 rfl) rfl (Xa (Yg A12 u59 z3 hg13.1 hg13.2 ia13 rfl) rfl (Xa (Xc rfl) rfl (Xa (Xq w0_0 rfl) rfl Xe)))))))) (by kernel_rfl) (by decide) (Xb rfl (dn (cd rfl (fun h24 => ?_) (fun h24 => ?_))))
  ·
   exact sr (Xb rfl (dn (sgi (re rfl func82 rfl (Xv rfl Xg) rfl ⟨_, rfl, rfl, z.ky K11⟩))))
  exact sk (ib (rg (Xb rfl (Xb rfl (Xb rfl (dn (lb ih4 ⟨s8, _, rfl, (ue (ue (ue rfl rfl) rfl) rfl), K11⟩)))))))
 exact xt rfl (sgb (sr (Xb rfl (dn (re rfl func82 rfl (Xv rfl Xg) rfl ⟨_, rfl, rfl, z.ky Kx4⟩)))))
def laws_eqNode.f (a0 : Node) (a1 : Node) : Option (Bool) :=
 (if (!(a0.Leaf == a1.Leaf)) = true then (some false) else ((laws_eqEntryS.f a0.Entries a1.Entries).bind fun r15 => (if (!r15) = true then (some false) else ((laws_eqIntS.f a0.Kids a1.Kids).bind fun r24 => (if (!r24) = true then (some false) else (some true))))))
def laws_eqNode.Q (w : World) (F : Nat → Prop) (r : Bool) (v : Value) (w' : World) : Prop :=
 v = (.bool r) ∧ Ky [] w w'
theorem laws_eqNode.calls (a0 : Node) (a1 : Node) (w : World) (F : Nat → Prop) (w0_0 : Value) (w0_1 : Value) (w1_0 : Value) (w1_1 : Value) (h0_0 : Yn.rd w [w0_0] a0.Entries F) (h0_1 : Yo.rd w [w0_1] a0.Kids F) (h1_0 : Yn.rd w [w1_0] a1.Entries F) (h1_1 : Yo.rd w [w1_1] a1.Kids F) (r : Bool) (m : laws_eqNode.f a0 a1 = some r) :
  Calls prog 57 #[(.agg #[(.bool a0.Leaf), w0_0, w0_1]), (.agg #[(.bool a1.Leaf), w1_0, w1_1])] w (RT (laws_eqNode.Q w F) r) := by
 obtain ⟨s0, rfl, kp0, z⟩ := Xn w F
 refine Xf (args := [(.agg #[(.bool a0.Leaf), w0_0, w0_1]), (.agg #[(.bool a1.Leaf), w1_0, w1_1])]) func57 ntmps57 rfl rfl m ?_
 unfold laws_eqNode.f
 refine sr (bx' (cs := [(.bool a0.Leaf), w0_0, w0_1]) 40 rfl rfl (fun b5 s5 p5 B5 => ?_))
 refine bx' (cs := [(.bool a1.Leaf), w1_0, w1_1]) 41 rfl rfl (fun b7 s7 p7 B7 => ?_)
 refine Xb rfl (dn (sq (sr (Xs fa61_0 rfl ?_))))
 have A9 := B5.st p7 rfl
 refine Yb A9 u4 rfl (Xs fa61_0 rfl (Yb B7 u4 rfl (bne_ u4 rfl rfl rfl rfl rfl rfl rfl (dn (cd rfl (fun h10 => ?_) (fun h10 => ?_))))))
 ·
  refine sr (Xb rfl (dn ?_))
  exact re rfl func57 rfl (Xv rfl Xg) rfl ⟨_, rfl, rfl, z.ky (kp0.st (Xo p5 p7) rfl)⟩
 refine sk (sq (sr (Xs fa61_1 rfl (Yb A9 u52 rfl (Xs fa61_1 rfl (Yb B7 u52 rfl ?_))))))
 have K12 := kp0.st (Xo p5 p7) rfl
 refine clV 42 rfl func81 rfl (laws_eqEntryS.calls a0.Entries a1.Entries s7.w (mm [0] s7) w0_0 w1_0 ((z.rd h0_0).kp K12) ((z.rd h1_0).kp K12)) (fun r15 s16 p16 n16 => ?_)
 refine Xb rfl (dn (cd rfl (fun h17 => ?_) (fun h17 => ?_)))
 ·
  refine sr (Xb rfl (dn ?_))
  exact re rfl func57 rfl (Xv rfl Xg) rfl ⟨_, rfl, rfl, z.ky (K12.st p16 rfl)⟩
 refine sk (sq (sr (Xs fa61_2 rfl ?_)))
 refine Yb (A9.st p16 rfl) u59 rfl (Xs fa61_2 rfl ?_)
 refine Yb (B7.st p16 rfl) u59 rfl ?_
 have K21 := K12.st p16 rfl
 refine clV 43 rfl func82 rfl (laws_eqIntS.calls a0.Kids a1.Kids s16.w (mm [0] s16) w0_1 w1_1 ((z.rd h0_1).kp K21) ((z.rd h1_1).kp K21)) (fun r24 s25 p25 n25 => ?_)
 refine Xb rfl (dn (cd rfl (fun h26 => ?_) (fun h26 => ?_)))
 ·
  refine sr (Xb rfl (dn ?_))
  exact re rfl func57 rfl (Xv rfl Xg) rfl ⟨_, rfl, rfl, z.ky (K21.st p25 rfl)⟩
 refine sk (sr (Xb rfl (dn ?_)))
 exact re rfl func57 rfl (Xv rfl Xg) rfl ⟨_, rfl, rfl, z.ky (K21.st p25 rfl)⟩
def laws_eqNodeS.b0 (a0 : (List Node)) (a1 : (List Node)) (x4 : Int) : Option (Int ⊕ Bool) :=
 (if (decide (x4 < (a0.length : Int))) = true then (if 0 ≤ x4 ∧ x4 < (a0.length : Int) then (if 0 ≤ x4 ∧ x4 < (a1.length : Int) then ((laws_eqNode.f (at_ a0 x4) (at_ a1 x4)).bind fun r28 => (if (!r28) = true then (some (Sum.inr false)) else (some (Sum.inl (IntKind.wrap .i64 (x4 + (1 : Int))))))) else none) else none) else ((some true).bind fun o => some (Sum.inr o)))
def laws_eqNodeS.f (a0 : (List Node)) (a1 : (List Node)) : Option (Bool) :=
 (if ((a0.length : Int) != (a1.length : Int)) = true then (some false) else (iter (laws_eqNodeS.b0 a0 a1) (0 : Int)))
def laws_eqNodeS.Q (w : World) (F : Nat → Prop) (r : Bool) (v : Value) (w' : World) : Prop :=
 v = (.bool r) ∧ Ky [] w w'
theorem laws_eqNodeS.calls (a0 : (List Node)) (a1 : (List Node)) (w : World) (F : Nat → Prop) (w0_0 : Value) (w1_0 : Value) (h0_0 : Yp.rd w [w0_0] a0 F) (h1_0 : Yp.rd w [w1_0] a1 F) (r : Bool) (m : laws_eqNodeS.f a0 a1 = some r) :
  Calls prog 32 #[w0_0, w1_0] w (RT (laws_eqNodeS.Q w F) r) := by
 obtain ⟨s0, rfl, kp0, z⟩ := Xn w F
 have A0_0 := z.rd h0_0
 have A1_0 := z.rd h1_0
 refine Xf (args := [w0_0, w1_0]) func32 ntmps32 rfl rfl m ?_
 unfold laws_eqNodeS.f
 refine sr (Xb rfl (dn (sq (sr (Xw w0_0 rfl (ln' A0_0 u31 rfl (Xw w1_0 rfl (ln' A1_0 u31 rfl (Xb rfl (dn (cd rfl (fun h3 => ?_) (fun h3 => ?_))))))))))))
 ·
  exact sr (Xb rfl (dn (re rfl func32 rfl (Xv rfl Xg) rfl ⟨_, rfl, rfl, z.ky kp0⟩)))
 refine sk (sq (sr (Xb rfl (dn (bl (lpI (fun (x4 : Int) e w => ∃ (s : St) (e0 : Env), w = s.w ∧ e = upd (upd (upd e0 0 w0_0) 1 w1_0) 5 (iI x4) ∧ Kp s0 s) ⟨s0, _, rfl, (ue (ue (ue rfl rfl) rfl) rfl), kp0⟩ (fun g4 ih4 => ?_)))))))
 rintro x4 _ _ ⟨s5, _, rfl, rfl, Kx4⟩
 unfold laws_eqNodeS.b0
 refine sq (sr (Xb rfl (Xw w0_0 rfl ?_)))
 refine ln' (A0_0.kp Kx4) u31 rfl (Xb rfl (dn (cd rfl (fun h7 => ?_) (fun h7 => ?_))))
 ·
  refine sk (sq (bl (sq (Ya [[], [], [0, 1], [2], [], [], [4, 5], [6], [3, 7], [8]] [some 17, some 18, some 19, some 20, some 21, some 22, some 23, some 24, some 25, some 26] [[0], [5], [17, 18], [19], [1], [5], [21, 22], [23], [20, 24], [25]] [0, 1, 2, 3, 4, 5, 6, 7, 8, 9] ⟨by kernel_rfl, by kernel_rfl, by kernel_rfl⟩ (by kernel_rfl) (fun s8 p8 l8 tb8 zd8 => ?_)))))
  have K11 := Kx4.st p8 rfl
  have A12 := A0_0.kp K11
  refine mg fun hg13 => ?_
  obtain ⟨ad13, es13, he13, ce13, ia13⟩ := ix_e A12 rfl hg13.1 hg13.2
  obtain ⟨v13_0, v13_1, rfl, A13_0, A13_1⟩ := op61 he13
  have A21 := A1_0.kp K11
  refine mg fun hg22 => ?_
  obtain ⟨ad22, es22, he22, ce22, ia22⟩ := ix_e A21 rfl hg22.1 hg22.2
  obtain ⟨v22_0, v22_1, rfl, A22_0, A22_1⟩ := op61 he22
  refine Xu [8, 9] tb8 ((((((((zd8.add 0 17 w0_0 rfl).add 1 18 (iI x4) rfl).add 2 19 (.pointer (some ad13)) rfl).add 3 20 (.agg #[(.bool ((at_ a0 x4).Leaf)), v13_0, v13_1]) rfl).add 4 21 w1_0 rfl).add 5 22 (iI x4) rfl).add 6 23 (.pointer (some ad22)) rfl).add 7 24 (.agg #[(.bool ((at_ a1 x4).Leaf)), v22_0, v22_1]) rfl) (Xa (lca_q' ce22 u61 z61 rfl) rfl (Xa (Yg A21 u31 z61 hg22.1 hg22.2 ia22 rfl) rfl (Xa (Xc rfl) rfl (Xa (Xq w1_0 rfl) rfl (Xa (lca_q' ce13 u61 z61 rfl) rfl (Xa (Yg A12 u31 z61 hg13.1 hg13.2 ia13 rfl) rfl (Xa (Xc rfl) rfl (Xa (Xq w0_0 rfl) rfl Xe)))))))) (by kernel_rfl) (by decide) (clV 40 rfl func57 rfl (laws_eqNode.calls (at_ a0 x4) (at_ a1 x4) s8.w (mm [0] s8) v13_0 v13_1 v22_0 v22_1 A13_0 A13_1 A22_0 A22_1) (fun r28 s29 p29 n29 => ?_))
  refine Xb rfl (dn (cd rfl (fun h30 => ?_) (fun h30 => ?_)))
  ·
   refine sr (Xb rfl (dn (sgi ?_)))
   exact re rfl func32 rfl (Xv rfl Xg) rfl ⟨_, rfl, rfl, z.ky (K11.st p29 rfl)⟩
  refine sk (ib (rg (Xb rfl (Xb rfl (Xb rfl (dn ?_))))))
  exact lb ih4 ⟨s29, _, rfl, (ue (ue (ue rfl rfl) rfl) rfl), (K11.st p29 rfl)⟩
 exact xt rfl (sgb (sr (Xb rfl (dn (re rfl func32 rfl (Xv rfl Xg) rfl ⟨_, rfl, rfl, z.ky Kx4⟩)))))
def laws_eqTree.f (a0 : Tree) (a1 : Tree) : Option (Bool) :=
 ((laws_eqNodeS.f a0.Nodes a1.Nodes).bind fun r11 => (if (!r11) = true then (some false) else (if (a0.Root != a1.Root) = true then (some false) else (some true))))
def laws_eqTree.Q (w : World) (F : Nat → Prop) (r : Bool) (v : Value) (w' : World) : Prop :=
 v = (.bool r) ∧ Ky [] w w'
theorem laws_eqTree.calls (a0 : Tree) (a1 : Tree) (w : World) (F : Nat → Prop) (w0_0 : Value) (w1_0 : Value) (h0_0 : Yp.rd w [w0_0] a0.Nodes F) (h1_0 : Yp.rd w [w1_0] a1.Nodes F) (r : Bool) (m : laws_eqTree.f a0 a1 = some r) :
  Calls prog 10 #[(.agg #[w0_0, (iI a0.Root)]), (.agg #[w1_0, (iI a1.Root)])] w (RT (laws_eqTree.Q w F) r) := by
 obtain ⟨s0, rfl, kp0, z⟩ := Xn w F
 refine Xf (args := [(.agg #[w0_0, (iI a0.Root)]), (.agg #[w1_0, (iI a1.Root)])]) func10 ntmps10 rfl rfl m ?_
 unfold laws_eqTree.f
 refine sr (bx' (cs := [w0_0, (iI a0.Root)]) 40 rfl rfl (fun b3 s3 p3 B3 => ?_))
 refine bx' (cs := [w1_0, (iI a1.Root)]) 41 rfl rfl (fun b5 s5 p5 B5 => ?_)
 refine Xb rfl (dn (sq (sr (Xs fa33_0 rfl ?_))))
 have A7 := B3.st p5 rfl
 refine Yb A7 u31 rfl (Xs fa33_0 rfl (Yb B5 u31 rfl ?_))
 have K8 := kp0.st (Xo p3 p5) rfl
 refine clV 42 rfl func32 rfl (laws_eqNodeS.calls a0.Nodes a1.Nodes s5.w (mm [0] s5) w0_0 w1_0 ((z.rd h0_0).kp K8) ((z.rd h1_0).kp K8)) (fun r11 s12 p12 n12 => ?_)
 refine Xb rfl (dn (cd rfl (fun h13 => ?_) (fun h13 => ?_)))
 ·
  refine sr (Xb rfl (dn ?_))
  exact re rfl func10 rfl (Xv rfl Xg) rfl ⟨_, rfl, rfl, z.ky (K8.st p12 rfl)⟩
 refine sk (sq (sr (Xs fa33_1 rfl ?_)))
 refine Yb (A7.st p12 rfl) u3 rfl (Xs fa33_1 rfl ?_)
 refine Yb (B5.st p12 rfl) u3 rfl (Xb rfl (dn (cd rfl (fun h17 => ?_) (fun h17 => ?_))))
 ·
  refine sr (Xb rfl (dn ?_))
  exact re rfl func10 rfl (Xv rfl Xg) rfl ⟨_, rfl, rfl, z.ky (K8.st p12 rfl)⟩
 refine sk (sr (Xb rfl (dn ?_)))
 exact re rfl func10 rfl (Xv rfl Xg) rfl ⟨_, rfl, rfl, z.ky (K8.st p12 rfl)⟩
def laws_markByteS.b0  (x2 : (List Int) × Int × Int) : Option (((List Int) × Int × Int) ⊕ (Int × (List Int))) :=
 (if (decide (x2.2.2 < (x2.1.length : Int))) = true then (if 0 ≤ x2.2.2 ∧ x2.2.2 < (x2.1.length : Int) then (some (Sum.inl ((x2.1.set (x2.2.2).toNat (IntKind.wrap .u8 x2.2.1)), (IntKind.wrap .i64 (x2.2.1 + (1 : Int))), (IntKind.wrap .i64 (x2.2.2 + (1 : Int)))))) else none) else ((some (x2.2.1, x2.1)).bind fun o => some (Sum.inr o)))
def laws_markByteS.f (a0 : (List Int)) (a1 : Int) : Option (Int × (List Int)) :=
 (iter laws_markByteS.b0 (a0, a1, (0 : Int)))
def laws_markByteS.Q (w : World) (F : Nat → Prop) (os : List Nat) (w0_0 : Value) (r : Int × (List Int)) (v : Value) (w' : World) : Prop :=
 v = (iI r.1) ∧ FW Ym os w w' [w0_0] r.2 ∧ Ky os w w'
theorem laws_markByteS.calls (a0 : (List Int)) (a1 : Int) (w : World) (F : Nat → Prop) (w0_0 : Value) (os : List Nat) (h0_0 : Ym.ow w [w0_0] a0 os) (hn : os.Nodup) (hF : ∀ b, F b → b ∉ os) (r : Int × (List Int)) (m : laws_markByteS.f a0 a1 = some r) :
  Calls prog 36 #[w0_0, (iI a1)] w (RT (laws_markByteS.Q w F os w0_0) r) := by
 obtain ⟨s0, rfl, kp0, z⟩ := start1 w F os hF
 refine Xf (args := [w0_0, (iI a1)]) func36 ntmps36 rfl rfl m ?_
 unfold laws_markByteS.f
 refine sr (Xb rfl (dn (sq (sr (Xb rfl (dn (bl (lpI (fun (x2 : (List Int) × Int × Int) e w => ∃ (s : St) (e0 : Env), w = s.w ∧ e = upd (upd (upd e0 0 w0_0) 1 (iI x2.2.1)) 5 (iI x2.2.2) ∧ Kp s0 s ∧ OwF Ym s [w0_0] x2.1 2) ⟨s0, _, rfl, (ue (ue (ue rfl rfl) rfl) rfl), kp0, (z.ow h0_0 hn)⟩ (fun g2 ih2 => ?_)))))))))
 rintro x2 _ _ ⟨s3, _, rfl, rfl, Kx2, Ax2_0⟩
 unfold laws_markByteS.b0
 refine sq (sr (Xb rfl (Xw w0_0 rfl (ln' Ax2_0.rd u26 rfl (Xb rfl (dn (cd rfl (fun h5 => ?_) (fun h5 => ?_))))))))
 ·
  refine sk (sq (bl (sr (Xw w0_0 rfl (Xb rfl (Xb rfl (cv u5 u3 rfl rfl rfl rfl rfl rfl (ix' Ax2_0.rd u26 z5 rfl (fun ad6 es6 h0_6 h1_6 he6 ce6 ia6 => ?_)))))))))
  obtain rfl := he6
  refine so (x' := (IntKind.wrap .u8 x2.2.1)) Ax2_0 ia6 h0_6 h1_6 cs_flat z5 rfl rfl rfl rfl rfl rfl (fun s8 p8 A8 => ?_)
  refine dn (rg (Xb rfl (Xb rfl (Xb rfl (dn (ib (rg (Xb rfl (Xb rfl (Xb rfl (dn ?_)))))))))))
  exact lb ih2 ⟨s8, _, rfl, (ue (ue (ue rfl rfl) rfl) rfl), (Kx2.st p8 rfl), A8⟩
 exact xt rfl (sgb (sr (Xb rfl (Xb rfl (dn (re rfl func36 rfl (Xv rfl Xg) rfl ⟨_, rfl, rfl, z.fw Kx2 Ax2_0, z.ky Kx2⟩))))))
def laws_markEntryS.b0  (x2 : (List Entry) × Int × Int) : Option (((List Entry) × Int × Int) ⊕ (Int × (List Entry))) :=
 (if (decide (x2.2.2 < (x2.1.length : Int))) = true then (if 0 ≤ x2.2.2 ∧ x2.2.2 < (x2.1.length : Int) then ((some (x2.1.set (x2.2.2).toNat (Entry.mk (Item.mk x2.2.1 ((at_ x2.1 x2.2.2).Key).N ((at_ x2.1 x2.2.2).Key).F ((at_ x2.1 x2.2.2).Key).T) (at_ x2.1 x2.2.2).Id))).bind fun y11 => (if 0 ≤ x2.2.2 ∧ x2.2.2 < (y11.length : Int) then ((some (y11.set (x2.2.2).toNat (Entry.mk (Item.mk ((at_ y11 x2.2.2).Key).Kind (IntKind.wrap .i64 (x2.2.1 + (1 : Int))) ((at_ y11 x2.2.2).Key).F ((at_ y11 x2.2.2).Key).T) (at_ y11 x2.2.2).Id))).bind fun y17 => (if 0 ≤ x2.2.2 ∧ x2.2.2 < (y17.length : Int) then ((some (y17.set (x2.2.2).toNat (Entry.mk (Item.mk ((at_ y17 x2.2.2).Key).Kind ((at_ y17 x2.2.2).Key).N (FloatKind.f64.nearest (IntKind.wrap .i64 ((IntKind.wrap .i64 (x2.2.1 + (1 : Int))) + (1 : Int)))) ((at_ y17 x2.2.2).Key).T) (at_ y17 x2.2.2).Id))).bind fun y24 => (if 0 ≤ x2.2.2 ∧ x2.2.2 < (y24.length : Int) then ((laws_markByteS.f (((at_ y24 x2.2.2).Key).T) (IntKind.wrap .i64 ((IntKind.wrap .i64 ((IntKind.wrap .i64 (x2.2.1 + (1 : Int))) + (1 : Int))) + (1 : Int)))).bind fun r28 => ((some (y24.set (x2.2.2).toNat (Entry.mk (Item.mk ((at_ y24 x2.2.2).Key).Kind ((at_ y24 x2.2.2).Key).N ((at_ y24 x2.2.2).Key).F r28.2) (at_ y24 x2.2.2).Id))).bind fun y31 => (if 0 ≤ x2.2.2 ∧ x2.2.2 < (y31.length : Int) then (some (Sum.inl ((y31.set (x2.2.2).toNat (Entry.mk (at_ y31 x2.2.2).Key r28.1)), (IntKind.wrap .i64 (r28.1 + (1 : Int))), (IntKind.wrap .i64 (x2.2.2 + (1 : Int)))))) else none))) else none)) else none)) else none)) else none) else ((some (x2.2.1, x2.1)).bind fun o => some (Sum.inr o)))
def laws_markEntryS.f (a0 : (List Entry)) (a1 : Int) : Option (Int × (List Entry)) :=
 (iter laws_markEntryS.b0 (a0, a1, (0 : Int)))
def laws_markEntryS.Q (w : World) (F : Nat → Prop) (os : List Nat) (w0_0 : Value) (r : Int × (List Entry)) (v : Value) (w' : World) : Prop :=
 v = (iI r.1) ∧ FW Yn os w w' [w0_0] r.2 ∧ Ky os w w'
theorem laws_markEntryS.calls (a0 : (List Entry)) (a1 : Int) (w : World) (F : Nat → Prop) (w0_0 : Value) (os : List Nat) (h0_0 : Yn.ow w [w0_0] a0 os) (hn : os.Nodup) (hF : ∀ b, F b → b ∉ os) (r : Int × (List Entry)) (m : laws_markEntryS.f a0 a1 = some r) :
  Calls prog 58 #[w0_0, (iI a1)] w (RT (laws_markEntryS.Q w F os w0_0) r) := by
 obtain ⟨s0, rfl, kp0, z⟩ := start1 w F os hF
 refine Xf (args := [w0_0, (iI a1)]) func58 ntmps58 rfl rfl m ?_
 unfold laws_markEntryS.f
 refine sr (Xb rfl (dn (sq (sr (Xb rfl (dn (bl (lpI (fun (x2 : (List Entry) × Int × Int) e w => ∃ (s : St) (e0 : Env), w = s.w ∧ e = upd (upd (upd e0 0 w0_0) 1 (iI x2.2.1)) 5 (iI x2.2.2) ∧ Kp s0 s ∧ OwF Yn s [w0_0] x2.1 2) ⟨s0, _, rfl, (ue (ue (ue rfl rfl) rfl) rfl), kp0, (z.ow h0_0 hn)⟩ (fun g2 ih2 => ?_)))))))))
 rintro x2 _ _ ⟨s3, _, rfl, rfl, Kx2, Ax2_0⟩
 unfold laws_markEntryS.b0
 refine sq (sr (Xb rfl (Xw w0_0 rfl (ln' Ax2_0.rd u52 rfl (Xb rfl (dn (cd rfl (fun h5 => ?_) (fun h5 => ?_))))))))
 ·
  refine sk (sq (bl (sr (Xw w0_0 rfl (Xb rfl (Xb rfl (ix' Ax2_0.rd u52 z48 rfl (fun ad6 es6 h0_6 h1_6 he6 ce6 ia6 => ?_))))))))
  obtain ⟨v6_0, v6_1, rfl, A6_0, A6_1⟩ := op48 he6
  refine Xs fa48_0 rfl (Xs fa37_0 rfl (so (x' := (Entry.mk (Item.mk x2.2.1 ((at_ x2.1 x2.2.2).Key).N ((at_ x2.1 x2.2.2).Key).F ((at_ x2.1 x2.2.2).Key).T) (at_ x2.1 x2.2.2).Id)) Ax2_0 ia6 h0_6 h1_6 (cs_iso (cs_left (cs_iso (cs_left cs_flat)))) z3 rfl rfl rfl rfl rfl rfl (fun s9 p9 A9 => ?_)))
  refine nb (fun y11 h11 => ?_)
  have A11 : OwF Yn s9 [w0_0] y11 2 := by rw [h11]; exact A9
  refine dn (sr (Xb rfl (Xb rfl (Xb rfl (dn (sr (Xw w0_0 rfl (Xb rfl (Xb rfl (ix' A11.rd u52 z48 rfl (fun ad12 es12 h0_12 h1_12 he12 ce12 ia12 => ?_)))))))))))
  obtain ⟨v12_0, v12_1, rfl, A12_0, A12_1⟩ := op48 he12
  refine Xs fa48_0 rfl (Xs fa37_1 rfl (so (x' := (Entry.mk (Item.mk ((at_ y11 x2.2.2).Key).Kind (IntKind.wrap .i64 (x2.2.1 + (1 : Int))) ((at_ y11 x2.2.2).Key).F ((at_ y11 x2.2.2).Key).T) (at_ y11 x2.2.2).Id)) A11 ia12 h0_12 h1_12 (cs_iso (cs_left (cs_iso (cs_right (cs_left cs_flat))))) z3 rfl rfl rfl rfl rfl rfl (fun s15 p15 A15 => ?_)))
  refine nb (fun y17 h17 => ?_)
  have A17 : OwF Yn s15 [w0_0] y17 2 := by rw [h17]; exact A15
  refine dn (sr (Xb rfl (Xb rfl (Xb rfl (dn (sr (Xw w0_0 rfl (Xb rfl (Xb rfl (i2f u25 u3 rfl rfl rfl rfl rfl rfl (fun v18 A18 => ?_)))))))))))
  refine ix' A17.rd u52 z48 rfl (fun ad19 es19 h0_19 h1_19 he19 ce19 ia19 => ?_)
  obtain ⟨v19_0, v19_1, rfl, A19_0, A19_1⟩ := op48 he19
  refine Xs fa48_0 rfl (Xs fa37_2 rfl (so (x' := (Entry.mk (Item.mk ((at_ y17 x2.2.2).Key).Kind ((at_ y17 x2.2.2).Key).N (FloatKind.f64.nearest (IntKind.wrap .i64 ((IntKind.wrap .i64 (x2.2.1 + (1 : Int))) + (1 : Int)))) ((at_ y17 x2.2.2).Key).T) (at_ y17 x2.2.2).Id)) A17 ia19 h0_19 h1_19 (cs_iso (cs_left (cs_iso (cs_right (cs_right (cs_left (cs_flt A18))))))) z25 rfl rfl rfl rfl rfl rfl (fun s22 p22 A22 => ?_)))
  refine nb (fun y24 h24 => ?_)
  have A24 : OwF Yn s22 [w0_0] y24 2 := by rw [h24]; exact A22
  refine dn (sr (Xb rfl (Xb rfl (Xb rfl (dn (sr (Xw w0_0 rfl (Xb rfl (ix' A24.rd u52 z48 rfl (fun ad25 es25 h0_25 h1_25 he25 ce25 ia25 => ?_))))))))))
  obtain ⟨v25_0, v25_1, rfl, A25_0, A25_1⟩ := op48 he25
  refine Xs fa48_0 rfl (Xs fa37_3 rfl (lc ce25 u26 rfl rfl rfl rfl rfl rfl rfl rfl (Xb rfl ?_)))
  obtain ⟨os28, ho28, hn28, hc28, put28⟩ := focus (ln_iso (fun x : Entry => (x.Key, x.Id)) (fun x => x.Key.T) (fun x y => (Entry.mk (Item.mk x.Key.Kind x.Key.N x.Key.F y) x.Id)) (ln_left (ln_iso (fun x : Item => (x.Kind, x.N, x.F, x.T)) (fun x => x.T) (fun x y => (Item.mk x.Kind x.N x.F y)) (ln_right (ln_right (ln_right ln_sl))) (fun _ => rfl) (fun _ _ => rfl))) (fun _ => rfl) (fun _ _ => rfl)) A24 h0_25 h1_25 ia25 ce25 rfl rfl
  refine cl' rfl func36 rfl (laws_markByteS.calls (((at_ y24 x2.2.2).Key).T) (IntKind.wrap .i64 ((IntKind.wrap .i64 ((IntKind.wrap .i64 (x2.2.1 + (1 : Int))) + (1 : Int))) + (1 : Int))) s22.w (mm [] s22) v25_1 os28 ho28 hn28 (apart_of hc28 rfl)) ?_
  rintro r28 _ w28 m28 ⟨rfl, w28_, ky28⟩
  obtain ⟨s29, rfl, p29, A29⟩ := put28 w28 _ 40 ky28 w28_
  refine nb (fun y31 h31 => ?_)
  have A31 : OwF Yn s29 [w0_0] y31 2 := by rw [h31]; exact A29
  refine Xb rfl (dn (sr (Xw w0_0 rfl (Xb rfl (Xb rfl (ix' A31.rd u52 z48 rfl (fun ad32 es32 h0_32 h1_32 he32 ce32 ia32 => ?_)))))))
  obtain ⟨v32_0, v32_1, rfl, A32_0, A32_1⟩ := op48 he32
  refine Xs fa48_1 rfl (so (x' := (Entry.mk (at_ y31 x2.2.2).Key r28.1)) A31 ia32 h0_32 h1_32 (cs_iso (cs_right cs_flat)) z3 rfl rfl rfl rfl rfl rfl (fun s35 p35 A35 => ?_))
  refine dn (rg (Xb rfl (Xb rfl (Xb rfl (dn (ib (rg (Xb rfl (Xb rfl (Xb rfl (dn ?_)))))))))))
  exact lb ih2 ⟨s35, _, rfl, (ue (ue (ue rfl rfl) rfl) rfl), (Kx2.st (tr5 p9 p15 p22 p29 p35) rfl), A35⟩
 exact xt rfl (sgb (sr (Xb rfl (Xb rfl (dn (re rfl func58 rfl (Xv rfl Xg) rfl ⟨_, rfl, rfl, z.fw Kx2 Ax2_0, z.ky Kx2⟩))))))
def laws_markIntS.b0  (x2 : (List Int) × Int × Int) : Option (((List Int) × Int × Int) ⊕ (Int × (List Int))) :=
 (if (decide (x2.2.2 < (x2.1.length : Int))) = true then (if 0 ≤ x2.2.2 ∧ x2.2.2 < (x2.1.length : Int) then (some (Sum.inl ((x2.1.set (x2.2.2).toNat x2.2.1), (IntKind.wrap .i64 (x2.2.1 + (1 : Int))), (IntKind.wrap .i64 (x2.2.2 + (1 : Int)))))) else none) else ((some (x2.2.1, x2.1)).bind fun o => some (Sum.inr o)))
def laws_markIntS.f (a0 : (List Int)) (a1 : Int) : Option (Int × (List Int)) :=
 (iter laws_markIntS.b0 (a0, a1, (0 : Int)))
def laws_markIntS.Q (w : World) (F : Nat → Prop) (os : List Nat) (w0_0 : Value) (r : Int × (List Int)) (v : Value) (w' : World) : Prop :=
 v = (iI r.1) ∧ FW Yo os w w' [w0_0] r.2 ∧ Ky os w w'
theorem laws_markIntS.calls (a0 : (List Int)) (a1 : Int) (w : World) (F : Nat → Prop) (w0_0 : Value) (os : List Nat) (h0_0 : Yo.ow w [w0_0] a0 os) (hn : os.Nodup) (hF : ∀ b, F b → b ∉ os) (r : Int × (List Int)) (m : laws_markIntS.f a0 a1 = some r) :
  Calls prog 59 #[w0_0, (iI a1)] w (RT (laws_markIntS.Q w F os w0_0) r) := by
 obtain ⟨s0, rfl, kp0, z⟩ := start1 w F os hF
 refine Xf (args := [w0_0, (iI a1)]) func59 ntmps59 rfl rfl m ?_
 unfold laws_markIntS.f
 refine sr (Xb rfl (dn (sq (sr (Xb rfl (dn (bl (lpI (fun (x2 : (List Int) × Int × Int) e w => ∃ (s : St) (e0 : Env), w = s.w ∧ e = upd (upd (upd e0 0 w0_0) 1 (iI x2.2.1)) 5 (iI x2.2.2) ∧ Kp s0 s ∧ OwF Yo s [w0_0] x2.1 2) ⟨s0, _, rfl, (ue (ue (ue rfl rfl) rfl) rfl), kp0, (z.ow h0_0 hn)⟩ (fun g2 ih2 => ?_)))))))))
 rintro x2 _ _ ⟨s3, _, rfl, rfl, Kx2, Ax2_0⟩
 unfold laws_markIntS.b0
 refine sq (sr (Xb rfl (Xw w0_0 rfl (ln' Ax2_0.rd u59 rfl (Xb rfl (dn (cd rfl (fun h5 => ?_) (fun h5 => ?_))))))))
 ·
  refine sk (sq (bl (sr (Xw w0_0 rfl (Xb rfl (Xb rfl (ix' Ax2_0.rd u59 z3 rfl (fun ad6 es6 h0_6 h1_6 he6 ce6 ia6 => ?_))))))))
  obtain rfl := he6
  refine so (x' := x2.2.1) Ax2_0 ia6 h0_6 h1_6 cs_flat z3 rfl rfl rfl rfl rfl rfl (fun s8 p8 A8 => ?_)
  refine dn (rg (Xb rfl (Xb rfl (Xb rfl (dn (ib (rg (Xb rfl (Xb rfl (Xb rfl (dn ?_)))))))))))
  exact lb ih2 ⟨s8, _, rfl, (ue (ue (ue rfl rfl) rfl) rfl), (Kx2.st p8 rfl), A8⟩
 exact xt rfl (sgb (sr (Xb rfl (Xb rfl (dn (re rfl func59 rfl (Xv rfl Xg) rfl ⟨_, rfl, rfl, z.fw Kx2 Ax2_0, z.ky Kx2⟩))))))
def laws_markNodeS.b0  (x2 : (List Node) × Int × Int) : Option (((List Node) × Int × Int) ⊕ (Int × (List Node))) :=
 (if (decide (x2.2.2 < (x2.1.length : Int))) = true then (if 0 ≤ x2.2.2 ∧ x2.2.2 < (x2.1.length : Int) then ((some (x2.1.set (x2.2.2).toNat (Node.mk ((x2.2.1.tmod (3 : Int)) == (0 : Int)) (at_ x2.1 x2.2.2).Entries (at_ x2.1 x2.2.2).Kids))).bind fun y12 => (if 0 ≤ x2.2.2 ∧ x2.2.2 < (y12.length : Int) then ((laws_markEntryS.f ((at_ y12 x2.2.2).Entries) (IntKind.wrap .i64 (x2.2.1 + (1 : Int)))).bind fun r17 => (if 0 ≤ x2.2.2 ∧ x2.2.2 < ((y12.set (x2.2.2).toNat (Node.mk (at_ y12 x2.2.2).Leaf r17.2 (at_ y12 x2.2.2).Kids)).length : Int) then ((laws_markIntS.f ((at_ (y12.set (x2.2.2).toNat (Node.mk (at_ y12 x2.2.2).Leaf r17.2 (at_ y12 x2.2.2).Kids)) x2.2.2).Kids) r17.1).bind fun r24 => ((some ((y12.set (x2.2.2).toNat (Node.mk (at_ y12 x2.2.2).Leaf r17.2 (at_ y12 x2.2.2).Kids)).set (x2.2.2).toNat (Node.mk (at_ (y12.set (x2.2.2).toNat (Node.mk (at_ y12 x2.2.2).Leaf r17.2 (at_ y12 x2.2.2).Kids)) x2.2.2).Leaf (at_ (y12.set (x2.2.2).toNat (Node.mk (at_ y12 x2.2.2).Leaf r17.2 (at_ y12 x2.2.2).Kids)) x2.2.2).Entries r24.2))).bind fun y27 => (some (Sum.inl (y27, r24.1, (IntKind.wrap .i64 (x2.2.2 + (1 : Int)))))))) else none)) else none)) else none) else ((some (x2.2.1, x2.1)).bind fun o => some (Sum.inr o)))
def laws_markNodeS.f (a0 : (List Node)) (a1 : Int) : Option (Int × (List Node)) :=
 (iter laws_markNodeS.b0 (a0, a1, (0 : Int)))
def laws_markNodeS.Q (w : World) (F : Nat → Prop) (os : List Nat) (w0_0 : Value) (r : Int × (List Node)) (v : Value) (w' : World) : Prop :=
 v = (iI r.1) ∧ FW Yp os w w' [w0_0] r.2 ∧ Ky os w w'
theorem laws_markNodeS.calls (a0 : (List Node)) (a1 : Int) (w : World) (F : Nat → Prop) (w0_0 : Value) (os : List Nat) (h0_0 : Yp.ow w [w0_0] a0 os) (hn : os.Nodup) (hF : ∀ b, F b → b ∉ os) (r : Int × (List Node)) (m : laws_markNodeS.f a0 a1 = some r) :
  Calls prog 35 #[w0_0, (iI a1)] w (RT (laws_markNodeS.Q w F os w0_0) r) := by
 obtain ⟨s0, rfl, kp0, z⟩ := start1 w F os hF
 refine Xf (args := [w0_0, (iI a1)]) func35 ntmps35 rfl rfl m ?_
 unfold laws_markNodeS.f
 refine sr (Xb rfl (dn (sq (sr (Xb rfl (dn (bl (lpI (fun (x2 : (List Node) × Int × Int) e w => ∃ (s : St) (e0 : Env), w = s.w ∧ e = upd (upd (upd e0 0 w0_0) 1 (iI x2.2.1)) 5 (iI x2.2.2) ∧ Kp s0 s ∧ OwF Yp s [w0_0] x2.1 2) ⟨s0, _, rfl, (ue (ue (ue rfl rfl) rfl) rfl), kp0, (z.ow h0_0 hn)⟩ (fun g2 ih2 => ?_)))))))))
 rintro x2 _ _ ⟨s3, _, rfl, rfl, Kx2, Ax2_0⟩
 unfold laws_markNodeS.b0
 refine sq (sr (Xb rfl (Xw w0_0 rfl (ln' Ax2_0.rd u31 rfl (Xb rfl (dn (cd rfl (fun h5 => ?_) (fun h5 => ?_))))))))
 ·
  refine sk (sq (bl (sr (Xw w0_0 rfl (Xb rfl (Xb rfl (remK rfl rfl rfl rfl rfl rfl rfl rfl (Xb rfl (ix' Ax2_0.rd u31 z61 rfl (fun ad6 es6 h0_6 h1_6 he6 ce6 ia6 => ?_))))))))))
  obtain ⟨v6_0, v6_1, rfl, A6_0, A6_1⟩ := op61 he6
  refine Xs fa61_0 rfl (so (x' := (Node.mk ((x2.2.1.tmod (3 : Int)) == (0 : Int)) (at_ x2.1 x2.2.2).Entries (at_ x2.1 x2.2.2).Kids)) Ax2_0 ia6 h0_6 h1_6 (cs_iso (cs_left cs_flat)) z4 rfl rfl rfl rfl rfl rfl (fun s10 p10 A10 => ?_))
  refine nb (fun y12 h12 => ?_)
  have A12 : OwF Yp s10 [w0_0] y12 2 := by rw [h12]; exact A10
  refine dn (sr (Xb rfl (Xb rfl (Xb rfl (dn (sr (Xw w0_0 rfl (Xb rfl (ix' A12.rd u31 z61 rfl (fun ad13 es13 h0_13 h1_13 he13 ce13 ia13 => ?_))))))))))
  obtain ⟨v13_0, v13_1, rfl, A13_0, A13_1⟩ := op61 he13
  refine Xs fa61_1 rfl (lc ce13 u52 rfl rfl rfl rfl rfl rfl rfl rfl (Xb rfl ?_))
  obtain ⟨os17, ho17, hn17, hc17, put17⟩ := focus (ln_iso (fun x : Node => (x.Leaf, x.Entries, x.Kids)) (fun x => x.Entries) (fun x y => (Node.mk x.Leaf y x.Kids)) (ln_right (ln_left ln_sl)) (fun _ => rfl) (fun _ _ => rfl)) A12 h0_13 h1_13 ia13 ce13 rfl rfl
  refine cl' rfl func58 rfl (laws_markEntryS.calls ((at_ y12 x2.2.2).Entries) (IntKind.wrap .i64 (x2.2.1 + (1 : Int))) s10.w (mm [] s10) v13_0 os17 ho17 hn17 (apart_of hc17 rfl)) ?_
  rintro r17 _ w17 m17 ⟨rfl, w17_, ky17⟩
  obtain ⟨s18, rfl, p18, A18⟩ := put17 w17 _ 40 ky17 w17_
  refine Xb rfl (dn (rg (Xw w0_0 rfl (Xb rfl (ix' A18.rd u31 z61 rfl (fun ad20 es20 h0_20 h1_20 he20 ce20 ia20 => ?_))))))
  obtain ⟨v20_0, v20_1, rfl, A20_0, A20_1⟩ := op61 he20
  refine Xs fa61_2 rfl (lc ce20 u59 rfl rfl rfl rfl rfl rfl rfl rfl (Xb rfl ?_))
  obtain ⟨os24, ho24, hn24, hc24, put24⟩ := focus (ln_iso (fun x : Node => (x.Leaf, x.Entries, x.Kids)) (fun x => x.Kids) (fun x y => (Node.mk x.Leaf x.Entries y)) (ln_right (ln_right ln_sl)) (fun _ => rfl) (fun _ _ => rfl)) A18 h0_20 h1_20 ia20 ce20 rfl rfl
  refine cl' rfl func59 rfl (laws_markIntS.calls ((at_ (y12.set (x2.2.2).toNat (Node.mk (at_ y12 x2.2.2).Leaf r17.2 (at_ y12 x2.2.2).Kids)) x2.2.2).Kids) r17.1 s18.w (mm [] s18) v20_1 os24 ho24 hn24 (apart_of hc24 rfl)) ?_
  rintro r24 _ w24 m24 ⟨rfl, w24_, ky24⟩
  obtain ⟨s25, rfl, p25, A25⟩ := put24 w24 _ 41 ky24 w24_
  refine nb (fun y27 h27 => ?_)
  have A27 : OwF Yp s25 [w0_0] y27 2 := by rw [h27]; exact A25
  refine Xb rfl (dn (ib (rg (Xb rfl (Xb rfl (Xb rfl (dn ?_)))))))
  exact lb ih2 ⟨s25, _, rfl, (ue (ue (ue rfl rfl) rfl) rfl), (Kx2.st (Ye p10 p18 p25) rfl), A27⟩
 exact xt rfl (sgb (sr (Xb rfl (Xb rfl (dn (re rfl func35 rfl (Xv rfl Xg) rfl ⟨_, rfl, rfl, z.fw Kx2 Ax2_0, z.ky Kx2⟩))))))
def laws_markTree.f (a0 : Tree) (a1 : Int) : Option (Int × (List Node)) :=
 ((laws_markNodeS.f a0.Nodes a1).bind fun r4 => (some (r4.1, r4.2)))
def laws_markTree.Q (w : World) (F : Nat → Prop) (os : List Nat) (w0_0 : Value) (r : Int × (List Node)) (v : Value) (w' : World) : Prop :=
 v = (iI r.1) ∧ FW Yp os w w' [w0_0] r.2 ∧ Ky os w w'
theorem laws_markTree.calls (a0 : Tree) (a1 : Int) (w : World) (F : Nat → Prop) (w0_0 : Value) (os : List Nat) (h0_0 : Yp.ow w [w0_0] a0.Nodes os) (hn : os.Nodup) (hF : ∀ b, F b → b ∉ os) (r : Int × (List Node)) (m : laws_markTree.f a0 a1 = some r) :
  Calls prog 12 #[(.agg #[w0_0, (iI a0.Root)]), (iI a1)] w (RT (laws_markTree.Q w F os w0_0) r) := by
 obtain ⟨s0, rfl, kp0, z⟩ := start1 w F os hF
 refine Xf (args := [(.agg #[w0_0, (iI a0.Root)]), (iI a1)]) func12 ntmps12 rfl rfl m ?_
 unfold laws_markTree.f
 refine sr (bx' (cs := [w0_0, (iI a0.Root)]) 40 rfl rfl (fun b2 s2 p2 B2 => ?_))
 refine Xb rfl (dn (sr (Xs fa33_0 rfl (Yb B2 u31 rfl (Xb rfl ?_)))))
 obtain ⟨os4, ho4, hn4, hc4⟩ := (z.ow h0_0 hn).st p2 rfl
 refine cl' rfl func35 rfl (laws_markNodeS.calls a0.Nodes a1 s2.w (mm [] s2) w0_0 os4 ho4 hn4 (apart_of hc4 rfl)) ?_
 rintro r4 _ w4 m4 ⟨rfl, w4_, ky4⟩
 obtain ⟨s6, rfl, p6, A6⟩ := nwo 41 hc4 ky4 w4_
 refine Xb rfl (dn (sr (Xb rfl (Xb rfl (dn ?_)))))
 have K8 := kp0.st (Xo p2 p6) rfl
 exact re rfl func12 rfl (Xv rfl Xg) rfl ⟨_, rfl, rfl, z.fw K8 A6, z.ky K8⟩
def laws_markItem.f (a0 : Item) (a1 : Int) : Option (Int × (List Int)) :=
 ((laws_markByteS.f a0.T a1).bind fun r4 => (some (r4.1, r4.2)))
def laws_markItem.Q (w : World) (F : Nat → Prop) (os : List Nat) (w0_1 : Value) (r : Int × (List Int)) (v : Value) (w' : World) : Prop :=
 v = (iI r.1) ∧ FW Ym os w w' [w0_1] r.2 ∧ Ky os w w'
theorem laws_markItem.calls (a0 : Item) (a1 : Int) (w : World) (F : Nat → Prop) (w0_0 : Value) (w0_1 : Value) (h0_0 : Kd.flt.rd w [w0_0] a0.F F) (os : List Nat) (h0_1 : Ym.ow w [w0_1] a0.T os) (hn : os.Nodup) (hF : ∀ b, F b → b ∉ os) (r : Int × (List Int)) (m : laws_markItem.f a0 a1 = some r) :
  Calls prog 13 #[(.agg #[(iI a0.Kind), (iI a0.N), w0_0, w0_1]), (iI a1)] w (RT (laws_markItem.Q w F os w0_1) r) := by
 obtain ⟨s0, rfl, kp0, z⟩ := start1 w F os hF
 refine Xf (args := [(.agg #[(iI a0.Kind), (iI a0.N), w0_0, w0_1]), (iI a1)]) func13 ntmps13 rfl rfl m ?_
 unfold laws_markItem.f
 refine sr (bx' (cs := [(iI a0.Kind), (iI a0.N), w0_0, w0_1]) 40 rfl rfl (fun b2 s2 p2 B2 => ?_))
 refine Xb rfl (dn (sr (Xs fa37_3 rfl (Yb B2 u26 rfl (Xb rfl ?_)))))
 obtain ⟨os4, ho4, hn4, hc4⟩ := (z.ow h0_1 hn).st p2 rfl
 refine cl' rfl func36 rfl (laws_markByteS.calls a0.T a1 s2.w (mm [] s2) w0_1 os4 ho4 hn4 (apart_of hc4 rfl)) ?_
 rintro r4 _ w4 m4 ⟨rfl, w4_, ky4⟩
 obtain ⟨s6, rfl, p6, A6⟩ := nwo 41 hc4 ky4 w4_
 refine Xb rfl (dn (sr (Xb rfl (Xb rfl (dn ?_)))))
 have K8 := kp0.st (Xo p2 p6) rfl
 exact re rfl func13 rfl (Xv rfl Xg) rfl ⟨_, rfl, rfl, z.fw K8 A6, z.ky K8⟩
def laws_heldByteS.b0 (a0 : (List Int)) (x2 : Int × Int) : Option ((Int × Int) ⊕ Int) :=
 (if (decide (x2.2 < (a0.length : Int))) = true then (if 0 ≤ x2.2 ∧ x2.2 < (a0.length : Int) then (if ((at_ a0 x2.2) != (IntKind.wrap .u8 x2.1)) = true then (some (Sum.inr (-1 : Int))) else (some (Sum.inl ((IntKind.wrap .i64 (x2.1 + (1 : Int))), (IntKind.wrap .i64 (x2.2 + (1 : Int))))))) else none) else ((some x2.1).bind fun o => some (Sum.inr o)))
def laws_heldByteS.f (a0 : (List Int)) (a1 : Int) : Option (Int) :=
 (iter (laws_heldByteS.b0 a0) (a1, (0 : Int)))
def laws_heldByteS.Q (w : World) (F : Nat → Prop) (r : Int) (v : Value) (w' : World) : Prop :=
 v = (iI r) ∧ Ky [] w w'
theorem laws_heldByteS.calls (a0 : (List Int)) (a1 : Int) (w : World) (F : Nat → Prop) (w0_0 : Value) (h0_0 : Ym.rd w [w0_0] a0 F) (r : Int) (m : laws_heldByteS.f a0 a1 = some r) :
  Calls prog 83 #[w0_0, (iI a1)] w (RT (laws_heldByteS.Q w F) r) := by
 obtain ⟨s0, rfl, kp0, z⟩ := Xn w F
 refine Xf (args := [w0_0, (iI a1)]) func83 ntmps83 rfl rfl m ?_
 unfold laws_heldByteS.f
 refine sr (Xb rfl (dn (sq (sr (Xb rfl (dn (bl (lpI (fun (x2 : Int × Int) e w => ∃ (s : St) (e0 : Env), w = s.w ∧ e = upd (upd (upd e0 0 w0_0) 1 (iI x2.1)) 5 (iI x2.2) ∧ Kp s0 s) ⟨s0, _, rfl, (ue (ue (ue rfl rfl) rfl) rfl), kp0⟩ (fun g2 ih2 => ?_)))))))))
 rintro x2 _ _ ⟨s3, _, rfl, rfl, Kx2⟩
 unfold laws_heldByteS.b0
 refine sq (sr (Xb rfl (Xw w0_0 rfl ?_)))
 have A4 := (z.rd h0_0).kp Kx2
 refine ln' A4 u26 rfl (Xb rfl (dn (cd rfl (fun h5 => ?_) (fun h5 => ?_))))
 ·
  refine sk (sq (bl (sq (sr (Xw w0_0 rfl (Xb rfl (ix' A4 u26 z5 rfl (fun ad6 es6 h0_6 h1_6 he6 ce6 ia6 => ?_))))))))
  obtain rfl := he6
  refine lc0 ce6 u5 rfl rfl rfl rfl rfl rfl rfl rfl (Xb rfl (cv u5 u3 rfl rfl rfl rfl rfl rfl (Xb rfl (dn (cd rfl (fun h8 => ?_) (fun h8 => ?_))))))
  ·
   exact sr (Xb rfl (dn (sgi (re rfl func83 rfl (Xv rfl Xg) rfl ⟨_, rfl, rfl, z.ky Kx2⟩))))
  exact sk (rg (Xb rfl (Xb rfl (Xb rfl (dn (ib (rg (Xb rfl (Xb rfl (Xb rfl (dn (lb ih2 ⟨s3, _, rfl, (ue (ue (ue rfl rfl) rfl) rfl), Kx2⟩))))))))))))
 exact xt rfl (sgb (sr (Xb rfl (Xb rfl (dn (re rfl func83 rfl (Xv rfl Xg) rfl ⟨_, rfl, rfl, z.ky Kx2⟩))))))
def laws_heldEntryS.b0 (a0 : (List Entry)) (x2 : Int × Int) : Option ((Int × Int) ⊕ Int) :=
 (if (decide (x2.2 < (a0.length : Int))) = true then (if 0 ≤ x2.2 ∧ x2.2 < (a0.length : Int) then (if (((at_ a0 x2.2).Key).Kind != x2.1) = true then (some (Sum.inr (-1 : Int))) else (if 0 ≤ x2.2 ∧ x2.2 < (a0.length : Int) then (if (((at_ a0 x2.2).Key).N != (IntKind.wrap .i64 (x2.1 + (1 : Int)))) = true then (some (Sum.inr (-1 : Int))) else (if 0 ≤ x2.2 ∧ x2.2 < (a0.length : Int) then (if (fcmp .f64 (((at_ a0 x2.2).Key).F) (FloatKind.f64.nearest (IntKind.wrap .i64 ((IntKind.wrap .i64 (x2.1 + (1 : Int))) + (1 : Int)))) != some .eq) = true then (some (Sum.inr (-1 : Int))) else (if 0 ≤ x2.2 ∧ x2.2 < (a0.length : Int) then ((laws_heldByteS.f (((at_ a0 x2.2).Key).T) (IntKind.wrap .i64 ((IntKind.wrap .i64 ((IntKind.wrap .i64 (x2.1 + (1 : Int))) + (1 : Int))) + (1 : Int)))).bind fun r22 => (if (decide (r22 < (0 : Int))) = true then (some (Sum.inr (-1 : Int))) else (if 0 ≤ x2.2 ∧ x2.2 < (a0.length : Int) then (if ((at_ a0 x2.2).Id != r22) = true then (some (Sum.inr (-1 : Int))) else (some (Sum.inl ((IntKind.wrap .i64 (r22 + (1 : Int))), (IntKind.wrap .i64 (x2.2 + (1 : Int))))))) else none))) else none)) else none)) else none)) else none) else ((some x2.1).bind fun o => some (Sum.inr o)))
def laws_heldEntryS.f (a0 : (List Entry)) (a1 : Int) : Option (Int) :=
 (iter (laws_heldEntryS.b0 a0) (a1, (0 : Int)))
def laws_heldEntryS.Q (w : World) (F : Nat → Prop) (r : Int) (v : Value) (w' : World) : Prop :=
 v = (iI r) ∧ Ky [] w w'
theorem laws_heldEntryS.calls (a0 : (List Entry)) (a1 : Int) (w : World) (F : Nat → Prop) (w0_0 : Value) (h0_0 : Yn.rd w [w0_0] a0 F) (r : Int) (m : laws_heldEntryS.f a0 a1 = some r) :
  Calls prog 60 #[w0_0, (iI a1)] w (RT (laws_heldEntryS.Q w F) r) := by
 obtain ⟨s0, rfl, kp0, z⟩ := Xn w F
 have A0_0 := z.rd h0_0
 refine Xf (args := [w0_0, (iI a1)]) func60 ntmps60 rfl rfl m ?_
 unfold laws_heldEntryS.f
 refine sr (Xb rfl (dn (sq (sr (Xb rfl (dn (bl (lpI (fun (x2 : Int × Int) e w => ∃ (s : St) (e0 : Env), w = s.w ∧ e = upd (upd (upd e0 0 w0_0) 1 (iI x2.1)) 5 (iI x2.2) ∧ Kp s0 s) ⟨s0, _, rfl, (ue (ue (ue rfl rfl) rfl) rfl), kp0⟩ (fun g2 ih2 => ?_)))))))))
 rintro x2 _ _ ⟨s3, _, rfl, rfl, Kx2⟩
 unfold laws_heldEntryS.b0
 refine sq (sr (Xb rfl (Xw w0_0 rfl ?_)))
 have A4 := A0_0.kp Kx2
 refine ln' A4 u52 rfl (Xb rfl (dn (cd rfl (fun h5 => ?_) (fun h5 => ?_))))
 ·
  refine sk (sq (bl (sq (sr (Xw w0_0 rfl (Xb rfl (ix' A4 u52 z48 rfl (fun ad6 es6 h0_6 h1_6 he6 ce6 ia6 => ?_))))))))
  obtain ⟨v6_0, v6_1, rfl, A6_0, A6_1⟩ := op48 he6
  refine Xs fa48_0 rfl (Xs fa37_0 rfl (lc0 ce6 u3 rfl rfl rfl rfl rfl rfl rfl rfl (Xb rfl (Xb rfl (dn (cd rfl (fun h9 => ?_) (fun h9 => ?_)))))))
  ·
   exact sr (Xb rfl (dn (sgi (re rfl func60 rfl (Xv rfl Xg) rfl ⟨_, rfl, rfl, z.ky Kx2⟩))))
  refine sk (sr (Xb rfl (Xb rfl (Xb rfl (dn (sq (sr (Xw w0_0 rfl (Xb rfl (ix' A4 u52 z48 rfl (fun ad10 es10 h0_10 h1_10 he10 ce10 ia10 => ?_)))))))))))
  obtain ⟨v10_0, v10_1, rfl, A10_0, A10_1⟩ := op48 he10
  refine Xs fa48_0 rfl (Xs fa37_1 rfl (lc ce10 u3 rfl rfl rfl rfl rfl rfl rfl rfl (Xb rfl (Xb rfl (dn (cd rfl (fun h13 => ?_) (fun h13 => ?_)))))))
  ·
   exact sr (Xb rfl (dn (sgi (re rfl func60 rfl (Xv rfl Xg) rfl ⟨_, rfl, rfl, z.ky Kx2⟩))))
  refine sk (sr (Xb rfl (Xb rfl (Xb rfl (dn (sq (sr (Xw w0_0 rfl (Xb rfl (ix' A4 u52 z48 rfl (fun ad14 es14 h0_14 h1_14 he14 ce14 ia14 => ?_)))))))))))
  obtain ⟨v14_0, v14_1, rfl, A14_0, A14_1⟩ := op48 he14
  refine Xs fa48_0 rfl (Xs fa37_2 rfl (lc ce14 u25 rfl rfl rfl rfl rfl rfl rfl rfl (Xb rfl (i2f u25 u3 rfl rfl rfl rfl rfl rfl (fun v17 A17 => ?_)))))
  refine fq_' A14_0 A17 rfl (dn (cd rfl (fun h18 => ?_) (fun h18 => ?_)))
  ·
   exact sr (Xb rfl (dn (sgi (re rfl func60 rfl (Xv rfl Xg) rfl ⟨_, rfl, rfl, z.ky Kx2⟩))))
  refine sk (sr (Xb rfl (Xb rfl (Xb rfl (dn (sr (Xw w0_0 rfl (Xb rfl (ix' A4 u52 z48 rfl (fun ad19 es19 h0_19 h1_19 he19 ce19 ia19 => ?_))))))))))
  obtain ⟨v19_0, v19_1, rfl, A19_0, A19_1⟩ := op48 he19
  refine Xs fa48_0 rfl (Xs fa37_3 rfl (lc ce19 u26 rfl rfl rfl rfl rfl rfl rfl rfl (Xb rfl (clV 40 rfl func83 rfl (laws_heldByteS.calls (((at_ a0 x2.2).Key).T) (IntKind.wrap .i64 ((IntKind.wrap .i64 ((IntKind.wrap .i64 (x2.1 + (1 : Int))) + (1 : Int))) + (1 : Int))) s3.w (mm [0] s3) v19_1 A19_1) (fun r22 s23 p23 n23 => ?_)))))
  refine Xb rfl (dn (sq (sr (Xb rfl (Xb rfl (dn (cd rfl (fun h24 => ?_) (fun h24 => ?_))))))))
  ·
   refine sr (Xb rfl (dn (sgi ?_)))
   exact re rfl func60 rfl (Xv rfl Xg) rfl ⟨_, rfl, rfl, z.ky (Kx2.st p23 rfl)⟩
  refine sk (sq (sr (Xw w0_0 rfl (Xb rfl ?_))))
  have K26 := Kx2.st p23 rfl
  refine ix' (A0_0.kp K26) u52 z48 rfl (fun ad28 es28 h0_28 h1_28 he28 ce28 ia28 => ?_)
  obtain ⟨v28_0, v28_1, rfl, A28_0, A28_1⟩ := op48 he28
  refine Xs fa48_1 rfl (lc ce28 u3 rfl rfl rfl rfl rfl rfl rfl rfl (Xb rfl (Xb rfl (dn (cd rfl (fun h31 => ?_) (fun h31 => ?_))))))
  ·
   exact sr (Xb rfl (dn (sgi (re rfl func60 rfl (Xv rfl Xg) rfl ⟨_, rfl, rfl, z.ky K26⟩))))
  exact sk (rg (Xb rfl (Xb rfl (Xb rfl (dn (ib (rg (Xb rfl (Xb rfl (Xb rfl (dn (lb ih2 ⟨s23, _, rfl, (ue (ue (ue rfl rfl) rfl) rfl), K26⟩))))))))))))
 exact xt rfl (sgb (sr (Xb rfl (Xb rfl (dn (re rfl func60 rfl (Xv rfl Xg) rfl ⟨_, rfl, rfl, z.ky Kx2⟩))))))
def laws_heldIntS.b0 (a0 : (List Int)) (x2 : Int × Int) : Option ((Int × Int) ⊕ Int) :=
 (if (decide (x2.2 < (a0.length : Int))) = true then (if 0 ≤ x2.2 ∧ x2.2 < (a0.length : Int) then (if ((at_ a0 x2.2) != x2.1) = true then (some (Sum.inr (-1 : Int))) else (some (Sum.inl ((IntKind.wrap .i64 (x2.1 + (1 : Int))), (IntKind.wrap .i64 (x2.2 + (1 : Int))))))) else none) else ((some x2.1).bind fun o => some (Sum.inr o)))
def laws_heldIntS.f (a0 : (List Int)) (a1 : Int) : Option (Int) :=
 (iter (laws_heldIntS.b0 a0) (a1, (0 : Int)))
def laws_heldIntS.Q (w : World) (F : Nat → Prop) (r : Int) (v : Value) (w' : World) : Prop :=
 v = (iI r) ∧ Ky [] w w'
theorem laws_heldIntS.calls (a0 : (List Int)) (a1 : Int) (w : World) (F : Nat → Prop) (w0_0 : Value) (h0_0 : Yo.rd w [w0_0] a0 F) (r : Int) (m : laws_heldIntS.f a0 a1 = some r) :
  Calls prog 61 #[w0_0, (iI a1)] w (RT (laws_heldIntS.Q w F) r) := by
 obtain ⟨s0, rfl, kp0, z⟩ := Xn w F
 refine Xf (args := [w0_0, (iI a1)]) func61 ntmps61 rfl rfl m ?_
 unfold laws_heldIntS.f
 refine sr (Xb rfl (dn (sq (sr (Xb rfl (dn (bl (lpI (fun (x2 : Int × Int) e w => ∃ (s : St) (e0 : Env), w = s.w ∧ e = upd (upd (upd e0 0 w0_0) 1 (iI x2.1)) 5 (iI x2.2) ∧ Kp s0 s) ⟨s0, _, rfl, (ue (ue (ue rfl rfl) rfl) rfl), kp0⟩ (fun g2 ih2 => ?_)))))))))
 rintro x2 _ _ ⟨s3, _, rfl, rfl, Kx2⟩
 unfold laws_heldIntS.b0
 refine sq (sr (Xb rfl (Xw w0_0 rfl ?_)))
 have A4 := (z.rd h0_0).kp Kx2
 refine ln' A4 u59 rfl (Xb rfl (dn (cd rfl (fun h5 => ?_) (fun h5 => ?_))))
 ·
  refine sk (sq (bl (sq (sr (Xw w0_0 rfl (Xb rfl (ix' A4 u59 z3 rfl (fun ad6 es6 h0_6 h1_6 he6 ce6 ia6 => ?_))))))))
  obtain rfl := he6
  refine lc0 ce6 u3 rfl rfl rfl rfl rfl rfl rfl rfl (Xb rfl (Xb rfl (dn (cd rfl (fun h8 => ?_) (fun h8 => ?_)))))
  ·
   exact sr (Xb rfl (dn (sgi (re rfl func61 rfl (Xv rfl Xg) rfl ⟨_, rfl, rfl, z.ky Kx2⟩))))
  exact sk (rg (Xb rfl (Xb rfl (Xb rfl (dn (ib (rg (Xb rfl (Xb rfl (Xb rfl (dn (lb ih2 ⟨s3, _, rfl, (ue (ue (ue rfl rfl) rfl) rfl), Kx2⟩))))))))))))
 exact xt rfl (sgb (sr (Xb rfl (Xb rfl (dn (re rfl func61 rfl (Xv rfl Xg) rfl ⟨_, rfl, rfl, z.ky Kx2⟩))))))
def laws_heldNodeS.b0 (a0 : (List Node)) (x2 : Int × Int) : Option ((Int × Int) ⊕ Int) :=
 (if (decide (x2.2 < (a0.length : Int))) = true then (if 0 ≤ x2.2 ∧ x2.2 < (a0.length : Int) then (if (!(((at_ a0 x2.2).Leaf) == ((x2.1.tmod (3 : Int)) == (0 : Int)))) = true then (some (Sum.inr (-1 : Int))) else (if 0 ≤ x2.2 ∧ x2.2 < (a0.length : Int) then ((laws_heldEntryS.f ((at_ a0 x2.2).Entries) (IntKind.wrap .i64 (x2.1 + (1 : Int)))).bind fun r15 => (if (decide (r15 < (0 : Int))) = true then (some (Sum.inr (-1 : Int))) else (if 0 ≤ x2.2 ∧ x2.2 < (a0.length : Int) then ((laws_heldIntS.f ((at_ a0 x2.2).Kids) r15).bind fun r25 => (if (decide (r25 < (0 : Int))) = true then (some (Sum.inr (-1 : Int))) else (some (Sum.inl (r25, (IntKind.wrap .i64 (x2.2 + (1 : Int)))))))) else none))) else none)) else none) else ((some x2.1).bind fun o => some (Sum.inr o)))
def laws_heldNodeS.f (a0 : (List Node)) (a1 : Int) : Option (Int) :=
 (iter (laws_heldNodeS.b0 a0) (a1, (0 : Int)))
def laws_heldNodeS.Q (w : World) (F : Nat → Prop) (r : Int) (v : Value) (w' : World) : Prop :=
 v = (iI r) ∧ Ky [] w w'
theorem laws_heldNodeS.calls (a0 : (List Node)) (a1 : Int) (w : World) (F : Nat → Prop) (w0_0 : Value) (h0_0 : Yp.rd w [w0_0] a0 F) (r : Int) (m : laws_heldNodeS.f a0 a1 = some r) :
  Calls prog 37 #[w0_0, (iI a1)] w (RT (laws_heldNodeS.Q w F) r) := by
 obtain ⟨s0, rfl, kp0, z⟩ := Xn w F
 have A0_0 := z.rd h0_0
 refine Xf (args := [w0_0, (iI a1)]) func37 ntmps37 rfl rfl m ?_
 unfold laws_heldNodeS.f
 refine sr (Xb rfl (dn (sq (sr (Xb rfl (dn (bl (lpI (fun (x2 : Int × Int) e w => ∃ (s : St) (e0 : Env), w = s.w ∧ e = upd (upd (upd e0 0 w0_0) 1 (iI x2.1)) 5 (iI x2.2) ∧ Kp s0 s) ⟨s0, _, rfl, (ue (ue (ue rfl rfl) rfl) rfl), kp0⟩ (fun g2 ih2 => ?_)))))))))
 rintro x2 _ _ ⟨s3, _, rfl, rfl, Kx2⟩
 unfold laws_heldNodeS.b0
 refine sq (sr (Xb rfl (Xw w0_0 rfl ?_)))
 have A4 := A0_0.kp Kx2
 refine ln' A4 u31 rfl (Xb rfl (dn (cd rfl (fun h5 => ?_) (fun h5 => ?_))))
 ·
  refine sk (sq (bl (sq (sr (Xw w0_0 rfl (Xb rfl (ix' A4 u31 z61 rfl (fun ad6 es6 h0_6 h1_6 he6 ce6 ia6 => ?_))))))))
  obtain ⟨v6_0, v6_1, rfl, A6_0, A6_1⟩ := op61 he6
  refine Xs fa61_0 rfl (lc0 ce6 u4 rfl rfl rfl rfl rfl rfl rfl rfl (Xb rfl (remK rfl rfl rfl rfl rfl rfl rfl rfl (Xb rfl (bne_ u4 rfl rfl rfl rfl rfl rfl rfl (dn (cd rfl (fun h10 => ?_) (fun h10 => ?_))))))))
  ·
   exact sr (Xb rfl (dn (sgi (re rfl func37 rfl (Xv rfl Xg) rfl ⟨_, rfl, rfl, z.ky Kx2⟩))))
  refine sk (sr (Xb rfl (Xb rfl (Xb rfl (dn (sr (Xw w0_0 rfl (Xb rfl (ix' A4 u31 z61 rfl (fun ad11 es11 h0_11 h1_11 he11 ce11 ia11 => ?_))))))))))
  obtain ⟨v11_0, v11_1, rfl, A11_0, A11_1⟩ := op61 he11
  refine Xs fa61_1 rfl (lc ce11 u52 rfl rfl rfl rfl rfl rfl rfl rfl (Xb rfl (clV 40 rfl func60 rfl (laws_heldEntryS.calls ((at_ a0 x2.2).Entries) (IntKind.wrap .i64 (x2.1 + (1 : Int))) s3.w (mm [0] s3) v11_0 A11_0) (fun r15 s16 p16 n16 => ?_))))
  refine Xb rfl (dn (sq (sr (Xb rfl (Xb rfl (dn (cd rfl (fun h17 => ?_) (fun h17 => ?_))))))))
  ·
   refine sr (Xb rfl (dn (sgi ?_)))
   exact re rfl func37 rfl (Xv rfl Xg) rfl ⟨_, rfl, rfl, z.ky (Kx2.st p16 rfl)⟩
  refine sk (sr (Xw w0_0 rfl (Xb rfl ?_)))
  have K19 := Kx2.st p16 rfl
  refine ix' (A0_0.kp K19) u31 z61 rfl (fun ad21 es21 h0_21 h1_21 he21 ce21 ia21 => ?_)
  obtain ⟨v21_0, v21_1, rfl, A21_0, A21_1⟩ := op61 he21
  refine Xs fa61_2 rfl (lc ce21 u59 rfl rfl rfl rfl rfl rfl rfl rfl (Xb rfl (clV 41 rfl func61 rfl (laws_heldIntS.calls ((at_ a0 x2.2).Kids) r15 s16.w (mm [0] s16) v21_1 A21_1) (fun r25 s26 p26 n26 => ?_))))
  refine Xb rfl (dn (sr (Xb rfl (Xb rfl (dn (cd rfl (fun h27 => ?_) (fun h27 => ?_)))))))
  ·
   refine sr (Xb rfl (dn (sgi ?_)))
   exact re rfl func37 rfl (Xv rfl Xg) rfl ⟨_, rfl, rfl, z.ky (K19.st p26 rfl)⟩
  refine sk (ib (rg (Xb rfl (Xb rfl (Xb rfl (dn ?_))))))
  exact lb ih2 ⟨s26, _, rfl, (ue (ue (ue rfl rfl) rfl) rfl), (K19.st p26 rfl)⟩
 exact xt rfl (sgb (sr (Xb rfl (Xb rfl (dn (re rfl func37 rfl (Xv rfl Xg) rfl ⟨_, rfl, rfl, z.ky Kx2⟩))))))
def laws_heldTree.f (a0 : Tree) (a1 : Int) : Option (Int) :=
 ((laws_heldNodeS.f a0.Nodes a1).bind fun r6 => (if (decide (r6 < (0 : Int))) = true then (some (-1 : Int)) else (some r6)))
def laws_heldTree.Q (w : World) (F : Nat → Prop) (r : Int) (v : Value) (w' : World) : Prop :=
 v = (iI r) ∧ Ky [] w w'
theorem laws_heldTree.calls (a0 : Tree) (a1 : Int) (w : World) (F : Nat → Prop) (w0_0 : Value) (h0_0 : Yp.rd w [w0_0] a0.Nodes F) (r : Int) (m : laws_heldTree.f a0 a1 = some r) :
  Calls prog 14 #[(.agg #[w0_0, (iI a0.Root)]), (iI a1)] w (RT (laws_heldTree.Q w F) r) := by
 obtain ⟨s0, rfl, kp0, z⟩ := Xn w F
 refine Xf (args := [(.agg #[w0_0, (iI a0.Root)]), (iI a1)]) func14 ntmps14 rfl rfl m ?_
 unfold laws_heldTree.f
 refine sr (bx' (cs := [w0_0, (iI a0.Root)]) 40 rfl rfl (fun b2 s2 p2 B2 => ?_))
 refine Xb rfl (dn (sr (Xs fa33_0 rfl (Yb B2 u31 rfl (Xb rfl ?_)))))
 have K4 := kp0.st p2 rfl
 refine clV 41 rfl func37 rfl (laws_heldNodeS.calls a0.Nodes a1 s2.w (mm [0] s2) w0_0 ((z.rd h0_0).kp K4)) (fun r6 s7 p7 n7 => ?_)
 refine Xb rfl (dn (sq (sr (Xb rfl (Xb rfl (dn (cd rfl (fun h8 => ?_) (fun h8 => ?_))))))))
 ·
  refine sr (Xb rfl (dn ?_))
  exact re rfl func14 rfl (Xv rfl Xg) rfl ⟨_, rfl, rfl, z.ky (K4.st p7 rfl)⟩
 refine sk (sr (Xb rfl (Xb rfl (dn ?_))))
 exact re rfl func14 rfl (Xv rfl Xg) rfl ⟨_, rfl, rfl, z.ky (K4.st p7 rfl)⟩
def laws_FnExactTreeAdd.f (a0 : Tree) (a1 : Item) (a2 : Int) : Option (Bool) :=
 ((laws_szTree.f a0 (1048576 : Int)).bind fun r10 => (if (decide (r10 < (0 : Int))) = true then (some true) else ((laws_szItem.f a1 r10).bind fun r17 => (if (decide (r17 < (0 : Int))) = true then (some true) else (((laws_toTree.f a0).bind fun r34 => ((laws_toItem.f a1).bind fun r43 => ((spec_TreeAdd.f r34 r43 a2).bind fun r50 => (some (r50.1.Nodes, r50.1.Root, r50.2))))).bind fun y27 => ((laws_toTree.f a0).bind fun r181 => ((laws_toItem.f a1).bind fun r192 => ((impl_TreeAdd.f r181 r192 a2).bind fun r203 => ((laws_eqTree.f r203.1 (Tree.mk y27.1 y27.2.1)).bind fun r214 => (if ((!r214) || (!(r203.2 == y27.2.2))) = true then (some false) else ((laws_toTree.f a0).bind fun r229 => ((laws_eqTree.f r181 r229).bind fun r235 => (if (!r235) = true then (some false) else ((laws_toItem.f a1).bind fun r249 => ((laws_eqItem.f r192 r249).bind fun r255 => (if (!r255) = true then (some false) else ((laws_markTree.f r181 (1 : Int)).bind fun r260 => ((laws_markItem.f r192 r260.1).bind fun r265 => ((if (decide (r265.1 < (0 : Int))) = true then (some true) else ((laws_eqTree.f r203.1 (Tree.mk y27.1 y27.2.1)).bind fun r281 => (some (!r281)))).bind fun y269 => (if (y269 || (!(r203.2 == y27.2.2))) = true then (some false) else ((laws_markTree.f r203.1 (1 : Int)).bind fun r297 => ((laws_heldTree.f (Tree.mk r297.2 r203.1.Root) (1 : Int)).bind fun r301 => (if (decide (r301 < (0 : Int))) = true then (some false) else (if (r301 != r297.1) = true then (some false) else (((laws_toTree.f a0).bind fun r320 => ((laws_toItem.f a1).bind fun r329 => ((impl_TreeAdd.f r320 r329 a2).bind fun r336 => (some (r336.1.Nodes, r336.1.Root, r336.2))))).bind fun y313 => ((laws_eqTree.f (Tree.mk y313.1 y313.2.1) (Tree.mk y27.1 y27.2.1)).bind fun r474 => (if ((!r474) || (!(y313.2.2 == y27.2.2))) = true then (some false) else ((laws_heldTree.f (Tree.mk r297.2 r203.1.Root) (1 : Int)).bind fun r481 => (if (decide (r481 < (0 : Int))) = true then (some false) else (if (r481 != r297.1) = true then (some false) else (some true)))))))))))))))))))))))))))))))
def laws_FnExactTreeAdd.Q (w : World) (F : Nat → Prop) (r : Bool) (v : Value) (w' : World) : Prop :=
 v = (.bool r) ∧ Ky [] w w'
theorem laws_FnExactTreeAdd.calls (a0 : Tree) (a1 : Item) (a2 : Int) (w : World) (F : Nat → Prop) (w0_0 : Value) (w1_0 : Value) (w1_1 : Value) (h0_0 : (Kd.sl 75 kd75).rd w [w0_0] a0.Nodes F) (h1_0 : Kd.flt.rd w [w1_0] a1.F F) (h1_1 : Ym.rd w [w1_1] a1.T F) (r : Bool) (m : laws_FnExactTreeAdd.f a0 a1 a2 = some r) :
  Calls prog 3 #[(.agg #[w0_0, (iI a0.Root)]), (.agg #[(iI a1.Kind), (iI a1.N), w1_0, w1_1]), (iI a2)] w (RT (laws_FnExactTreeAdd.Q w F) r) := by
 obtain ⟨s0, rfl, kp0, z⟩ := Xn w F
 have A0_0 := z.rd h0_0
 have A1_0 := Yj h1_0
 have A1_1 := z.rd h1_1
 refine Xf (args := [(.agg #[w0_0, (iI a0.Root)]), (.agg #[(iI a1.Kind), (iI a1.N), w1_0, w1_1]), (iI a2)]) func3 ntmps3 rfl rfl m ?_
 unfold laws_FnExactTreeAdd.f
 refine sr (bx' (cs := [w0_0, (iI a0.Root)]) 40 rfl rfl (fun b3 s3 p3 B3 => ?_))
 refine bx' (cs := [(iI a1.Kind), (iI a1.N), w1_0, w1_1]) 41 rfl rfl (fun b5 s5 p5 B5 => ?_)
 refine Xb rfl (dn (sr (Xb rfl (dn (sr ?_)))))
 have A7 := B3.st p5 rfl
 refine Yl (es := [w0_0, (iI a0.Root)]) A7 u24 z24 rfl (Xb rfl ?_)
 have K8 := kp0.st (Xo p3 p5) rfl
 refine clV 42 rfl func4 rfl (laws_szTree.calls a0 (1048576 : Int) s5.w (mm [0] s5) w0_0 (A0_0.kp K8)) (fun r10 s11 p11 n11 => ?_)
 refine Xb rfl (dn (sq (sr (Xb rfl (Xb rfl (dn (cd rfl (fun h12 => ?_) (fun h12 => ?_))))))))
 ·
  refine sr (Xb rfl (dn ?_))
  exact re rfl func3 rfl (Xv rfl Xg) rfl ⟨_, rfl, rfl, z.ky (K8.st p11 rfl)⟩
 refine sk (sr ?_)
 have A14 := B5.st p11 rfl
 refine Yl (es := [(iI a1.Kind), (iI a1.N), w1_0, w1_1]) A14 u28 z28 rfl (Xb rfl ?_)
 have K15 := K8.st p11 rfl
 refine clV 43 rfl func5 rfl (laws_szItem.calls a1 r10 s11.w (mm [0] s11) w1_0 w1_1 ((Xk (s := s11) A1_0).sub (D := [0]) rfl) (A1_1.kp K15)) (fun r17 s18 p18 n18 => ?_)
 refine Xb rfl (dn (sq (sr (Xb rfl (Xb rfl (dn (cd rfl (fun h19 => ?_) (fun h19 => ?_))))))))
 ·
  refine sr (Xb rfl (dn ?_))
  exact re rfl func3 rfl (Xv rfl Xg) rfl ⟨_, rfl, rfl, z.ky (K15.st p18 rfl)⟩
 refine sk (sq (Ya [[], [0], [], [2, 1], [], [1, 3, 4, 3], [5], [6], [6], [], [9, 7, 5, 0, 1, 2, 3, 4, 5, 6, 7, 9], [8, 10, 0, 1, 2, 3, 4, 5, 6, 7, 8, 9, 10]] [some 30, some 31, some 32, some 33, some 34, some 35, some 29, some 36, some 37, some 8, none, some 9] [[3], [30], [4], [32], [2], [31, 33, 34], [35], [29], [29], [], [8, 36], [37]] [0, 1, 2, 3, 4, 5, 6, 7, 10, 8, 9, 11] ⟨by kernel_rfl, by kernel_rfl, by kernel_rfl⟩ (by kernel_rfl) (fun s21 p21 l21 tb21 zd21 => ?_)))
 refine ji [11] (fun (y27 : (List Node) × Int × Bool) e w => ∃ (s : St) (e0 : Env) (vy27_0 : Value) (by27_0 : Nat), w = s.w ∧ e = upd (upd (upd (upd (upd e0 2 (iI a2)) 3 (pB b3)) 4 (pB b5)) 8 (pB by27_0)) 37 (.bool y27.2.2) ∧ Kp s0 s ∧ OwF Yp s [vy27_0] y27.1 44 ∧ BlF s b5 28 [(iI a1.Kind), (iI a1.N), w1_0, w1_1] 41 ∧ BlF s b3 24 [w0_0, (iI a0.Root)] 40 ∧ BlF s by27_0 33 [vy27_0, (iI y27.2.1)] 45) (fun Gj27 Kj27 => ?_) ?_
 ·
  refine zstep2 1 9 [some 34, some 32] [some 34, some 32, some 30] tb21 (((zd21.add 0 30 (.agg #[w0_0, (iI a0.Root)]) rfl).add 2 32 (.agg #[(iI a1.Kind), (iI a1.N), w1_0, w1_1]) rfl).add 4 34 (iI a2) rfl) (Xa (Xc rfl) rfl (Xa (Xp (es := [(iI a1.Kind), (iI a1.N), w1_0, w1_1]) (A14.st (Xo p18 p21) rfl) u28 z28 rfl) rfl (Xa (Xp (es := [w0_0, (iI a0.Root)]) (A7.st (Ye p11 p18 p21) rfl) u24 z24 rfl) rfl Xe))) (by kernel_rfl) (by kernel_rfl) (fun l28 e28 zd28 => ?_) (fun l29 e29 zd29 => ?_)
  ·
   have K32 := K15.st (Xo p18 p21) rfl
   refine cl' rfl func7 rfl (laws_toTree.calls a0 s21.w (mm [0] s21) w0_0 (A0_0.kp K32)) ?_
   rintro r34 _ w34 m34 ⟨v34_0, rfl, f34_0, ky34⟩
   obtain ⟨s35, rfl, p35, n35⟩ := nwx s21 w34 46 ky34
   have Au34_0_0 := ap33 (f34_0.c n35)
   refine Xh (L' := [4, 2]) (D' := [0, 1]) zd28 rfl (fun zd37 => ?_)
   refine zstep2 3 9 [some 34] [some 34, some 32] tb21 zd37 (Xa (Xc rfl) rfl (Xa (Xp (es := [(iI a1.Kind), (iI a1.N), w1_0, w1_1]) (A14.st (Ye p18 p21 p35) rfl) u28 z28 rfl) rfl Xe)) (by kernel_rfl) (by kernel_rfl) (fun l38 e38 zd38 => ?_) (fun l39 e39 zd39 => ?_)
   ·
    have K41 := K32.st p35 rfl
    refine cl' rfl func8 rfl (laws_toItem.calls a1 s35.w (mm [0] s35) w1_0 w1_1 ((Xk (s := s35) A1_0).sub (D := [0]) rfl) (A1_1.kp K41)) ?_
    rintro r43 _ w43 m43 ⟨v43_0, v43_1, rfl, f43_0, ky43⟩
    obtain ⟨s44, rfl, p44, n44⟩ := nwx s35 w43 47 ky43
    obtain ⟨hu43_0_0, Au43_0_1⟩ := ap37 (f43_0.c n44)
    refine Xh (L' := [4]) (D' := [2, 3, 0, 1]) zd38 rfl (fun zd46 => ?_)
    refine zstep2 5 9 [] [some 34] tb21 zd46 (Xa (Xc rfl) rfl Xe) (by kernel_rfl) (by kernel_rfl) (fun l47 e47 zd47 => ?_) (fun l48 e48 zd48 => ?_)
    ·
     refine cl' rfl func6 rfl (spec_TreeAdd.calls r34 r43 a2 s44.w (mm [46, 47] s44) v34_0 v43_0 v43_1 ((Au34_0_0.st p44 rfl).rd.sub (D := [46, 47]) rfl) ((Xk (s := s44) hu43_0_0).sub (D := [46, 47]) rfl) (Au43_0_1.rd.sub (D := [46, 47]) rfl)) ?_
     rintro r50 _ w50 m50 ⟨v50_0, rfl, f50_0, ky50⟩
     obtain ⟨s51, rfl, p51, n51⟩ := nwx s44 w50 48 ky50
     refine Xh (L' := []) (D' := [4, 5, 2, 3, 0, 1]) zd47 rfl (fun zd53 => ?_)
     refine Xm 9 [some 37, some 36, some 29] tb21 (((zd53.add 6 29 (.tuple #[(.agg #[v50_0, (iI r50.1.Root)]), (.bool r50.2)]) rfl).add 7 36 (.agg #[v50_0, (iI r50.1.Root)]) rfl).add 8 37 (.bool r50.2) rfl) (Xa (Xc (v := (.bool r50.2)) rfl) rfl (Xa (Xc (v := (.agg #[v50_0, (iI r50.1.Root)])) rfl) rfl (Xa (Xc rfl) rfl Xe))) (by kernel_rfl) rfl (fun l57 e57 zd57 => ?_)
     refine al' (cs := [(.slice none 0 0), (iI 0)]) 49 rfl o33 rfl (fun b58 s58 p58 B58 => ?_)
     refine Xh (L' := [8, 7, 6]) (D' := [9, 4, 5, 2, 3, 0, 1]) zd57 rfl (fun zd60 => ?_)
     refine Xm 10 [some 37] tb21 zd60 (Xa (Xc (v := (.bool r50.2)) rfl) rfl (Xa (Xc (v := (.agg #[v50_0, (iI r50.1.Root)])) rfl) rfl (Xa (Xc rfl) rfl Xe))) (by kernel_rfl) rfl (fun l61 e61 zd61 => ?_)
     have A62 := (ap33 (f50_0.c n51)).st p58 rfl
     refine Yk (vs := [v50_0, (iI r50.1.Root)]) B58 z33 rfl (Xd A62.rd.one (Xd rfl Xt)) rfl (fun s63 p63 B63 => ?_)
     refine zdone0 (L' := [8]) (D' := [7, 6, 7, 10, 9, 4, 5, 2, 3, 0, 1]) zd61 rfl rfl rfl (fun zd65 => ?_)
     refine Xu [11] tb21 zd65 (Xa (Xc (v := (.bool r50.2)) rfl) rfl Xe) (by kernel_rfl) (by decide) ?_
     obtain ⟨s66, hw66, p66, D66⟩ := BlF.rc B63 45 rfl
     rw [hw66]
     obtain ⟨s69, hw69, p69, A69⟩ := (A62.st (Xo p63 p66) rfl).rc 44 rfl
     rw [hw69]
     exact Kj27 _ _ _ ⟨s69, _, v50_0, b58, rfl, (ue (ue (ue (ue (ue rfl rfl) rfl) rfl) rfl) rfl), (K41.st (tr6 p44 p51 p58 p63 p66 p69) rfl), A69, (A14.st (tr9 p18 p21 p35 p44 p51 p58 p63 p66 p69) rfl), (A7.st (tr10 p11 p18 p21 p35 p44 p51 p58 p63 p66 p69) rfl), (D66.st p69 rfl)⟩
    refine al' (cs := [(.slice none 0 0), (iI 0)]) 50 rfl o33 rfl (fun b74 s74 p74 B74 => ?_)
    refine Xh (L' := [4]) (D' := [9, 2, 3, 0, 1]) zd48 rfl (fun zd76 => ?_)
    refine Xm 5 [] tb21 zd76 (Xa (Xc rfl) rfl Xe) (by kernel_rfl) rfl (fun l77 e77 zd77 => ?_)
    refine cl' rfl func6 rfl (spec_TreeAdd.calls r34 r43 a2 s74.w (mm [46, 47] s74) v34_0 v43_0 v43_1 ((Au34_0_0.st (Xo p44 p74) rfl).rd.sub (D := [46, 47]) rfl) ((Xk (s := s74) hu43_0_0).sub (D := [46, 47]) rfl) ((Au43_0_1.st p74 rfl).rd.sub (D := [46, 47]) rfl)) ?_
    rintro r80 _ w80 m80 ⟨v80_0, rfl, f80_0, ky80⟩
    obtain ⟨s81, rfl, p81, n81⟩ := nwx s74 w80 51 ky80
    have Au80_0_0 := ap33 (f80_0.c n81)
    refine Xh (L' := []) (D' := [4, 5, 9, 2, 3, 0, 1]) zd77 rfl (fun zd83 => ?_)
    refine Xm 10 [some 37] tb21 (((zd83.add 6 29 (.tuple #[(.agg #[v80_0, (iI r80.1.Root)]), (.bool r80.2)]) rfl).add 7 36 (.agg #[v80_0, (iI r80.1.Root)]) rfl).add 8 37 (.bool r80.2) rfl) (Xa (Xc (v := (.bool r80.2)) rfl) rfl (Xa (Xc (v := (.agg #[v80_0, (iI r80.1.Root)])) rfl) rfl (Xa (Xc rfl) rfl Xe))) (by kernel_rfl) rfl (fun l87 e87 zd87 => ?_)
    refine Yk (vs := [v80_0, (iI r80.1.Root)]) (B74.st p81 rfl) z33 rfl (Xd Au80_0_0.rd.one (Xd rfl Xt)) rfl (fun s89 p89 B89 => ?_)
    refine zdone0 (L' := [8]) (D' := [7, 6, 7, 10, 4, 5, 9, 2, 3, 0, 1]) zd87 rfl rfl rfl (fun zd91 => ?_)
    refine Xu [11] tb21 zd91 (Xa (Xc (v := (.bool r80.2)) rfl) rfl Xe) (by kernel_rfl) (by decide) ?_
    obtain ⟨s92, hw92, p92, D92⟩ := BlF.rc B89 45 rfl
    rw [hw92]
    obtain ⟨s95, hw95, p95, A95⟩ := (Au80_0_0.st (Xo p89 p92) rfl).rc 44 rfl
    rw [hw95]
    exact Kj27 _ _ _ ⟨s95, _, v80_0, b74, rfl, (ue (ue (ue (ue (ue rfl rfl) rfl) rfl) rfl) rfl), (K41.st (tr6 p44 p74 p81 p89 p92 p95) rfl), A95, (A14.st (tr9 p18 p21 p35 p44 p74 p81 p89 p92 p95) rfl), (A7.st (tr10 p11 p18 p21 p35 p44 p74 p81 p89 p92 p95) rfl), (D92.st p95 rfl)⟩
   refine al' (cs := [(.slice none 0 0), (iI 0)]) 52 rfl o33 rfl (fun b100 s100 p100 B100 => ?_)
   refine Xh (L' := [4, 2]) (D' := [9, 0, 1]) zd39 rfl (fun zd102 => ?_)
   refine Xm 3 [some 34] tb21 zd102 (Xa (Xc rfl) rfl (Xa (Xp (es := [(iI a1.Kind), (iI a1.N), w1_0, w1_1]) (A14.st (Yf p18 p21 p35 p100) rfl) u28 z28 rfl) rfl Xe)) (by kernel_rfl) rfl (fun l103 e103 zd103 => ?_)
   have K105 := K32.st (Xo p35 p100) rfl
   refine cl' rfl func8 rfl (laws_toItem.calls a1 s100.w (mm [0] s100) w1_0 w1_1 ((Xk (s := s100) A1_0).sub (D := [0]) rfl) (A1_1.kp K105)) ?_
   rintro r107 _ w107 m107 ⟨v107_0, v107_1, rfl, f107_0, ky107⟩
   obtain ⟨s108, rfl, p108, n108⟩ := nwx s100 w107 53 ky107
   obtain ⟨hu107_0_0, Au107_0_1⟩ := ap37 (f107_0.c n108)
   refine Xh (L' := [4]) (D' := [2, 3, 9, 0, 1]) zd103 rfl (fun zd110 => ?_)
   refine Xm 5 [] tb21 zd110 (Xa (Xc rfl) rfl Xe) (by kernel_rfl) rfl (fun l111 e111 zd111 => ?_)
   refine cl' rfl func6 rfl (spec_TreeAdd.calls r34 r107 a2 s108.w (mm [46, 53] s108) v34_0 v107_0 v107_1 ((Au34_0_0.st (Xo p100 p108) rfl).rd.sub (D := [46, 53]) rfl) ((Xk (s := s108) hu107_0_0).sub (D := [46, 53]) rfl) (Au107_0_1.rd.sub (D := [46, 53]) rfl)) ?_
   rintro r113 _ w113 m113 ⟨v113_0, rfl, f113_0, ky113⟩
   obtain ⟨s114, rfl, p114, n114⟩ := nwx s108 w113 54 ky113
   have Au113_0_0 := ap33 (f113_0.c n114)
   refine Xh (L' := []) (D' := [4, 5, 2, 3, 9, 0, 1]) zd111 rfl (fun zd116 => ?_)
   refine Xm 10 [some 37] tb21 (((zd116.add 6 29 (.tuple #[(.agg #[v113_0, (iI r113.1.Root)]), (.bool r113.2)]) rfl).add 7 36 (.agg #[v113_0, (iI r113.1.Root)]) rfl).add 8 37 (.bool r113.2) rfl) (Xa (Xc (v := (.bool r113.2)) rfl) rfl (Xa (Xc (v := (.agg #[v113_0, (iI r113.1.Root)])) rfl) rfl (Xa (Xc rfl) rfl Xe))) (by kernel_rfl) rfl (fun l120 e120 zd120 => ?_)
   refine Yk (vs := [v113_0, (iI r113.1.Root)]) (B100.st (Xo p108 p114) rfl) z33 rfl (Xd Au113_0_0.rd.one (Xd rfl Xt)) rfl (fun s122 p122 B122 => ?_)
   refine zdone0 (L' := [8]) (D' := [7, 6, 7, 10, 4, 5, 2, 3, 9, 0, 1]) zd120 rfl rfl rfl (fun zd124 => ?_)
   refine Xu [11] tb21 zd124 (Xa (Xc (v := (.bool r113.2)) rfl) rfl Xe) (by kernel_rfl) (by decide) ?_
   obtain ⟨s125, hw125, p125, D125⟩ := BlF.rc B122 45 rfl
   rw [hw125]
   obtain ⟨s128, hw128, p128, A128⟩ := (Au113_0_0.st (Xo p122 p125) rfl).rc 44 rfl
   rw [hw128]
   exact Kj27 _ _ _ ⟨s128, _, v113_0, b100, rfl, (ue (ue (ue (ue (ue rfl rfl) rfl) rfl) rfl) rfl), (K105.st (tr5 p108 p114 p122 p125 p128) rfl), A128, (A14.st (tr9 p18 p21 p35 p100 p108 p114 p122 p125 p128) rfl), (A7.st (tr10 p11 p18 p21 p35 p100 p108 p114 p122 p125 p128) rfl), (D125.st p128 rfl)⟩
  refine al' (cs := [(.slice none 0 0), (iI 0)]) 55 rfl o33 rfl (fun b133 s133 p133 B133 => ?_)
  refine Xh (L' := [4, 2, 0]) (D' := [9]) zd29 rfl (fun zd135 => ?_)
  refine Xm 1 [some 34, some 32] tb21 zd135 (Xa (Xc rfl) rfl (Xa (Xp (es := [(iI a1.Kind), (iI a1.N), w1_0, w1_1]) (A14.st (Ye p18 p21 p133) rfl) u28 z28 rfl) rfl (Xa (Xp (es := [w0_0, (iI a0.Root)]) (A7.st (Yf p11 p18 p21 p133) rfl) u24 z24 rfl) rfl Xe))) (by kernel_rfl) rfl (fun l136 e136 zd136 => ?_)
  have K139 := K15.st (Ye p18 p21 p133) rfl
  refine cl' rfl func7 rfl (laws_toTree.calls a0 s133.w (mm [0] s133) w0_0 (A0_0.kp K139)) ?_
  rintro r141 _ w141 m141 ⟨v141_0, rfl, f141_0, ky141⟩
  obtain ⟨s142, rfl, p142, n142⟩ := nwx s133 w141 56 ky141
  refine Xh (L' := [4, 2]) (D' := [0, 1, 9]) zd136 rfl (fun zd144 => ?_)
  refine Xm 3 [some 34] tb21 zd144 (Xa (Xc rfl) rfl (Xa (Xp (es := [(iI a1.Kind), (iI a1.N), w1_0, w1_1]) (A14.st (Yf p18 p21 p133 p142) rfl) u28 z28 rfl) rfl Xe)) (by kernel_rfl) rfl (fun l145 e145 zd145 => ?_)
  have K147 := K139.st p142 rfl
  refine cl' rfl func8 rfl (laws_toItem.calls a1 s142.w (mm [0] s142) w1_0 w1_1 ((Xk (s := s142) A1_0).sub (D := [0]) rfl) (A1_1.kp K147)) ?_
  rintro r149 _ w149 m149 ⟨v149_0, v149_1, rfl, f149_0, ky149⟩
  obtain ⟨s150, rfl, p150, n150⟩ := nwx s142 w149 57 ky149
  obtain ⟨hu149_0_0, Au149_0_1⟩ := ap37 (f149_0.c n150)
  refine Xh (L' := [4]) (D' := [2, 3, 0, 1, 9]) zd145 rfl (fun zd152 => ?_)
  refine Xm 5 [] tb21 zd152 (Xa (Xc rfl) rfl Xe) (by kernel_rfl) rfl (fun l153 e153 zd153 => ?_)
  refine cl' rfl func6 rfl (spec_TreeAdd.calls r141 r149 a2 s150.w (mm [56, 57] s150) v141_0 v149_0 v149_1 (((ap33 (f141_0.c n142)).st p150 rfl).rd.sub (D := [56, 57]) rfl) ((Xk (s := s150) hu149_0_0).sub (D := [56, 57]) rfl) (Au149_0_1.rd.sub (D := [56, 57]) rfl)) ?_
  rintro r155 _ w155 m155 ⟨v155_0, rfl, f155_0, ky155⟩
  obtain ⟨s156, rfl, p156, n156⟩ := nwx s150 w155 58 ky155
  have Au155_0_0 := ap33 (f155_0.c n156)
  refine Xh (L' := []) (D' := [4, 5, 2, 3, 0, 1, 9]) zd153 rfl (fun zd158 => ?_)
  refine Xm 10 [some 37] tb21 (((zd158.add 6 29 (.tuple #[(.agg #[v155_0, (iI r155.1.Root)]), (.bool r155.2)]) rfl).add 7 36 (.agg #[v155_0, (iI r155.1.Root)]) rfl).add 8 37 (.bool r155.2) rfl) (Xa (Xc (v := (.bool r155.2)) rfl) rfl (Xa (Xc (v := (.agg #[v155_0, (iI r155.1.Root)])) rfl) rfl (Xa (Xc rfl) rfl Xe))) (by kernel_rfl) rfl (fun l162 e162 zd162 => ?_)
  refine Yk (vs := [v155_0, (iI r155.1.Root)]) (B133.st (Ye p142 p150 p156) rfl) z33 rfl (Xd Au155_0_0.rd.one (Xd rfl Xt)) rfl (fun s164 p164 B164 => ?_)
  refine zdone0 (L' := [8]) (D' := [7, 6, 7, 10, 4, 5, 2, 3, 0, 1, 9]) zd162 rfl rfl rfl (fun zd166 => ?_)
  refine Xu [11] tb21 zd166 (Xa (Xc (v := (.bool r155.2)) rfl) rfl Xe) (by kernel_rfl) (by decide) ?_
  obtain ⟨s167, hw167, p167, D167⟩ := BlF.rc B164 45 rfl
  rw [hw167]
  obtain ⟨s170, hw170, p170, A170⟩ := (Au155_0_0.st (Xo p164 p167) rfl).rc 44 rfl
  rw [hw170]
  exact Kj27 _ _ _ ⟨s170, _, v155_0, b133, rfl, (ue (ue (ue (ue (ue rfl rfl) rfl) rfl) rfl) rfl), (K147.st (tr5 p150 p156 p164 p167 p170) rfl), A170, (A14.st (tr9 p18 p21 p133 p142 p150 p156 p164 p167 p170) rfl), (A7.st (tr10 p11 p18 p21 p133 p142 p150 p156 p164 p167 p170) rfl), (D167.st p170 rfl)⟩
 rintro y27 _ _ ⟨s175, _, vy27_0, by27_0, rfl, rfl, Ky27, Ay27_0, By27_b5, By27_b3, Dy27_0⟩
 refine Xb rfl (dn (sr (Yl (es := [w0_0, (iI a0.Root)]) By27_b3 u24 z24 rfl ?_)))
 refine cl' rfl func7 rfl (laws_toTree.calls a0 s175.w (mm [0] s175) w0_0 (A0_0.kp Ky27)) ?_
 rintro r181 _ w181 m181 ⟨v181_0, rfl, f181_0, ky181⟩
 obtain ⟨s182, rfl, p182, n182⟩ := nwx s175 w181 59 ky181
 refine al' (cs := [(.slice none 0 0), (iI 0)]) 60 rfl o33 rfl (fun b184 s184 p184 B184 => ?_)
 have A186 := (ap33 (f181_0.c n182)).st p184 rfl
 refine Yk (vs := [v181_0, (iI r181.Root)]) B184 z33 rfl (Xd A186.rd.one (Xd rfl Xt)) rfl (fun s187 p187 B187 => ?_)
 refine dn (sr ?_)
 have A189 := By27_b5.st (Ye p182 p184 p187) rfl
 refine Yl (es := [(iI a1.Kind), (iI a1.N), w1_0, w1_1]) A189 u28 z28 rfl ?_
 have K190 := Ky27.st (Ye p182 p184 p187) rfl
 refine cl' rfl func8 rfl (laws_toItem.calls a1 s187.w (mm [0] s187) w1_0 w1_1 ((Xk (s := s187) A1_0).sub (D := [0]) rfl) (A1_1.kp K190)) ?_
 rintro r192 _ w192 m192 ⟨v192_0, v192_1, rfl, f192_0, ky192⟩
 obtain ⟨s193, rfl, p193, n193⟩ := nwx s187 w192 61 ky192
 obtain ⟨hu192_0_0, Au192_0_1⟩ := ap37 (f192_0.c n193)
 refine al' (cs := [(iI 0), (iI 0), (.float .f64 0), (.slice none 0 0)]) 62 rfl o37 rfl (fun b195 s195 p195 B195 => ?_)
 have A197 := Au192_0_1.st p195 rfl
 refine Yk (vs := [(iI r192.Kind), (iI r192.N), v192_0, v192_1]) B195 z37 rfl (Xd rfl (Xd rfl (Xd (FL.one hu192_0_0) (Xd A197.rd.one Xt)))) rfl (fun s198 p198 B198 => ?_)
 refine dn (sr ?_)
 have A200 := B187.st (Ye p193 p195 p198) rfl
 refine Yl (es := [v181_0, (iI r181.Root)]) A200 u33 z33 rfl (Yl (es := [(iI r192.Kind), (iI r192.N), v192_0, v192_1]) B198 u37 z37 rfl (Xb rfl ?_))
 have A201 := A186.st (Yf p187 p193 p195 p198) rfl
 have A202 := A197.st p198 rfl
 refine cl' rfl func9 rfl (impl_TreeAdd.calls r181 r192 a2 s198.w (mm [59, 61] s198) v181_0 v192_0 v192_1 (A201.rd.sub (D := [59, 61]) rfl) ((Xk (s := s198) hu192_0_0).sub (D := [59, 61]) rfl) (A202.rd.sub (D := [59, 61]) rfl)) ?_
 rintro r203 _ w203 m203 ⟨v203_0, rfl, f203_0, ky203⟩
 obtain ⟨s204, rfl, p204, n204⟩ := nwx s198 w203 63 ky203
 refine Xb rfl (Xb (v := (.agg #[v203_0, (iI r203.1.Root)])) rfl (Xb (v := (.bool r203.2)) rfl (al' (cs := [(.slice none 0 0), (iI 0)]) 64 rfl o33 rfl (fun b206 s206 p206 B206 => ?_))))
 have A208 := (ap33 (f203_0.c n204)).st p206 rfl
 refine Yk (vs := [v203_0, (iI r203.1.Root)]) B206 z33 rfl (Xd A208.rd.one (Xd rfl Xt)) rfl (fun s209 p209 B209 => ?_)
 refine Xb rfl (dn (sq (sr (Yl (es := [v203_0, (iI r203.1.Root)]) B209 u33 z33 rfl ?_))))
 have A211 := Dy27_0.st (tr9 p182 p184 p187 p193 p195 p198 p204 p206 p209) rfl
 refine Yl (es := [vy27_0, (iI y27.2.1)]) A211 u33 z33 rfl ?_
 have A212 := A208.st p209 rfl
 have A213 := Ay27_0.st (tr9 p182 p184 p187 p193 p195 p198 p204 p206 p209) rfl
 refine clV 65 rfl func10 rfl (laws_eqTree.calls r203.1 (Tree.mk y27.1 y27.2.1) s209.w (mm [63, 44] s209) v203_0 vy27_0 (A212.rd.sub (D := [63, 44]) rfl) (A213.rd.sub (D := [63, 44]) rfl)) (fun r214 s215 p215 n215 => ?_)
 refine Xb rfl (Xb rfl (jy [53, 54, 55, 56, 57] [] 57 (.bool ((!r214) || (!(r203.2 == y27.2.2)))) rfl (fun Kg216 => ?_) (fun j216 => ?_)))
 ·
  rcases bft (!r214) with hb216 | hb216
  ·
   exact sbT hb216 (Xr rfl (Xr rfl (Xr rfl (Xb rfl (Kg216 _ (Ag.put ((Ag.put ((Ag.put ((Ag.put (Ag.base rfl) rfl)) rfl)) rfl)) rfl) (by rw [hb216]; rfl))))))
  exact sbT hb216 (Xb rfl (Xb rfl (bne_ u4 rfl rfl rfl rfl rfl rfl rfl (Xb rfl (Kg216 _ (Ag.put ((Ag.put ((Ag.put ((Ag.put (Ag.base rfl) rfl)) rfl)) rfl)) rfl) (by rw [hb216]; rfl))))))
 refine dn (cd rfl (fun h217 => ?_) (fun h217 => ?_))
 ·
  refine sr (Xb rfl (dn ?_))
  exact re rfl func3 rfl (Xv rfl Xg) rfl ⟨_, rfl, rfl, z.ky (K190.st (tr7 p193 p195 p198 p204 p206 p209 p215) rfl)⟩
 refine sk (sq (sq (Ya [[], [], [1], [0, 2, 2], [3]] [some 58, some 59, some 60, some 61, some 62] [[10], [3], [59], [58, 60], [61]] [0, 1, 2, 3, 4] ⟨by kernel_rfl, by kernel_rfl, by kernel_rfl⟩ (by kernel_rfl) (fun s219 p219 l219 tb219 zd219 => ?_))))
 refine Xm 2 [some 58] tb219 ((zd219.add 0 58 (.agg #[v181_0, (iI r181.Root)]) rfl).add 1 59 (.agg #[w0_0, (iI a0.Root)]) rfl) (Xa (Xp (es := [w0_0, (iI a0.Root)]) (By27_b3.st (tr11 p182 p184 p187 p193 p195 p198 p204 p206 p209 p215 p219) rfl) u24 z24 rfl) rfl (Xa (Xp (es := [v181_0, (iI r181.Root)]) (A200.st (tr5 p204 p206 p209 p215 p219) rfl) u33 z33 rfl) rfl Xe)) (by kernel_rfl) rfl (fun l224 e224 zd224 => ?_)
 have K227 := K190.st (tr8 p193 p195 p198 p204 p206 p209 p215 p219) rfl
 refine cl' rfl func7 rfl (laws_toTree.calls a0 s219.w (mm [0] s219) w0_0 (A0_0.kp K227)) ?_
 rintro r229 _ w229 m229 ⟨v229_0, rfl, f229_0, ky229⟩
 obtain ⟨s230, rfl, p230, n230⟩ := nwx s219 w229 66 ky229
 refine Xh (L' := [0]) (D' := [1, 2]) zd224 rfl (fun zd232 => ?_)
 refine Xu [3, 4] tb219 zd232 (Xa (Xp (es := [v181_0, (iI r181.Root)]) (A200.st (tr6 p204 p206 p209 p215 p219 p230) rfl) u33 z33 rfl) rfl Xe) (by kernel_rfl) (by decide) ?_
 have A234 := A201.st (tr6 p204 p206 p209 p215 p219 p230) rfl
 refine clV 67 rfl func10 rfl (laws_eqTree.calls r181 r229 s230.w (mm [59, 66] s230) v181_0 v229_0 (A234.rd.sub (D := [59, 66]) rfl) ((ap33 (f229_0.c n230)).rd.sub (D := [59, 66]) rfl)) (fun r235 s236 p236 n236 => ?_)
 refine Xb rfl (dn (cd rfl (fun h237 => ?_) (fun h237 => ?_)))
 ·
  refine sr (Xb rfl (dn ?_))
  exact re rfl func3 rfl (Xv rfl Xg) rfl ⟨_, rfl, rfl, z.ky (K227.st (Xo p230 p236) rfl)⟩
 refine sk (sq (sq (Ya [[], [], [1], [0, 2, 2], [3]] [some 63, some 64, some 65, some 66, some 67] [[11], [4], [64], [63, 65], [66]] [0, 1, 2, 3, 4] ⟨by kernel_rfl, by kernel_rfl, by kernel_rfl⟩ (by kernel_rfl) (fun s239 p239 l239 tb239 zd239 => ?_))))
 refine Xm 2 [some 63] tb239 ((zd239.add 0 63 (.agg #[(iI r192.Kind), (iI r192.N), v192_0, v192_1]) rfl).add 1 64 (.agg #[(iI a1.Kind), (iI a1.N), w1_0, w1_1]) rfl) (Xa (Xp (es := [(iI a1.Kind), (iI a1.N), w1_0, w1_1]) (A189.st (tr11 p193 p195 p198 p204 p206 p209 p215 p219 p230 p236 p239) rfl) u28 z28 rfl) rfl (Xa (Xp (es := [(iI r192.Kind), (iI r192.N), v192_0, v192_1]) (B198.st (tr8 p204 p206 p209 p215 p219 p230 p236 p239) rfl) u37 z37 rfl) rfl Xe)) (by kernel_rfl) rfl (fun l244 e244 zd244 => ?_)
 have K247 := K227.st (Ye p230 p236 p239) rfl
 refine cl' rfl func8 rfl (laws_toItem.calls a1 s239.w (mm [0] s239) w1_0 w1_1 ((Xk (s := s239) A1_0).sub (D := [0]) rfl) (A1_1.kp K247)) ?_
 rintro r249 _ w249 m249 ⟨v249_0, v249_1, rfl, f249_0, ky249⟩
 obtain ⟨s250, rfl, p250, n250⟩ := nwx s239 w249 68 ky249
 obtain ⟨hu249_0_0, Au249_0_1⟩ := ap37 (f249_0.c n250)
 refine Xh (L' := [0]) (D' := [1, 2]) zd244 rfl (fun zd252 => ?_)
 refine Xu [3, 4] tb239 zd252 (Xa (Xp (es := [(iI r192.Kind), (iI r192.N), v192_0, v192_1]) (B198.st (tr9 p204 p206 p209 p215 p219 p230 p236 p239 p250) rfl) u37 z37 rfl) rfl Xe) (by kernel_rfl) (by decide) ?_
 have A254 := A202.st (tr9 p204 p206 p209 p215 p219 p230 p236 p239 p250) rfl
 refine clV 69 rfl func11 rfl (laws_eqItem.calls r192 r249 s250.w (mm [61, 68] s250) v192_0 v192_1 v249_0 v249_1 ((Xk (s := s250) hu192_0_0).sub (D := [61, 68]) rfl) (A254.rd.sub (D := [61, 68]) rfl) ((Xk (s := s250) hu249_0_0).sub (D := [61, 68]) rfl) (Au249_0_1.rd.sub (D := [61, 68]) rfl)) (fun r255 s256 p256 n256 => ?_)
 refine Xb rfl (dn (cd rfl (fun h257 => ?_) (fun h257 => ?_)))
 ·
  refine sr (Xb rfl (dn ?_))
  exact re rfl func3 rfl (Xv rfl Xg) rfl ⟨_, rfl, rfl, z.ky (K247.st (Xo p250 p256) rfl)⟩
 refine sk (sr (Xb rfl (dn (sr ?_))))
 refine Yl (es := [v181_0, (iI r181.Root)]) (A200.st (tr10 p204 p206 p209 p215 p219 p230 p236 p239 p250 p256) rfl) u33 z33 rfl (Xb rfl ?_)
 obtain ⟨os260, ho260, hn260, hc260⟩ := A234.st (Yf p236 p239 p250 p256) rfl
 refine cl' rfl func12 rfl (laws_markTree.calls r181 (1 : Int) s256.w (mm [] s256) v181_0 os260 ho260 hn260 (apart_of hc260 rfl)) ?_
 rintro r260 _ w260 m260 ⟨rfl, w260_, ky260⟩
 obtain ⟨s262, rfl, p262, A262⟩ := nwo 70 hc260 ky260 w260_
 refine Xb rfl (dn (sr ?_))
 refine Yl (es := [(iI r192.Kind), (iI r192.N), v192_0, v192_1]) (B198.st (tr11 p204 p206 p209 p215 p219 p230 p236 p239 p250 p256 p262) rfl) u37 z37 rfl (Xb rfl ?_)
 obtain ⟨os265, ho265, hn265, hc265⟩ := A254.st (Xo p256 p262) rfl
 refine cl' rfl func13 rfl (laws_markItem.calls r192 r260.1 s262.w (mm [] s262) v192_0 v192_1 (Xk (s := s262) hu192_0_0) os265 ho265 hn265 (apart_of hc265 rfl)) ?_
 rintro r265 _ w265 m265 ⟨rfl, w265_, ky265⟩
 obtain ⟨s267, rfl, p267, A267⟩ := nwo 71 hc265 ky265 w265_
 refine Xb rfl (dn (sq (sr (Xb rfl (Xb rfl (Xb rfl (ji [8, 9, 10, 11, 12] (fun (y269 : Bool) e w => ∃ (s : St) (e0 : Env), w = s.w ∧ e = upd (upd (upd (upd (upd (upd (upd (upd e0 2 (iI a2)) 3 (pB b3)) 4 (pB b5)) 8 (pB by27_0)) 9 (.bool y27.2.2)) 12 (pB b206)) 13 (.bool r203.2)) 81 (.bool y269) ∧ Kp s0 s ∧ BlF s b206 33 [v203_0, (iI r203.1.Root)] 64 ∧ BlF s by27_0 33 [vy27_0, (iI y27.2.1)] 45 ∧ BlF s b5 28 [(iI a1.Kind), (iI a1.N), w1_0, w1_1] 41 ∧ BlF s b3 24 [w0_0, (iI a0.Root)] 40 ∧ OwF Yp s [v203_0] r203.1.Nodes 63 ∧ OwF Yp s [vy27_0] y27.1 44) (fun Gj269 Kj269 => ?_) ?_)))))))
 ·
  rcases bft (decide (r265.1 < (0 : Int))) with hb269 | hb269
  ·
   refine sbT hb269 ?_
   rw [if_pos hb269]
   refine Xr rfl (Xr rfl (Xr rfl (Xr rfl (Xb rfl ?_))))
   exact Kj269 _ _ _ ⟨s267, _, rfl, (ue (ue (ue (ue (ue (ue (ue (ue rfl rfl) rfl) rfl) rfl) rfl) rfl) rfl) rfl), (K247.st (Yf p250 p256 p262 p267) rfl), (B209.st (tr9 p215 p219 p230 p236 p239 p250 p256 p262 p267) rfl), (A211.st (tr9 p215 p219 p230 p236 p239 p250 p256 p262 p267) rfl), (A189.st (Yf (Xy p193 p195 p198 p204 p206 p209 p215 p219 p230 p236 p239 p250) p256 p262 p267) rfl), (By27_b3.st (tr7 (Xy p182 p184 p187 p193 p195 p198 p204 p206 p209 p215 p219 p230) p236 p239 p250 p256 p262 p267) rfl), (A212.st (tr9 p215 p219 p230 p236 p239 p250 p256 p262 p267) rfl), (A213.st (tr9 p215 p219 p230 p236 p239 p250 p256 p262 p267) rfl)⟩
  refine sbT hb269 ?_
  rw [if_neg (by rw [hb269]; decide)]
  have A277 := B209.st (tr9 p215 p219 p230 p236 p239 p250 p256 p262 p267) rfl
  refine Yl (es := [v203_0, (iI r203.1.Root)]) A277 u33 z33 rfl ?_
  have A278 := A211.st (tr9 p215 p219 p230 p236 p239 p250 p256 p262 p267) rfl
  refine Yl (es := [vy27_0, (iI y27.2.1)]) A278 u33 z33 rfl ?_
  have A279 := A212.st (tr9 p215 p219 p230 p236 p239 p250 p256 p262 p267) rfl
  have A280 := A213.st (tr9 p215 p219 p230 p236 p239 p250 p256 p262 p267) rfl
  refine clV 72 rfl func10 rfl (laws_eqTree.calls r203.1 (Tree.mk y27.1 y27.2.1) s267.w (mm [63, 44] s267) v203_0 vy27_0 (A279.rd.sub (D := [63, 44]) rfl) (A280.rd.sub (D := [63, 44]) rfl)) (fun r281 s282 p282 n282 => ?_)
  refine Xb rfl (Xb rfl ?_)
  exact Kj269 _ _ _ ⟨s282, _, rfl, (ue (ue (ue (ue (ue (ue (ue (ue rfl rfl) rfl) rfl) rfl) rfl) rfl) rfl) rfl), (K247.st (tr5 p250 p256 p262 p267 p282) rfl), (A277.st p282 rfl), (A278.st p282 rfl), (A189.st (tr5 (Xy p193 p195 p198 p204 p206 p209 p215 p219 p230 p236 p239 p250) p256 p262 p267 p282) rfl), (By27_b3.st (tr8 (Xy p182 p184 p187 p193 p195 p198 p204 p206 p209 p215 p219 p230) p236 p239 p250 p256 p262 p267 p282) rfl), (A279.st p282 rfl), (A280.st p282 rfl)⟩
 rintro y269 _ _ ⟨s290, _, rfl, rfl, Ky269, By269_b206, By269_by27_0, By269_b5, By269_b3, Cy269_205, Cy269_176⟩
 refine Xb rfl (jy [82, 83, 84, 85, 86] [] 86 (.bool (y269 || (!(r203.2 == y27.2.2)))) rfl (fun Kg295 => ?_) (fun j295 => ?_))
 ·
  rcases bft y269 with hb295 | hb295
  ·
   exact sbT hb295 (Xr rfl (Xr rfl (Xr rfl (Xb rfl (Kg295 _ (Ag.put ((Ag.put ((Ag.put ((Ag.put (Ag.base rfl) rfl)) rfl)) rfl)) rfl) (by rw [hb295]; rfl))))))
  exact sbT hb295 (Xb rfl (Xb rfl (bne_ u4 rfl rfl rfl rfl rfl rfl rfl (Xb rfl (Kg295 _ (Ag.put ((Ag.put ((Ag.put ((Ag.put (Ag.base rfl) rfl)) rfl)) rfl)) rfl) (by rw [hb295]; rfl))))))
 refine dn (cd rfl (fun h296 => ?_) (fun h296 => ?_))
 ·
  exact sr (Xb rfl (dn (re rfl func3 rfl (Xv rfl Xg) rfl ⟨_, rfl, rfl, z.ky Ky269⟩)))
 refine sk (sr (Xb rfl (dn (sr (Yl (es := [v203_0, (iI r203.1.Root)]) By269_b206 u33 z33 rfl (Xb rfl ?_))))))
 obtain ⟨os297, ho297, hn297, hc297⟩ := Cy269_205
 refine cl' rfl func12 rfl (laws_markTree.calls r203.1 (1 : Int) s290.w (mm [] s290) v203_0 os297 ho297 hn297 (apart_of hc297 rfl)) ?_
 rintro r297 _ w297 m297 ⟨rfl, w297_, ky297⟩
 obtain ⟨s298, rfl, p298, A298⟩ := nwo 73 hc297 ky297 w297_
 refine Xb rfl (dn (sr (Xb rfl (dn (sr ?_)))))
 have A300 := By269_b206.st p298 rfl
 refine Yl (es := [v203_0, (iI r203.1.Root)]) A300 u33 z33 rfl (Xb rfl (clV 74 rfl func14 rfl (laws_heldTree.calls (Tree.mk r297.2 r203.1.Root) (1 : Int) s298.w (mm [63] s298) v203_0 A298.rd) (fun r301 s302 p302 n302 => ?_)))
 refine Xb rfl (dn (sq (sr (Xb rfl (Xb rfl (dn (cd rfl (fun h303 => ?_) (fun h303 => ?_))))))))
 ·
  refine sr (Xb rfl (dn ?_))
  exact re rfl func3 rfl (Xv rfl Xg) rfl ⟨_, rfl, rfl, z.ky (Ky269.st (Xo p298 p302) rfl)⟩
 refine sk (sq (sr (Xb rfl (Xb rfl (Xb rfl (dn (cd rfl (fun h305 => ?_) (fun h305 => ?_))))))))
 ·
  refine sr (Xb rfl (dn ?_))
  exact re rfl func3 rfl (Xv rfl Xg) rfl ⟨_, rfl, rfl, z.ky (Ky269.st (Xo p298 p302) rfl)⟩
 refine sk (sq (Ya [[], [0], [], [2, 1], [], [1, 3, 4, 3], [5], [6], [6], [], [9, 7, 5, 0, 1, 2, 3, 4, 5, 6, 7, 9], [8, 10, 0, 1, 2, 3, 4, 5, 6, 7, 8, 9, 10]] [some 99, some 100, some 101, some 102, some 103, some 104, some 98, some 105, some 106, some 17, none, some 18] [[3], [99], [4], [101], [2], [100, 102, 103], [104], [98], [98], [], [17, 105], [106]] [0, 1, 2, 3, 4, 5, 6, 7, 10, 8, 9, 11] ⟨by kernel_rfl, by kernel_rfl, by kernel_rfl⟩ (by kernel_rfl) (fun s307 p307 l307 tb307 zd307 => ?_)))
 refine ji [11] (fun (y313 : (List Node) × Int × Bool) e w => ∃ (s : St) (e0 : Env) (vy313_0 : Value) (by313_0 : Nat), w = s.w ∧ e = upd (upd (upd (upd (upd (upd e0 8 (pB by27_0)) 9 (.bool y27.2.2)) 12 (pB b206)) 15 (iI r297.1)) 17 (pB by313_0)) 106 (.bool y313.2.2) ∧ Kp s0 s ∧ OwF Yp s [vy313_0] y313.1 75 ∧ BlF s b206 33 [v203_0, (iI r203.1.Root)] 64 ∧ BlF s by27_0 33 [vy27_0, (iI y27.2.1)] 45 ∧ BlF s by313_0 33 [vy313_0, (iI y313.2.1)] 76 ∧ OwF Yp s [v203_0] r297.2 63 ∧ OwF Yp s [vy27_0] y27.1 44) (fun Gj313 Kj313 => ?_) ?_
 ·
  refine zstep2 1 9 [some 103, some 101] [some 103, some 101, some 99] tb307 (((zd307.add 0 99 (.agg #[w0_0, (iI a0.Root)]) rfl).add 2 101 (.agg #[(iI a1.Kind), (iI a1.N), w1_0, w1_1]) rfl).add 4 103 (iI a2) rfl) (Xa (Xc rfl) rfl (Xa (Xp (es := [(iI a1.Kind), (iI a1.N), w1_0, w1_1]) (By269_b5.st (Ye p298 p302 p307) rfl) u28 z28 rfl) rfl (Xa (Xp (es := [w0_0, (iI a0.Root)]) (By269_b3.st (Ye p298 p302 p307) rfl) u24 z24 rfl) rfl Xe))) (by kernel_rfl) (by kernel_rfl) (fun l314 e314 zd314 => ?_) (fun l315 e315 zd315 => ?_)
  ·
   have K318 := Ky269.st (Ye p298 p302 p307) rfl
   refine cl' rfl func7 rfl (laws_toTree.calls a0 s307.w (mm [0] s307) w0_0 (A0_0.kp K318)) ?_
   rintro r320 _ w320 m320 ⟨v320_0, rfl, f320_0, ky320⟩
   obtain ⟨s321, rfl, p321, n321⟩ := nwx s307 w320 77 ky320
   have Au320_0_0 := ap33 (f320_0.c n321)
   refine Xh (L' := [4, 2]) (D' := [0, 1]) zd314 rfl (fun zd323 => ?_)
   refine zstep2 3 9 [some 103] [some 103, some 101] tb307 zd323 (Xa (Xc rfl) rfl (Xa (Xp (es := [(iI a1.Kind), (iI a1.N), w1_0, w1_1]) (By269_b5.st (Yf p298 p302 p307 p321) rfl) u28 z28 rfl) rfl Xe)) (by kernel_rfl) (by kernel_rfl) (fun l324 e324 zd324 => ?_) (fun l325 e325 zd325 => ?_)
   ·
    have K327 := K318.st p321 rfl
    refine cl' rfl func8 rfl (laws_toItem.calls a1 s321.w (mm [0] s321) w1_0 w1_1 ((Xk (s := s321) A1_0).sub (D := [0]) rfl) (A1_1.kp K327)) ?_
    rintro r329 _ w329 m329 ⟨v329_0, v329_1, rfl, f329_0, ky329⟩
    obtain ⟨s330, rfl, p330, n330⟩ := nwx s321 w329 78 ky329
    obtain ⟨hu329_0_0, Au329_0_1⟩ := ap37 (f329_0.c n330)
    refine Xh (L' := [4]) (D' := [2, 3, 0, 1]) zd324 rfl (fun zd332 => ?_)
    refine zstep2 5 9 [] [some 103] tb307 zd332 (Xa (Xc rfl) rfl Xe) (by kernel_rfl) (by kernel_rfl) (fun l333 e333 zd333 => ?_) (fun l334 e334 zd334 => ?_)
    ·
     refine cl' rfl func9 rfl (impl_TreeAdd.calls r320 r329 a2 s330.w (mm [77, 78] s330) v320_0 v329_0 v329_1 ((Au320_0_0.st p330 rfl).rd.sub (D := [77, 78]) rfl) ((Xk (s := s330) hu329_0_0).sub (D := [77, 78]) rfl) (Au329_0_1.rd.sub (D := [77, 78]) rfl)) ?_
     rintro r336 _ w336 m336 ⟨v336_0, rfl, f336_0, ky336⟩
     obtain ⟨s337, rfl, p337, n337⟩ := nwx s330 w336 79 ky336
     refine Xh (L' := []) (D' := [4, 5, 2, 3, 0, 1]) zd333 rfl (fun zd339 => ?_)
     refine Xm 9 [some 106, some 105, some 98] tb307 (((zd339.add 6 98 (.tuple #[(.agg #[v336_0, (iI r336.1.Root)]), (.bool r336.2)]) rfl).add 7 105 (.agg #[v336_0, (iI r336.1.Root)]) rfl).add 8 106 (.bool r336.2) rfl) (Xa (Xc (v := (.bool r336.2)) rfl) rfl (Xa (Xc (v := (.agg #[v336_0, (iI r336.1.Root)])) rfl) rfl (Xa (Xc rfl) rfl Xe))) (by kernel_rfl) rfl (fun l343 e343 zd343 => ?_)
     refine al' (cs := [(.slice none 0 0), (iI 0)]) 80 rfl o33 rfl (fun b344 s344 p344 B344 => ?_)
     refine Xh (L' := [8, 7, 6]) (D' := [9, 4, 5, 2, 3, 0, 1]) zd343 rfl (fun zd346 => ?_)
     refine Xm 10 [some 106] tb307 zd346 (Xa (Xc (v := (.bool r336.2)) rfl) rfl (Xa (Xc (v := (.agg #[v336_0, (iI r336.1.Root)])) rfl) rfl (Xa (Xc rfl) rfl Xe))) (by kernel_rfl) rfl (fun l347 e347 zd347 => ?_)
     have A348 := (ap33 (f336_0.c n337)).st p344 rfl
     refine Yk (vs := [v336_0, (iI r336.1.Root)]) B344 z33 rfl (Xd A348.rd.one (Xd rfl Xt)) rfl (fun s349 p349 B349 => ?_)
     refine zdone0 (L' := [8]) (D' := [7, 6, 7, 10, 9, 4, 5, 2, 3, 0, 1]) zd347 rfl rfl rfl (fun zd351 => ?_)
     refine Xu [11] tb307 zd351 (Xa (Xc (v := (.bool r336.2)) rfl) rfl Xe) (by kernel_rfl) (by decide) ?_
     obtain ⟨s352, hw352, p352, D352⟩ := BlF.rc B349 76 rfl
     rw [hw352]
     obtain ⟨s355, hw355, p355, A355⟩ := (A348.st (Xo p349 p352) rfl).rc 75 rfl
     rw [hw355]
     exact Kj313 _ _ _ ⟨s355, _, v336_0, b344, rfl, (ue (ue (ue (ue (ue (ue rfl rfl) rfl) rfl) rfl) rfl) rfl), (K327.st (tr6 p330 p337 p344 p349 p352 p355) rfl), A355, (A300.st (tr9 p302 p307 p321 p330 p337 p344 p349 p352 p355) rfl), (By269_by27_0.st (tr10 p298 p302 p307 p321 p330 p337 p344 p349 p352 p355) rfl), (D352.st p355 rfl), (A298.st (tr9 p302 p307 p321 p330 p337 p344 p349 p352 p355) rfl), (Cy269_176.st (tr10 p298 p302 p307 p321 p330 p337 p344 p349 p352 p355) rfl)⟩
    refine al' (cs := [(.slice none 0 0), (iI 0)]) 81 rfl o33 rfl (fun b362 s362 p362 B362 => ?_)
    refine Xh (L' := [4]) (D' := [9, 2, 3, 0, 1]) zd334 rfl (fun zd364 => ?_)
    refine Xm 5 [] tb307 zd364 (Xa (Xc rfl) rfl Xe) (by kernel_rfl) rfl (fun l365 e365 zd365 => ?_)
    refine cl' rfl func9 rfl (impl_TreeAdd.calls r320 r329 a2 s362.w (mm [77, 78] s362) v320_0 v329_0 v329_1 ((Au320_0_0.st (Xo p330 p362) rfl).rd.sub (D := [77, 78]) rfl) ((Xk (s := s362) hu329_0_0).sub (D := [77, 78]) rfl) ((Au329_0_1.st p362 rfl).rd.sub (D := [77, 78]) rfl)) ?_
    rintro r368 _ w368 m368 ⟨v368_0, rfl, f368_0, ky368⟩
    obtain ⟨s369, rfl, p369, n369⟩ := nwx s362 w368 82 ky368
    have Au368_0_0 := ap33 (f368_0.c n369)
    refine Xh (L' := []) (D' := [4, 5, 9, 2, 3, 0, 1]) zd365 rfl (fun zd371 => ?_)
    refine Xm 10 [some 106] tb307 (((zd371.add 6 98 (.tuple #[(.agg #[v368_0, (iI r368.1.Root)]), (.bool r368.2)]) rfl).add 7 105 (.agg #[v368_0, (iI r368.1.Root)]) rfl).add 8 106 (.bool r368.2) rfl) (Xa (Xc (v := (.bool r368.2)) rfl) rfl (Xa (Xc (v := (.agg #[v368_0, (iI r368.1.Root)])) rfl) rfl (Xa (Xc rfl) rfl Xe))) (by kernel_rfl) rfl (fun l375 e375 zd375 => ?_)
    refine Yk (vs := [v368_0, (iI r368.1.Root)]) (B362.st p369 rfl) z33 rfl (Xd Au368_0_0.rd.one (Xd rfl Xt)) rfl (fun s377 p377 B377 => ?_)
    refine zdone0 (L' := [8]) (D' := [7, 6, 7, 10, 4, 5, 9, 2, 3, 0, 1]) zd375 rfl rfl rfl (fun zd379 => ?_)
    refine Xu [11] tb307 zd379 (Xa (Xc (v := (.bool r368.2)) rfl) rfl Xe) (by kernel_rfl) (by decide) ?_
    obtain ⟨s380, hw380, p380, D380⟩ := BlF.rc B377 76 rfl
    rw [hw380]
    obtain ⟨s383, hw383, p383, A383⟩ := (Au368_0_0.st (Xo p377 p380) rfl).rc 75 rfl
    rw [hw383]
    exact Kj313 _ _ _ ⟨s383, _, v368_0, b362, rfl, (ue (ue (ue (ue (ue (ue rfl rfl) rfl) rfl) rfl) rfl) rfl), (K327.st (tr6 p330 p362 p369 p377 p380 p383) rfl), A383, (A300.st (tr9 p302 p307 p321 p330 p362 p369 p377 p380 p383) rfl), (By269_by27_0.st (tr10 p298 p302 p307 p321 p330 p362 p369 p377 p380 p383) rfl), (D380.st p383 rfl), (A298.st (tr9 p302 p307 p321 p330 p362 p369 p377 p380 p383) rfl), (Cy269_176.st (tr10 p298 p302 p307 p321 p330 p362 p369 p377 p380 p383) rfl)⟩
   refine al' (cs := [(.slice none 0 0), (iI 0)]) 83 rfl o33 rfl (fun b390 s390 p390 B390 => ?_)
   refine Xh (L' := [4, 2]) (D' := [9, 0, 1]) zd325 rfl (fun zd392 => ?_)
   refine Xm 3 [some 103] tb307 zd392 (Xa (Xc rfl) rfl (Xa (Xp (es := [(iI a1.Kind), (iI a1.N), w1_0, w1_1]) (By269_b5.st (tr5 p298 p302 p307 p321 p390) rfl) u28 z28 rfl) rfl Xe)) (by kernel_rfl) rfl (fun l393 e393 zd393 => ?_)
   have K395 := K318.st (Xo p321 p390) rfl
   refine cl' rfl func8 rfl (laws_toItem.calls a1 s390.w (mm [0] s390) w1_0 w1_1 ((Xk (s := s390) A1_0).sub (D := [0]) rfl) (A1_1.kp K395)) ?_
   rintro r397 _ w397 m397 ⟨v397_0, v397_1, rfl, f397_0, ky397⟩
   obtain ⟨s398, rfl, p398, n398⟩ := nwx s390 w397 84 ky397
   obtain ⟨hu397_0_0, Au397_0_1⟩ := ap37 (f397_0.c n398)
   refine Xh (L' := [4]) (D' := [2, 3, 9, 0, 1]) zd393 rfl (fun zd400 => ?_)
   refine Xm 5 [] tb307 zd400 (Xa (Xc rfl) rfl Xe) (by kernel_rfl) rfl (fun l401 e401 zd401 => ?_)
   refine cl' rfl func9 rfl (impl_TreeAdd.calls r320 r397 a2 s398.w (mm [77, 84] s398) v320_0 v397_0 v397_1 ((Au320_0_0.st (Xo p390 p398) rfl).rd.sub (D := [77, 84]) rfl) ((Xk (s := s398) hu397_0_0).sub (D := [77, 84]) rfl) (Au397_0_1.rd.sub (D := [77, 84]) rfl)) ?_
   rintro r403 _ w403 m403 ⟨v403_0, rfl, f403_0, ky403⟩
   obtain ⟨s404, rfl, p404, n404⟩ := nwx s398 w403 85 ky403
   have Au403_0_0 := ap33 (f403_0.c n404)
   refine Xh (L' := []) (D' := [4, 5, 2, 3, 9, 0, 1]) zd401 rfl (fun zd406 => ?_)
   refine Xm 10 [some 106] tb307 (((zd406.add 6 98 (.tuple #[(.agg #[v403_0, (iI r403.1.Root)]), (.bool r403.2)]) rfl).add 7 105 (.agg #[v403_0, (iI r403.1.Root)]) rfl).add 8 106 (.bool r403.2) rfl) (Xa (Xc (v := (.bool r403.2)) rfl) rfl (Xa (Xc (v := (.agg #[v403_0, (iI r403.1.Root)])) rfl) rfl (Xa (Xc rfl) rfl Xe))) (by kernel_rfl) rfl (fun l410 e410 zd410 => ?_)
   refine Yk (vs := [v403_0, (iI r403.1.Root)]) (B390.st (Xo p398 p404) rfl) z33 rfl (Xd Au403_0_0.rd.one (Xd rfl Xt)) rfl (fun s412 p412 B412 => ?_)
   refine zdone0 (L' := [8]) (D' := [7, 6, 7, 10, 4, 5, 2, 3, 9, 0, 1]) zd410 rfl rfl rfl (fun zd414 => ?_)
   refine Xu [11] tb307 zd414 (Xa (Xc (v := (.bool r403.2)) rfl) rfl Xe) (by kernel_rfl) (by decide) ?_
   obtain ⟨s415, hw415, p415, D415⟩ := BlF.rc B412 76 rfl
   rw [hw415]
   obtain ⟨s418, hw418, p418, A418⟩ := (Au403_0_0.st (Xo p412 p415) rfl).rc 75 rfl
   rw [hw418]
   exact Kj313 _ _ _ ⟨s418, _, v403_0, b390, rfl, (ue (ue (ue (ue (ue (ue rfl rfl) rfl) rfl) rfl) rfl) rfl), (K395.st (tr5 p398 p404 p412 p415 p418) rfl), A418, (A300.st (tr9 p302 p307 p321 p390 p398 p404 p412 p415 p418) rfl), (By269_by27_0.st (tr10 p298 p302 p307 p321 p390 p398 p404 p412 p415 p418) rfl), (D415.st p418 rfl), (A298.st (tr9 p302 p307 p321 p390 p398 p404 p412 p415 p418) rfl), (Cy269_176.st (tr10 p298 p302 p307 p321 p390 p398 p404 p412 p415 p418) rfl)⟩
  refine al' (cs := [(.slice none 0 0), (iI 0)]) 86 rfl o33 rfl (fun b425 s425 p425 B425 => ?_)
  refine Xh (L' := [4, 2, 0]) (D' := [9]) zd315 rfl (fun zd427 => ?_)
  refine Xm 1 [some 103, some 101] tb307 zd427 (Xa (Xc rfl) rfl (Xa (Xp (es := [(iI a1.Kind), (iI a1.N), w1_0, w1_1]) (By269_b5.st (Yf p298 p302 p307 p425) rfl) u28 z28 rfl) rfl (Xa (Xp (es := [w0_0, (iI a0.Root)]) (By269_b3.st (Yf p298 p302 p307 p425) rfl) u24 z24 rfl) rfl Xe))) (by kernel_rfl) rfl (fun l428 e428 zd428 => ?_)
  have K431 := Ky269.st (Yf p298 p302 p307 p425) rfl
  refine cl' rfl func7 rfl (laws_toTree.calls a0 s425.w (mm [0] s425) w0_0 (A0_0.kp K431)) ?_
  rintro r433 _ w433 m433 ⟨v433_0, rfl, f433_0, ky433⟩
  obtain ⟨s434, rfl, p434, n434⟩ := nwx s425 w433 87 ky433
  refine Xh (L' := [4, 2]) (D' := [0, 1, 9]) zd428 rfl (fun zd436 => ?_)
  refine Xm 3 [some 103] tb307 zd436 (Xa (Xc rfl) rfl (Xa (Xp (es := [(iI a1.Kind), (iI a1.N), w1_0, w1_1]) (By269_b5.st (tr5 p298 p302 p307 p425 p434) rfl) u28 z28 rfl) rfl Xe)) (by kernel_rfl) rfl (fun l437 e437 zd437 => ?_)
  have K439 := K431.st p434 rfl
  refine cl' rfl func8 rfl (laws_toItem.calls a1 s434.w (mm [0] s434) w1_0 w1_1 ((Xk (s := s434) A1_0).sub (D := [0]) rfl) (A1_1.kp K439)) ?_
  rintro r441 _ w441 m441 ⟨v441_0, v441_1, rfl, f441_0, ky441⟩
  obtain ⟨s442, rfl, p442, n442⟩ := nwx s434 w441 88 ky441
  obtain ⟨hu441_0_0, Au441_0_1⟩ := ap37 (f441_0.c n442)
  refine Xh (L' := [4]) (D' := [2, 3, 0, 1, 9]) zd437 rfl (fun zd444 => ?_)
  refine Xm 5 [] tb307 zd444 (Xa (Xc rfl) rfl Xe) (by kernel_rfl) rfl (fun l445 e445 zd445 => ?_)
  refine cl' rfl func9 rfl (impl_TreeAdd.calls r433 r441 a2 s442.w (mm [87, 88] s442) v433_0 v441_0 v441_1 (((ap33 (f433_0.c n434)).st p442 rfl).rd.sub (D := [87, 88]) rfl) ((Xk (s := s442) hu441_0_0).sub (D := [87, 88]) rfl) (Au441_0_1.rd.sub (D := [87, 88]) rfl)) ?_
  rintro r447 _ w447 m447 ⟨v447_0, rfl, f447_0, ky447⟩
  obtain ⟨s448, rfl, p448, n448⟩ := nwx s442 w447 89 ky447
  have Au447_0_0 := ap33 (f447_0.c n448)
  refine Xh (L' := []) (D' := [4, 5, 2, 3, 0, 1, 9]) zd445 rfl (fun zd450 => ?_)
  refine Xm 10 [some 106] tb307 (((zd450.add 6 98 (.tuple #[(.agg #[v447_0, (iI r447.1.Root)]), (.bool r447.2)]) rfl).add 7 105 (.agg #[v447_0, (iI r447.1.Root)]) rfl).add 8 106 (.bool r447.2) rfl) (Xa (Xc (v := (.bool r447.2)) rfl) rfl (Xa (Xc (v := (.agg #[v447_0, (iI r447.1.Root)])) rfl) rfl (Xa (Xc rfl) rfl Xe))) (by kernel_rfl) rfl (fun l454 e454 zd454 => ?_)
  refine Yk (vs := [v447_0, (iI r447.1.Root)]) (B425.st (Ye p434 p442 p448) rfl) z33 rfl (Xd Au447_0_0.rd.one (Xd rfl Xt)) rfl (fun s456 p456 B456 => ?_)
  refine zdone0 (L' := [8]) (D' := [7, 6, 7, 10, 4, 5, 2, 3, 0, 1, 9]) zd454 rfl rfl rfl (fun zd458 => ?_)
  refine Xu [11] tb307 zd458 (Xa (Xc (v := (.bool r447.2)) rfl) rfl Xe) (by kernel_rfl) (by decide) ?_
  obtain ⟨s459, hw459, p459, D459⟩ := BlF.rc B456 76 rfl
  rw [hw459]
  obtain ⟨s462, hw462, p462, A462⟩ := (Au447_0_0.st (Xo p456 p459) rfl).rc 75 rfl
  rw [hw462]
  exact Kj313 _ _ _ ⟨s462, _, v447_0, b425, rfl, (ue (ue (ue (ue (ue (ue rfl rfl) rfl) rfl) rfl) rfl) rfl), (K439.st (tr5 p442 p448 p456 p459 p462) rfl), A462, (A300.st (tr9 p302 p307 p425 p434 p442 p448 p456 p459 p462) rfl), (By269_by27_0.st (tr10 p298 p302 p307 p425 p434 p442 p448 p456 p459 p462) rfl), (D459.st p462 rfl), (A298.st (tr9 p302 p307 p425 p434 p442 p448 p456 p459 p462) rfl), (Cy269_176.st (tr10 p298 p302 p307 p425 p434 p442 p448 p456 p459 p462) rfl)⟩
 rintro y313 _ _ ⟨s469, _, vy313_0, by313_0, rfl, rfl, Ky313, Ay313_0, By313_b206, By313_by27_0, Dy313_0, Cy313_299, Cy313_176⟩
 refine Xb rfl (dn (sq (sr (Yl (es := [vy313_0, (iI y313.2.1)]) Dy313_0 u33 z33 rfl (Yl (es := [vy27_0, (iI y27.2.1)]) By313_by27_0 u33 z33 rfl (clV 90 rfl func10 rfl (laws_eqTree.calls (Tree.mk y313.1 y313.2.1) (Tree.mk y27.1 y27.2.1) s469.w (mm [75, 44] s469) vy313_0 vy27_0 (Ay313_0.rd.sub (D := [75, 44]) rfl) (Cy313_176.rd.sub (D := [75, 44]) rfl)) (fun r474 s475 p475 n475 => ?_)))))))
 refine Xb rfl (Xb rfl (jy [111, 112, 113, 114, 115] [] 115 (.bool ((!r474) || (!(y313.2.2 == y27.2.2)))) rfl (fun Kg476 => ?_) (fun j476 => ?_)))
 ·
  rcases bft (!r474) with hb476 | hb476
  ·
   exact sbT hb476 (Xr rfl (Xr rfl (Xr rfl (Xb rfl (Kg476 _ (Ag.put ((Ag.put ((Ag.put ((Ag.put (Ag.base rfl) rfl)) rfl)) rfl)) rfl) (by rw [hb476]; rfl))))))
  exact sbT hb476 (Xb rfl (Xb rfl (bne_ u4 rfl rfl rfl rfl rfl rfl rfl (Xb rfl (Kg476 _ (Ag.put ((Ag.put ((Ag.put ((Ag.put (Ag.base rfl) rfl)) rfl)) rfl)) rfl) (by rw [hb476]; rfl))))))
 refine dn (cd rfl (fun h477 => ?_) (fun h477 => ?_))
 ·
  refine sr (Xb rfl (dn ?_))
  exact re rfl func3 rfl (Xv rfl Xg) rfl ⟨_, rfl, rfl, z.ky (Ky313.st p475 rfl)⟩
 refine sk (sr (Xb rfl (dn (sr ?_))))
 refine Yl (es := [v203_0, (iI r203.1.Root)]) (By313_b206.st p475 rfl) u33 z33 rfl (Xb rfl ?_)
 refine clV 91 rfl func14 rfl (laws_heldTree.calls (Tree.mk r297.2 r203.1.Root) (1 : Int) s475.w (mm [63] s475) v203_0 (Cy313_299.st p475 rfl).rd) (fun r481 s482 p482 n482 => ?_)
 refine Xb rfl (dn (sq (sr (Xb rfl (Xb rfl (dn (cd rfl (fun h483 => ?_) (fun h483 => ?_))))))))
 ·
  refine sr (Xb rfl (dn ?_))
  exact re rfl func3 rfl (Xv rfl Xg) rfl ⟨_, rfl, rfl, z.ky (Ky313.st (Xo p475 p482) rfl)⟩
 refine sk (sq (sr (Xb rfl (Xb rfl (Xb rfl (dn (cd rfl (fun h485 => ?_) (fun h485 => ?_))))))))
 ·
  refine sr (Xb rfl (dn ?_))
  exact re rfl func3 rfl (Xv rfl Xg) rfl ⟨_, rfl, rfl, z.ky (Ky313.st (Xo p475 p482) rfl)⟩
 refine sk (sr (Xb rfl (dn ?_)))
 exact re rfl func3 rfl (Xv rfl Xg) rfl ⟨_, rfl, rfl, z.ky (Ky313.st (Xo p475 p482) rfl)⟩
end Go.Proofs.YtlpbggnpiogioaaGreat
