/- The functions as models, and that the calls come to what the models tell. -/
import Derived.Test.YtlpbggnpiogioaaGsa
set_option linter.unusedVariables false
set_option linter.unusedSimpArgs false
set_option maxHeartbeats 4000000
set_option maxRecDepth 100000
noncomputable section
namespace Go.Proofs.Ytlpbggnpiogioaa
open Go V Try
def cmp_Compare_int.f (a0 : Int) (a1 : Int) : Option (Int) :=
 ((cmp_isNaN_int.f a0).bind fun r1 => ((cmp_isNaN_int.f a1).bind fun r3 => (if r1 = true then (if r3 = true then (some (0 : Int)) else (some (-1 : Int))) else (if r3 = true then (some (1 : Int)) else (if (decide (a0 < a1)) = true then (some (-1 : Int)) else (if (decide (a0 > a1)) = true then (some (1 : Int)) else (some (0 : Int))))))))
def cmp_Compare_int.Q (w : World) (F : Nat → Prop) (r : Int) (v : Value) (w' : World) : Prop :=
 v = (iI r) ∧ Ky [] w w'
theorem cmp_Compare_int.calls (a0 : Int) (a1 : Int) (w : World) (F : Nat → Prop)   (r : Int) (m : cmp_Compare_int.f a0 a1 = some r) :
  Calls prog 70 #[(iI a0), (iI a1)] w (RT (cmp_Compare_int.Q w F) r) := by
 obtain ⟨s0, rfl, kp0, z⟩ := Xj w F
 refine Xd (args := [(iI a0), (iI a1)]) func70 ntmps70 rfl rfl m ?_
 unfold cmp_Compare_int.f
 refine sr (Xb rfl (dn (sr (Xb rfl (clV 40 rfl func81 rfl (cmp_isNaN_int.calls a0 s0.w (mm [] s0)) (fun r1 s2 p2 n2 => ?_))))))
 refine Xb rfl (dn (sr (Xb rfl (clV 41 rfl func81 rfl (cmp_isNaN_int.calls a1 s2.w (mm [] s2)) (fun r3 s4 p4 n4 => ?_)))))
 refine Xb rfl (dn (sq (sr (Xb rfl (dn (cd rfl (fun h5 => ?_) (fun h5 => ?_)))))))
 ·
  refine sq (sr (Xb rfl (dn (cd rfl (fun h6 => ?_) (fun h6 => ?_)))))
  ·
   refine sr (Xb rfl (dn ?_))
   exact re rfl func70 rfl (Xq rfl Xf) rfl ⟨_, rfl, rfl, z.ky (kp0.st (Xo p2 p4) rfl)⟩
  refine sk (sr (Xb rfl (dn ?_)))
  exact re rfl func70 rfl (Xq rfl Xf) rfl ⟨_, rfl, rfl, z.ky (kp0.st (Xo p2 p4) rfl)⟩
 refine sk (sq (sr (Xb rfl (dn (cd rfl (fun h9 => ?_) (fun h9 => ?_))))))
 ·
  refine sr (Xb rfl (dn ?_))
  exact re rfl func70 rfl (Xq rfl Xf) rfl ⟨_, rfl, rfl, z.ky (kp0.st (Xo p2 p4) rfl)⟩
 refine sk (sq (sr (Xb rfl (Xb rfl (Xb rfl (dn (cd rfl (fun h11 => ?_) (fun h11 => ?_))))))))
 ·
  refine sr (Xb rfl (dn ?_))
  exact re rfl func70 rfl (Xq rfl Xf) rfl ⟨_, rfl, rfl, z.ky (kp0.st (Xo p2 p4) rfl)⟩
 refine sk (sq (sr (Xb rfl (Xb rfl (Xb rfl (dn (cd rfl (fun h13 => ?_) (fun h13 => ?_))))))))
 ·
  refine sr (Xb rfl (dn ?_))
  exact re rfl func70 rfl (Xq rfl Xf) rfl ⟨_, rfl, rfl, z.ky (kp0.st (Xo p2 p4) rfl)⟩
 refine sk (sr (Xb rfl (dn ?_)))
 exact re rfl func70 rfl (Xq rfl Xf) rfl ⟨_, rfl, rfl, z.ky (kp0.st (Xo p2 p4) rfl)⟩
def impl_FloatRank.f (a0 : Nat) : Option (Int) :=
 (if (fcmp .f64 a0 a0 != some .eq) = true then (some (18446744073709551615 : Int)) else (if (fcmp .f64 a0 (0 : Nat) == some .eq) = true then (some (9223372036854775808 : Int)) else (if (fcmp .f64 a0 (0 : Nat) == some .gt) = true then (if isN a0 = false then (some (ior .u64 (a0 : Int) (9223372036854775808 : Int))) else none) else (if isN a0 = false then (some (ixor .u64 (IntKind.max .u64) (a0 : Int))) else none))))
def impl_FloatRank.Q (w : World) (F : Nat → Prop) (r : Int) (v : Value) (w' : World) : Prop :=
 v = (.int .u64 r) ∧ Ky [] w w'
theorem impl_FloatRank.calls (a0 : Nat) (w : World) (F : Nat → Prop) (w0_0 : Value) (h0_0 : Kd.flt.rd w [w0_0] a0 F) (r : Int) (m : impl_FloatRank.f a0 = some r) :
  Calls prog 87 #[w0_0] w (RT (impl_FloatRank.Q w F) r) := by
 obtain ⟨s0, rfl, kp0, z⟩ := Xj w F
 have A0_0 := fl_of h0_0
 refine Xd (args := [w0_0]) func87 ntmps87 rfl rfl m ?_
 unfold impl_FloatRank.f
 refine sr (Xb rfl (dn (sq (bl (sr (Xv w0_0 rfl (Xv w0_0 rfl (fq_' A0_0 A0_0 rfl (Xb rfl (dn (cd rfl (fun h1 => ?_) (fun h1 => ?_))))))))))))
 ·
  exact sr (Xb rfl (dn (re rfl func87 rfl (Xq rfl Xf) rfl ⟨_, rfl, rfl, z.ky kp0⟩)))
 refine sr (Xv w0_0 rfl (fq_' A0_0 (fl_c rfl) rfl (Xb rfl (dn (cd rfl (fun h2 => ?_) (fun h2 => ?_))))))
 ·
  exact sr (Xb rfl (dn (re rfl func87 rfl (Xq rfl Xf) rfl ⟨_, rfl, rfl, z.ky kp0⟩)))
 refine sr (Xv w0_0 rfl (fq_' A0_0 (fl_c rfl) rfl (Xb rfl (dn (cd rfl (fun h3 => ?_) (fun h3 => ?_))))))
 ·
  exact sr (Xv w0_0 rfl (fb_ A0_0 rfl rfl rfl rfl rfl func67 rfl rfl xn67 xf67 rfl (Xb rfl (Xb rfl (dn (re rfl func87 rfl (Xq rfl Xf) rfl ⟨_, rfl, rfl, z.ky kp0⟩))))))
 exact sk (ib (sr (Xv w0_0 rfl (fb_ A0_0 rfl rfl rfl rfl rfl func67 rfl rfl xn67 xf67 rfl (Xb rfl (Xb rfl (dn (re rfl func87 rfl (Xq rfl Xf) rfl ⟨_, rfl, rfl, z.ky kp0⟩))))))))
def cmp_isNaN_uint64.f (a0 : Int) : Option (Bool) :=
 (some (a0 != a0))
def cmp_isNaN_uint64.Q (w : World) (F : Nat → Prop) (r : Bool) (v : Value) (w' : World) : Prop :=
 v = (.bool r) ∧ Ky [] w w'
theorem cmp_isNaN_uint64.calls (a0 : Int) (w : World) (F : Nat → Prop)   (r : Bool) (m : cmp_isNaN_uint64.f a0 = some r) :
  Calls prog 90 #[(.int .u64 a0)] w (RT (cmp_isNaN_uint64.Q w F) r) := by
 obtain ⟨s0, rfl, kp0, z⟩ := Xj w F
 refine Xd (args := [(.int .u64 a0)]) func90 ntmps90 rfl rfl m ?_
 unfold cmp_isNaN_uint64.f
 exact sr (Xb rfl (dn (sr (Xb rfl (Xb rfl (Xb rfl (Xb rfl (dn (re rfl func90 rfl (Xq rfl Xf) rfl ⟨_, rfl, rfl, z.ky kp0⟩)))))))))
def cmp_Compare_uint64.f (a0 : Int) (a1 : Int) : Option (Int) :=
 ((cmp_isNaN_uint64.f a0).bind fun r1 => ((cmp_isNaN_uint64.f a1).bind fun r3 => (if r1 = true then (if r3 = true then (some (0 : Int)) else (some (-1 : Int))) else (if r3 = true then (some (1 : Int)) else (if (decide (a0 < a1)) = true then (some (-1 : Int)) else (if (decide (a0 > a1)) = true then (some (1 : Int)) else (some (0 : Int))))))))
def cmp_Compare_uint64.Q (w : World) (F : Nat → Prop) (r : Int) (v : Value) (w' : World) : Prop :=
 v = (iI r) ∧ Ky [] w w'
theorem cmp_Compare_uint64.calls (a0 : Int) (a1 : Int) (w : World) (F : Nat → Prop)   (r : Int) (m : cmp_Compare_uint64.f a0 a1 = some r) :
  Calls prog 86 #[(.int .u64 a0), (.int .u64 a1)] w (RT (cmp_Compare_uint64.Q w F) r) := by
 obtain ⟨s0, rfl, kp0, z⟩ := Xj w F
 refine Xd (args := [(.int .u64 a0), (.int .u64 a1)]) func86 ntmps86 rfl rfl m ?_
 unfold cmp_Compare_uint64.f
 refine sr (Xb rfl (dn (sr (Xb rfl (clV 40 rfl func90 rfl (cmp_isNaN_uint64.calls a0 s0.w (mm [] s0)) (fun r1 s2 p2 n2 => ?_))))))
 refine Xb rfl (dn (sr (Xb rfl (clV 41 rfl func90 rfl (cmp_isNaN_uint64.calls a1 s2.w (mm [] s2)) (fun r3 s4 p4 n4 => ?_)))))
 refine Xb rfl (dn (sq (sr (Xb rfl (dn (cd rfl (fun h5 => ?_) (fun h5 => ?_)))))))
 ·
  refine sq (sr (Xb rfl (dn (cd rfl (fun h6 => ?_) (fun h6 => ?_)))))
  ·
   refine sr (Xb rfl (dn ?_))
   exact re rfl func86 rfl (Xq rfl Xf) rfl ⟨_, rfl, rfl, z.ky (kp0.st (Xo p2 p4) rfl)⟩
  refine sk (sr (Xb rfl (dn ?_)))
  exact re rfl func86 rfl (Xq rfl Xf) rfl ⟨_, rfl, rfl, z.ky (kp0.st (Xo p2 p4) rfl)⟩
 refine sk (sq (sr (Xb rfl (dn (cd rfl (fun h9 => ?_) (fun h9 => ?_))))))
 ·
  refine sr (Xb rfl (dn ?_))
  exact re rfl func86 rfl (Xq rfl Xf) rfl ⟨_, rfl, rfl, z.ky (kp0.st (Xo p2 p4) rfl)⟩
 refine sk (sq (sr (Xb rfl (Xb rfl (Xb rfl (dn (cd rfl (fun h11 => ?_) (fun h11 => ?_))))))))
 ·
  refine sr (Xb rfl (dn ?_))
  exact re rfl func86 rfl (Xq rfl Xf) rfl ⟨_, rfl, rfl, z.ky (kp0.st (Xo p2 p4) rfl)⟩
 refine sk (sq (sr (Xb rfl (Xb rfl (Xb rfl (dn (cd rfl (fun h13 => ?_) (fun h13 => ?_))))))))
 ·
  refine sr (Xb rfl (dn ?_))
  exact re rfl func86 rfl (Xq rfl Xf) rfl ⟨_, rfl, rfl, z.ky (kp0.st (Xo p2 p4) rfl)⟩
 refine sk (sr (Xb rfl (dn ?_)))
 exact re rfl func86 rfl (Xq rfl Xf) rfl ⟨_, rfl, rfl, z.ky (kp0.st (Xo p2 p4) rfl)⟩
def impl_FloatCompare.f (a0 : Nat) (a1 : Nat) : Option (Int) :=
 ((impl_FloatRank.f a0).bind fun r1 => ((impl_FloatRank.f a1).bind fun r3 => ((cmp_Compare_uint64.f r1 r3).bind fun r5 => (some r5))))
def impl_FloatCompare.Q (w : World) (F : Nat → Prop) (r : Int) (v : Value) (w' : World) : Prop :=
 v = (iI r) ∧ Ky [] w w'
theorem impl_FloatCompare.calls (a0 : Nat) (a1 : Nat) (w : World) (F : Nat → Prop) (w0_0 : Value) (w1_0 : Value) (h0_0 : Kd.flt.rd w [w0_0] a0 F) (h1_0 : Kd.flt.rd w [w1_0] a1 F) (r : Int) (m : impl_FloatCompare.f a0 a1 = some r) :
  Calls prog 79 #[w0_0, w1_0] w (RT (impl_FloatCompare.Q w F) r) := by
 obtain ⟨s0, rfl, kp0, z⟩ := Xj w F
 refine Xd (args := [w0_0, w1_0]) func79 ntmps79 rfl rfl m ?_
 unfold impl_FloatCompare.f
 refine sr (Xb rfl (dn (sr (Xv w0_0 rfl (clV 40 rfl func87 rfl (impl_FloatRank.calls a0 s0.w (mm [] s0) w0_0 (Xi (s := s0) (fl_of h0_0))) (fun r1 s2 p2 n2 => ?_))))))
 refine Xv w1_0 rfl (clV 41 rfl func87 rfl (impl_FloatRank.calls a1 s2.w (mm [] s2) w1_0 (Xi (s := s2) (fl_of h1_0))) (fun r3 s4 p4 n4 => ?_))
 refine clV 42 rfl func86 rfl (cmp_Compare_uint64.calls r1 r3 s4.w (mm [] s4)) (fun r5 s6 p6 n6 => ?_)
 refine Xb rfl (dn ?_)
 exact re rfl func79 rfl (Xq rfl Xf) rfl ⟨_, rfl, rfl, z.ky (kp0.st (tr3 p2 p4 p6) rfl)⟩
def bytes_Compare.f (a0 : (List Int)) (a1 : (List Int)) : Option (Int) :=
 (some (bcmpS a0 a1))
def bytes_Compare.Q (w : World) (F : Nat → Prop) (r : Int) (v : Value) (w' : World) : Prop :=
 v = (iI r) ∧ Ky [] w w'
theorem bytes_Compare.calls (a0 : (List Int)) (a1 : (List Int)) (w : World) (F : Nat → Prop) (w0_0 : Value) (w1_0 : Value) (h0_0 : Xy.rd w [w0_0] a0 F) (h1_0 : Xy.rd w [w1_0] a1 F) (r : Int) (m : bytes_Compare.f a0 a1 = some r) :
  Calls prog 80 #[w0_0, w1_0] w (RT (bytes_Compare.Q w F) r) := by
 obtain ⟨s0, rfl, kp0, z⟩ := Xj w F
 refine Xd (args := [w0_0, w1_0]) func80 ntmps80 rfl rfl m ?_
 unfold bytes_Compare.f
 exact sr (Xb rfl (dn (sr (Xv w0_0 rfl (Xv w1_0 rfl (bcx (z.rd h0_0) (z.rd h1_0) rfl rfl rfl rfl rfl func88 rfl rfl xn88 xf88 rfl rfl (Xb rfl (dn (re rfl func80 rfl (Xq rfl Xf) rfl ⟨_, rfl, rfl, z.ky kp0⟩)))))))))
def cmp_Or_int.b0 (a0 : (List Int)) (x2 : Int) : Option (Int ⊕ Int) :=
 (if (decide (x2 < (a0.length : Int))) = true then (if 0 ≤ x2 ∧ x2 < (a0.length : Int) then (if ((at_ a0 x2) != (0 : Int)) = true then (some (Sum.inr (at_ a0 x2))) else (some (Sum.inl (IntKind.wrap .i64 (x2 + (1 : Int)))))) else none) else ((some (0 : Int)).bind fun o => some (Sum.inr o)))
def cmp_Or_int.f (a0 : (List Int)) : Option (Int) :=
 (iter (cmp_Or_int.b0 a0) (0 : Int))
def cmp_Or_int.Q (w : World) (F : Nat → Prop) (r : Int) (v : Value) (w' : World) : Prop :=
 v = (iI r) ∧ Ky [] w w'
theorem cmp_Or_int.calls (a0 : (List Int)) (w : World) (F : Nat → Prop) (w0_0 : Value) (h0_0 : Ya.rd w [w0_0] a0 F) (r : Int) (m : cmp_Or_int.f a0 = some r) :
  Calls prog 68 #[w0_0] w (RT (cmp_Or_int.Q w F) r) := by
 obtain ⟨s0, rfl, kp0, z⟩ := Xj w F
 have A0_0 := z.rd h0_0
 refine Xd (args := [w0_0]) func68 ntmps68 rfl rfl m ?_
 unfold cmp_Or_int.f
 refine sr (Xb rfl (dn (sr (Xb rfl (dn (sq (sr (Xv w0_0 rfl (ln' A0_0 u55 rfl (Xb rfl (dn (bl (lpI (fun (x2 : Int) e w => ∃ (s : St) (e0 : Env), w = s.w ∧ e = upd (upd (upd (upd e0 3 (iI 0)) 6 w0_0) 7 (iI (a0.length : Int))) 8 (iI x2) ∧ Kp s0 s) ⟨s0, _, rfl, (ue (ue (ue (ue rfl rfl) rfl) rfl) rfl), kp0⟩ (fun g2 ih2 => ?_))))))))))))))
 rintro x2 _ _ ⟨s3, _, rfl, rfl, Kx2⟩
 unfold cmp_Or_int.b0
 refine sr (Xb rfl (dn (sq (cd rfl (fun h4 => ?_) (fun h4 => ?_)))))
 ·
  refine sk (sq (bl (sr ?_)))
  refine ix' (A0_0.kp Kx2) u55 z3 rfl (fun ad6 es6 h0_6 h1_6 he6 ce6 ia6 => ?_)
  obtain rfl := he6
  refine lc0 ce6 u3 rfl rfl rfl rfl rfl rfl rfl rfl (Xb rfl (dn (sr (Xb rfl (Xb rfl (Xb rfl (dn (cd rfl (fun h8 => ?_) (fun h8 => ?_)))))))))
  ·
   exact sr (Xb rfl (Xb rfl (dn (sgi (re rfl func68 rfl (Xq rfl Xf) rfl ⟨_, rfl, rfl, z.ky Kx2⟩)))))
  exact sk (ib (rg (Xb rfl (Xb rfl (dn (lb ih2 ⟨s3, _, rfl, (ue (ue (ue (ue rfl rfl) rfl) rfl) rfl), Kx2⟩))))))
 exact xt rfl (sgb (sr (Xb rfl (Xb rfl (dn (re rfl func68 rfl (Xq rfl Xf) rfl ⟨_, rfl, rfl, z.ky Kx2⟩))))))
def impl_compareItems.f (a0 : Item) (a1 : Item) : Option (Int) :=
 ((cmp_Compare_int.f a0.Kind a1.Kind).bind fun r41 => ((cmp_Compare_int.f a0.N a1.N).bind fun r51 => ((impl_FloatCompare.f a0.F a1.F).bind fun r59 => ((bytes_Compare.f a0.T a1.T).bind fun r67 => ((cmp_Or_int.f ([r41, r51, r59, r67])).bind fun r71 => (some r71))))))
def impl_compareItems.Q (w : World) (F : Nat → Prop) (r : Int) (v : Value) (w' : World) : Prop :=
 v = (iI r) ∧ Ky [] w w'
theorem impl_compareItems.calls (a0 : Item) (a1 : Item) (w : World) (F : Nat → Prop) (w0_0 : Value) (w0_1 : Value) (w1_0 : Value) (w1_1 : Value) (h0_0 : Kd.flt.rd w [w0_0] a0.F F) (h0_1 : Xy.rd w [w0_1] a0.T F) (h1_0 : Kd.flt.rd w [w1_0] a1.F F) (h1_1 : Xy.rd w [w1_1] a1.T F) (r : Int) (m : impl_compareItems.f a0 a1 = some r) :
  Calls prog 69 #[(.agg #[(iI a0.Kind), (iI a0.N), w0_0, w0_1]), (.agg #[(iI a1.Kind), (iI a1.N), w1_0, w1_1])] w (RT (impl_compareItems.Q w F) r) := by
 obtain ⟨s0, rfl, kp0, z⟩ := Xj w F
 refine Xd (args := [(.agg #[(iI a0.Kind), (iI a0.N), w0_0, w0_1]), (.agg #[(iI a1.Kind), (iI a1.N), w1_0, w1_1])]) func69 ntmps69 rfl rfl m ?_
 unfold impl_compareItems.f
 refine sr (bx' (cs := [(iI a0.Kind), (iI a0.N), w0_0, w0_1]) 40 rfl rfl (fun b3 s3 p3 B3 => ?_))
 refine bx' (cs := [(iI a1.Kind), (iI a1.N), w1_0, w1_1]) 41 rfl rfl (fun b5 s5 p5 B5 => ?_)
 refine Xb rfl (dn (sq (zdraw [[], [0], [], [2], [1, 3], [], [5], [], [7], [6, 8, 4], [], [10], [], [12], [11, 13, 9], [], [15], [], [17], [16, 18, 14], [4, 9, 14, 19], [20, 19], [21, 21, 0, 1, 2, 3, 4, 5, 6, 7, 8, 9, 10, 11, 12, 13, 14, 15, 16, 17, 18, 19, 20, 21]] [some 5, some 6, some 7, some 8, some 9, some 10, some 11, some 12, some 13, some 14, some 15, some 16, some 17, some 18, some 19, some 20, some 21, some 22, some 23, some 24, some 25, some 26, some 4] [[2], [5], [3], [7], [6, 8], [2], [10], [3], [12], [11, 13], [2], [15], [3], [17], [16, 18], [2], [20], [3], [22], [21, 23], [9, 14, 19, 24], [25], [26]] [0, 1, 2, 3, 4, 5, 6, 7, 8, 9, 10, 11, 12, 13, 14, 15, 16, 17, 18, 19, 20, 21, 22] ⟨by kernel_rfl, by kernel_rfl, by kernel_rfl⟩ (by kernel_rfl) (fun s7 p7 l7 tb7 zd7 => ?_))))
 have zd10 := (zd7.add 0 5 (pB b3) rfl).add 1 6 (iI a0.Kind) rfl
 refine Xt 4 [some 23, some 22, some 21, some 20, some 18, some 17, some 16, some 15, some 13, some 12, some 11, some 10] tb7 ((((((((((((((zd10.add 2 7 (pB b5) rfl).add 3 8 (iI a1.Kind) rfl).add 5 10 (pO b3 1) rfl).add 6 11 (iI a0.N) rfl).add 7 12 (pO b5 1) rfl).add 8 13 (iI a1.N) rfl).add 10 15 (pO b3 2) rfl).add 11 16 w0_0 rfl).add 12 17 (pO b5 2) rfl).add 13 18 w1_0 rfl).add 15 20 (pO b3 3) rfl).add 16 21 w0_1 rfl).add 17 22 (pO b5 3) rfl).add 18 23 w1_1 rfl) (Xa (Xm (B5.st p7 rfl) u26 rfl) rfl (Xa (Xl fa37_3 rfl) rfl (Xa (Xm (B3.st (Xo p5 p7) rfl) u26 rfl) rfl (Xa (Xl fa37_3 rfl) rfl (Xa (Xm (B5.st p7 rfl) u25 rfl) rfl (Xa (Xl fa37_2 rfl) rfl (Xa (Xm (B3.st (Xo p5 p7) rfl) u25 rfl) rfl (Xa (Xl fa37_2 rfl) rfl (Xa (Xm (B5.st p7 rfl) u3 rfl) rfl (Xa (Xl fa37_1 rfl) rfl (Xa (Xm (B3.st (Xo p5 p7) rfl) u3 rfl) rfl (Xa (Xl fa37_1 rfl) rfl (Xa (Xm (B5.st p7 rfl) u3 rfl) rfl (Xa (Xl fa37_0 rfl) rfl (Xa (Xm (B3.st (Xo p5 p7) rfl) u3 rfl) rfl (Xa (Xl fa37_0 rfl) rfl Xh)))))))))))))))) (by kernel_rfl) rfl (fun l32 e32 zd32 => ?_)
 refine clV 42 rfl func70 rfl (cmp_Compare_int.calls a0.Kind a1.Kind s7.w (mm [] s7)) (fun r41 s42 p42 n42 => ?_)
 refine Xr (L' := [18, 17, 16, 15, 13, 12, 11, 10, 8, 7, 6, 5]) (D' := [0, 2, 1, 3, 4]) zd32 rfl rfl rfl (fun zd43 => ?_)
 refine Xt 9 [some 23, some 22, some 21, some 20, some 18, some 17, some 16, some 15] tb7 zd43 (Xa (Xm (B5.st (Xo p7 p42) rfl) u26 rfl) rfl (Xa (Xl fa37_3 rfl) rfl (Xa (Xm (B3.st (tr3 p5 p7 p42) rfl) u26 rfl) rfl (Xa (Xl fa37_3 rfl) rfl (Xa (Xm (B5.st (Xo p7 p42) rfl) u25 rfl) rfl (Xa (Xl fa37_2 rfl) rfl (Xa (Xm (B3.st (tr3 p5 p7 p42) rfl) u25 rfl) rfl (Xa (Xl fa37_2 rfl) rfl (Xa (Xm (B5.st (Xo p7 p42) rfl) u3 rfl) rfl (Xa (Xl fa37_1 rfl) rfl (Xa (Xm (B3.st (tr3 p5 p7 p42) rfl) u3 rfl) rfl (Xa (Xl fa37_1 rfl) rfl Xh)))))))))))) (by kernel_rfl) rfl (fun l44 e44 zd44 => ?_)
 refine clV 43 rfl func70 rfl (cmp_Compare_int.calls a0.N a1.N s42.w (mm [] s42)) (fun r51 s52 p52 n52 => ?_)
 refine Xr (L' := [18, 17, 16, 15, 13, 12, 11, 10]) (D' := [5, 7, 6, 8, 9, 0, 2, 1, 3, 4]) zd44 rfl rfl rfl (fun zd53 => ?_)
 refine Xt 14 [some 23, some 22, some 21, some 20] tb7 zd53 (Xa (Xm (B5.st (tr3 p7 p42 p52) rfl) u26 rfl) rfl (Xa (Xl fa37_3 rfl) rfl (Xa (Xm (B3.st (tr4 p5 p7 p42 p52) rfl) u26 rfl) rfl (Xa (Xl fa37_3 rfl) rfl (Xa (Xm (B5.st (tr3 p7 p42 p52) rfl) u25 rfl) rfl (Xa (Xl fa37_2 rfl) rfl (Xa (Xm (B3.st (tr4 p5 p7 p42 p52) rfl) u25 rfl) rfl (Xa (Xl fa37_2 rfl) rfl Xh)))))))) (by kernel_rfl) rfl (fun l54 e54 zd54 => ?_)
 refine clV 44 rfl func79 rfl (impl_FloatCompare.calls a0.F a1.F s52.w (mm [] s52) w0_0 w1_0 (Xi (s := s52) (fl_of h0_0)) (Xi (s := s52) (fl_of h1_0))) (fun r59 s60 p60 n60 => ?_)
 refine Xr (L' := [18, 17, 16, 15]) (D' := [10, 12, 11, 13, 14, 5, 7, 6, 8, 9, 0, 2, 1, 3, 4]) zd54 rfl rfl rfl (fun zd61 => ?_)
 refine Xx [19, 20, 21, 22] tb7 zd61 (Xa (Xm (B5.st (tr4 p7 p42 p52 p60) rfl) u26 rfl) rfl (Xa (Xl fa37_3 rfl) rfl (Xa (Xm (B3.st (tr5 p5 p7 p42 p52 p60) rfl) u26 rfl) rfl (Xa (Xl fa37_3 rfl) rfl Xh)))) (by kernel_rfl) (by decide) ?_
 have K64 := kp0.st (tr6 p3 p5 p7 p42 p52 p60) rfl
 refine clV 45 rfl func80 rfl (bytes_Compare.calls a0.T a1.T s60.w (mm [0] s60) w0_1 w1_1 ((z.rd h0_1).kp K64) ((z.rd h1_1).kp K64)) (fun r67 s68 p68 n68 => ?_)
 refine ltF (K := (Kd.int .i64)) (cells := [(iI r41), (iI r51), (iI r59), (iI r67)]) [r41, r51, r59, r67] 46 fl_int u55 z3 o3 (fun w => (els_flat _ _ _)) rfl rfl rfl rfl rfl rfl rfl rfl rfl rfl (fun v69 s69 p69 A69 => ?_)
 refine clV 47 rfl func68 rfl (cmp_Or_int.calls ([r41, r51, r59, r67]) s69.w (mm [46] s69) v69 A69.rd) (fun r71 s72 p72 n72 => ?_)
 refine Xb rfl (dn ?_)
 exact re rfl func69 rfl (Xq rfl Xf) rfl ⟨_, rfl, rfl, z.ky (K64.st (tr3 p68 p69 p72) rfl)⟩
def impl_compareEntries.f (a0 : Entry) (a1 : Entry) : Option (Int) :=
 ((impl_compareItems.f a0.Key a1.Key).bind fun r28 => ((cmp_Compare_int.f a0.Id a1.Id).bind fun r33 => ((cmp_Or_int.f ([r28, r33])).bind fun r37 => (some r37))))
def impl_compareEntries.Q (w : World) (F : Nat → Prop) (r : Int) (v : Value) (w' : World) : Prop :=
 v = (iI r) ∧ Ky [] w w'
theorem impl_compareEntries.calls (a0 : Entry) (a1 : Entry) (w : World) (F : Nat → Prop) (w0_0 : Value) (w0_1 : Value) (w1_0 : Value) (w1_1 : Value) (h0_0 : Kd.flt.rd w [w0_0] a0.Key.F F) (h0_1 : Xy.rd w [w0_1] a0.Key.T F) (h1_0 : Kd.flt.rd w [w1_0] a1.Key.F F) (h1_1 : Xy.rd w [w1_1] a1.Key.T F) (r : Int) (m : impl_compareEntries.f a0 a1 = some r) :
  Calls prog 48 #[(.agg #[(iI a0.Key.Kind), (iI a0.Key.N), w0_0, w0_1, (iI a0.Id)]), (.agg #[(iI a1.Key.Kind), (iI a1.Key.N), w1_0, w1_1, (iI a1.Id)])] w (RT (impl_compareEntries.Q w F) r) := by
 obtain ⟨s0, rfl, kp0, z⟩ := Xj w F
 refine Xd (args := [(.agg #[(iI a0.Key.Kind), (iI a0.Key.N), w0_0, w0_1, (iI a0.Id)]), (.agg #[(iI a1.Key.Kind), (iI a1.Key.N), w1_0, w1_1, (iI a1.Id)])]) func48 ntmps48 rfl rfl m ?_
 unfold impl_compareEntries.f
 refine sr (bx' (cs := [(iI a0.Key.Kind), (iI a0.Key.N), w0_0, w0_1, (iI a0.Id)]) 40 rfl rfl (fun b3 s3 p3 B3 => ?_))
 refine bx' (cs := [(iI a1.Key.Kind), (iI a1.Key.N), w1_0, w1_1, (iI a1.Id)]) 41 rfl rfl (fun b5 s5 p5 B5 => ?_)
 refine Xb rfl (dn (sq (zdraw [[], [0], [], [2], [1, 3], [], [5], [], [7], [6, 8, 4], [4, 9], [10, 9], [11, 11, 0, 1, 2, 3, 4, 5, 6, 7, 8, 9, 10, 11]] [some 5, some 6, some 7, some 8, some 9, some 10, some 11, some 12, some 13, some 14, some 15, some 16, some 4] [[2], [5], [3], [7], [6, 8], [2], [10], [3], [12], [11, 13], [9, 14], [15], [16]] [0, 1, 2, 3, 4, 5, 6, 7, 8, 9, 10, 11, 12] ⟨by kernel_rfl, by kernel_rfl, by kernel_rfl⟩ (by kernel_rfl) (fun s7 p7 l7 tb7 zd7 => ?_))))
 refine Xt 4 [some 13, some 12, some 11, some 10] tb7 ((((((((zd7.add 0 5 (pB b3) rfl).add 1 6 (.agg #[(iI a0.Key.Kind), (iI a0.Key.N), w0_0, w0_1]) rfl).add 2 7 (pB b5) rfl).add 3 8 (.agg #[(iI a1.Key.Kind), (iI a1.Key.N), w1_0, w1_1]) rfl).add 5 10 (pO b3 4) rfl).add 6 11 (iI a0.Id) rfl).add 7 12 (pO b5 4) rfl).add 8 13 (iI a1.Id) rfl) (Xa (Xm (B5.st p7 rfl) u3 rfl) rfl (Xa (Xl fa48_1 rfl) rfl (Xa (Xm (B3.st (Xo p5 p7) rfl) u3 rfl) rfl (Xa (Xl fa48_1 rfl) rfl (Xa (Xs (es := [(iI a1.Key.Kind), (iI a1.Key.N), w1_0, w1_1]) (B5.st p7 rfl) u37 z37 rfl) rfl (Xa (Xl fa48_0 rfl) rfl (Xa (Xs (es := [(iI a0.Key.Kind), (iI a0.Key.N), w0_0, w0_1]) (B3.st (Xo p5 p7) rfl) u37 z37 rfl) rfl (Xa (Xl fa48_0 rfl) rfl Xh)))))))) (by kernel_rfl) rfl (fun l20 e20 zd20 => ?_)
 have K25 := kp0.st (tr3 p3 p5 p7) rfl
 refine clV 42 rfl func69 rfl (impl_compareItems.calls a0.Key a1.Key s7.w (mm [0] s7) w0_0 w0_1 w1_0 w1_1 ((Xi (s := s7) (fl_of h0_0)).sub (D := [0]) rfl) ((z.rd h0_1).kp K25) ((Xi (s := s7) (fl_of h1_0)).sub (D := [0]) rfl) ((z.rd h1_1).kp K25)) (fun r28 s29 p29 n29 => ?_)
 refine Xr (L' := [8, 7, 6, 5]) (D' := [0, 2, 1, 3, 4]) zd20 rfl rfl rfl (fun zd30 => ?_)
 refine Xx [9, 10, 11, 12] tb7 zd30 (Xa (Xm (B5.st (Xo p7 p29) rfl) u3 rfl) rfl (Xa (Xl fa48_1 rfl) rfl (Xa (Xm (B3.st (tr3 p5 p7 p29) rfl) u3 rfl) rfl (Xa (Xl fa48_1 rfl) rfl Xh)))) (by kernel_rfl) (by decide) (clV 43 rfl func70 rfl (cmp_Compare_int.calls a0.Id a1.Id s29.w (mm [] s29)) (fun r33 s34 p34 n34 => ?_))
 refine ltF (K := (Kd.int .i64)) (cells := [(iI r28), (iI r33)]) [r28, r33] 44 fl_int u55 z3 o3 (fun w => (els_flat _ _ _)) rfl rfl rfl rfl rfl rfl rfl rfl rfl rfl (fun v35 s35 p35 A35 => ?_)
 refine clV 45 rfl func68 rfl (cmp_Or_int.calls ([r28, r33]) s35.w (mm [44] s35) v35 A35.rd) (fun r37 s38 p38 n38 => ?_)
 refine Xb rfl (dn ?_)
 exact re rfl func48 rfl (Xq rfl Xf) rfl ⟨_, rfl, rfl, z.ky (K25.st (tr4 p29 p34 p35 p38) rfl)⟩
def impl_isNode.b0 (a0 : Node) (x15 : Int) : Option (Int ⊕ Bool) :=
 (if (decide (x15 < (a0.Entries.length : Int))) = true then (if 0 ≤ (IntKind.wrap .i64 (x15 - (1 : Int))) ∧ (IntKind.wrap .i64 (x15 - (1 : Int))) < (a0.Entries.length : Int) then (if 0 ≤ x15 ∧ x15 < (a0.Entries.length : Int) then ((impl_compareEntries.f (Entry.mk ((at_ a0.Entries (IntKind.wrap .i64 (x15 - (1 : Int)))).Key) ((at_ a0.Entries (IntKind.wrap .i64 (x15 - (1 : Int)))).Id)) (Entry.mk ((at_ a0.Entries x15).Key) ((at_ a0.Entries x15).Id))).bind fun r46 => (if (decide (r46 ≥ (0 : Int))) = true then (some (Sum.inr false)) else (some (Sum.inl (IntKind.wrap .i64 (x15 + (1 : Int))))))) else none) else none) else ((if a0.Leaf = true then (some ((a0.Kids.length : Int) == (0 : Int))) else (some ((decide ((a0.Entries.length : Int) > (0 : Int))) && ((a0.Kids.length : Int) == (IntKind.wrap .i64 ((a0.Entries.length : Int) + (1 : Int))))))).bind fun o => some (Sum.inr o)))
def impl_isNode.f (a0 : Node) : Option (Bool) :=
 ((impl_areAll_impl_Entry.f a0.Entries impl_isEntry.f).bind fun r7 => (if ((!r7) || (decide ((a0.Entries.length : Int) > (4 : Int)))) = true then (some false) else (iter (impl_isNode.b0 a0) (1 : Int))))
def impl_isNode.Q (w : World) (F : Nat → Prop) (r : Bool) (v : Value) (w' : World) : Prop :=
 v = (.bool r) ∧ Ky [] w w'
theorem impl_isNode.calls (a0 : Node) (w : World) (F : Nat → Prop) (w0_0 : Value) (w0_1 : Value) (h0_0 : Xz.rd w [w0_0] a0.Entries F) (h0_1 : Ya.rd w [w0_1] a0.Kids F) (r : Bool) (m : impl_isNode.f a0 = some r) :
  Calls prog 65 #[(.agg #[(.bool a0.Leaf), w0_0, w0_1])] w (RT (impl_isNode.Q w F) r) := by
 obtain ⟨s0, rfl, kp0, z⟩ := Xj w F
 have A0_0 := z.rd h0_0
 have A0_1 := z.rd h0_1
 refine Xd (args := [(.agg #[(.bool a0.Leaf), w0_0, w0_1])]) func65 ntmps65 rfl rfl m ?_
 unfold impl_isNode.f
 refine sr (bx' (cs := [(.bool a0.Leaf), w0_0, w0_1]) 40 rfl rfl (fun b3 s3 p3 B3 => ?_))
 refine Xb rfl (dn (sq (sr (Xn fa57_1 rfl (Xw B3 u52 rfl ?_)))))
 have K5 := kp0.st p3 rfl
 refine clV 41 rfl func78 rfl (impl_areAll_impl_Entry.calls a0.Entries impl_isEntry.f s3.w (mm [0] s3) w0_0 (.func (.func 27) #[] #[]) (A0_0.kp K5) (fun x0 u0_0 u0_1 w' k h0 h1 r m =>  ⟨27, _, _, [], [], rfl, func27, rfl, rfl, (impl_isEntry.calls x0 w' (fun _ => True) u0_0 u0_1 h0 h1 r m).mono fun en w2 hq => by obtain ⟨v, e, q⟩ := hq; exact ⟨v, e, q⟩⟩) rfl) (fun r7 s8 p8 n8 => ?_)
 refine Xb rfl (Xb rfl (jy [8, 9, 10, 11, 12, 13] [] 13 (.bool ((!r7) || (decide ((a0.Entries.length : Int) > (4 : Int))))) rfl (fun Kg9 => ?_) (fun j9 => ?_)))
 ·
  rcases bft (!r7) with hb9 | hb9
  ·
   exact sbT hb9 (Xk rfl (Xk rfl (Xk rfl (Xk rfl (Xb rfl (Kg9 _ (Ag.put ((Ag.put ((Ag.put ((Ag.put ((Ag.put (Ag.base rfl) rfl)) rfl)) rfl)) rfl)) rfl) (by rw [hb9]; rfl)))))))
  refine sbT hb9 (Xn fa57_1 rfl ?_)
  exact Xw (B3.st p8 rfl) u52 rfl (ln' (A0_0.kp (K5.st p8 rfl)) u52 rfl (Xb rfl (Xb rfl (Kg9 _ (Ag.put ((Ag.put ((Ag.put ((Ag.put ((Ag.put (Ag.base rfl) rfl)) rfl)) rfl)) rfl)) rfl) (by rw [hb9]; rfl)))))
 refine dn (cd rfl (fun h13 => ?_) (fun h13 => ?_))
 ·
  refine sr (Xb rfl (dn ?_))
  exact re rfl func65 rfl (Xq rfl Xf) rfl ⟨_, rfl, rfl, z.ky (K5.st p8 rfl)⟩
 refine sk (sq (sr (Xb rfl (dn (bl ?_)))))
 refine lpI (fun (x15 : Int) e w => ∃ (s : St) (e0 : Env), w = s.w ∧ e = upd (upd e0 1 (pB b3)) 3 (iI x15) ∧ Kp s0 s ∧ BlF s b3 57 [(.bool a0.Leaf), w0_0, w0_1] 40) ⟨s8, _, rfl, (ue (ue rfl rfl) rfl), (K5.st p8 rfl), (B3.st p8 rfl)⟩ (fun g15 ih15 => ?_)
 rintro x15 _ _ ⟨s18, _, rfl, rfl, Kx15, Bx15_b3⟩
 unfold impl_isNode.b0
 refine sq (sr (Xb rfl (Xn fa57_1 rfl (Xw Bx15_b3 u52 rfl ?_))))
 have A20 := A0_0.kp Kx15
 refine ln' A20 u52 rfl (Xb rfl (dn (cd rfl (fun h21 => ?_) (fun h21 => ?_))))
 ·
  refine sk (sq (bl (sq (zdraw [[], [0], [], [2], [1, 3], [4], [], [6], [], [7, 8], [9], [5, 10], [11]] [some 21, some 22, some 23, some 24, some 25, some 26, some 27, some 28, some 29, some 30, some 31, some 32, some 33] [[1], [21], [3], [23], [22, 24], [25], [1], [27], [3], [28, 29], [30], [26, 31], [32]] [0, 1, 2, 3, 4, 5, 6, 7, 8, 9, 10, 11, 12] ⟨by kernel_rfl, by kernel_rfl, by kernel_rfl⟩ (by kernel_rfl) (fun s22 p22 l22 tb22 zd22 => ?_)))))
  have K28 := Kx15.st p22 rfl
  have A29 := A0_0.kp K28
  refine mg fun hg30 => ?_
  obtain ⟨ad30, es30, he30, ce30, ia30⟩ := ix_e A29 rfl hg30.1 hg30.2
  obtain ⟨v30_0, v30_1, rfl, A30_0, A30_1⟩ := op48 he30
  have zd34 := (((((zd22.add 0 21 (pO b3 1) rfl).add 1 22 w0_0 rfl).add 2 23 (iI x15) rfl).add 3 24 (iI (IntKind.wrap .i64 (x15 - (1 : Int)))) rfl).add 4 25 (.pointer (some ad30)) rfl).add 5 26 (.agg #[(iI (((at_ a0.Entries (IntKind.wrap .i64 (x15 - (1 : Int)))).Key).Kind)), (iI (((at_ a0.Entries (IntKind.wrap .i64 (x15 - (1 : Int)))).Key).N)), v30_0, v30_1, (iI ((at_ a0.Entries (IntKind.wrap .i64 (x15 - (1 : Int)))).Id))]) rfl
  refine mg fun hg39 => ?_
  obtain ⟨ad39, es39, he39, ce39, ia39⟩ := ix_e A29 rfl hg39.1 hg39.2
  obtain ⟨v39_0, v39_1, rfl, A39_0, A39_1⟩ := op48 he39
  refine Xx [11, 12] tb22 (((((zd34.add 6 27 (pO b3 1) rfl).add 7 28 w0_0 rfl).add 8 29 (iI x15) rfl).add 9 30 (.pointer (some ad39)) rfl).add 10 31 (.agg #[(iI (((at_ a0.Entries x15).Key).Kind)), (iI (((at_ a0.Entries x15).Key).N)), v39_0, v39_1, (iI ((at_ a0.Entries x15).Id))]) rfl) (Xa (lca_q' ce39 u48 z48 rfl) rfl (Xa (ix_q' A29 u52 z48 hg39.1 hg39.2 ia39 rfl) rfl (Xa (Xc rfl) rfl (Xa (Xm (Bx15_b3.st p22 rfl) u52 rfl) rfl (Xa (Xl fa57_1 rfl) rfl (Xa (lca_q' ce30 u48 z48 rfl) rfl (Xa (ix_q' A29 u52 z48 hg30.1 hg30.2 ia30 rfl) rfl (Xa (Xc rfl) rfl (Xa (Xc rfl) rfl (Xa (Xm (Bx15_b3.st p22 rfl) u52 rfl) rfl (Xa (Xl fa57_1 rfl) rfl Xh))))))))))) (by kernel_rfl) (by decide) (clV 42 rfl func48 rfl (impl_compareEntries.calls (Entry.mk ((at_ a0.Entries (IntKind.wrap .i64 (x15 - (1 : Int)))).Key) ((at_ a0.Entries (IntKind.wrap .i64 (x15 - (1 : Int)))).Id)) (Entry.mk ((at_ a0.Entries x15).Key) ((at_ a0.Entries x15).Id)) s22.w (mm [0] s22) v30_0 v30_1 v39_0 v39_1 ((Xi (s := s22) A30_0).sub (D := [0]) rfl) A30_1 ((Xi (s := s22) A39_0).sub (D := [0]) rfl) A39_1) (fun r46 s47 p47 n47 => ?_))
  refine Xb rfl (dn (cd rfl (fun h48 => ?_) (fun h48 => ?_)))
  ·
   refine sr (Xb rfl (dn (sgi ?_)))
   exact re rfl func65 rfl (Xq rfl Xf) rfl ⟨_, rfl, rfl, z.ky (K28.st p47 rfl)⟩
  refine sk (ib (rg (Xb rfl (Xb rfl (Xb rfl (dn ?_))))))
  exact lb ih15 ⟨s47, _, rfl, (ue (ue rfl rfl) rfl), (K28.st p47 rfl), (Bx15_b3.st (Xo p22 p47) rfl)⟩
 refine xt rfl (sgb (sq (sr (Xn fa57_0 rfl (Xw Bx15_b3 u4 rfl (dn (cd rfl (fun h52 => ?_) (fun h52 => ?_))))))))
 ·
  refine sr (Xn fa57_2 rfl (Xw Bx15_b3 u55 rfl ?_))
  exact ln' (A0_1.kp Kx15) u55 rfl (Xb rfl (Xb rfl (dn (re rfl func65 rfl (Xq rfl Xf) rfl ⟨_, rfl, rfl, z.ky Kx15⟩))))
 refine sk (sr (Xn fa57_1 rfl (Xw Bx15_b3 u52 rfl (ln' A20 u52 rfl (Xb rfl (Xb rfl (jy [44, 45, 46, 47, 48, 49, 50, 51, 52, 53] [14] 53 (.bool ((decide ((a0.Entries.length : Int) > (0 : Int))) && ((a0.Kids.length : Int) == (IntKind.wrap .i64 ((a0.Entries.length : Int) + (1 : Int)))))) rfl (fun Kg54 => ?_) (fun j54 => ?_))))))))
 ·
  rcases bft (decide ((a0.Entries.length : Int) > (0 : Int))) with hb54 | hb54
  ·
   refine sbT hb54 (Xn fa57_2 rfl (Xw Bx15_b3 u55 rfl ?_))
   exact ln' (A0_1.kp Kx15) u55 rfl (Xn fa57_1 rfl (Xw Bx15_b3 u52 rfl (ln' A20 u52 rfl (Xb rfl (Xb rfl (Xb rfl (Kg54 _ (Ag.put ((Ag.put ((Ag.put ((Ag.put ((Ag.put ((Ag.put ((Ag.put ((Ag.put ((Ag.put (Ag.base rfl) rfl)) rfl)) rfl)) rfl)) rfl)) rfl)) rfl)) rfl)) rfl) (by rw [hb54]; rfl))))))))
  exact sbT hb54 (Xk rfl (Xk rfl (Xk rfl (Xk rfl (Xk rfl (Xk rfl (Xk rfl (Xk rfl (Xb rfl (Kg54 _ (Ag.put ((Ag.put ((Ag.put ((Ag.put ((Ag.put ((Ag.put ((Ag.put ((Ag.put ((Ag.put (Ag.base rfl) rfl)) rfl)) rfl)) rfl)) rfl)) rfl)) rfl)) rfl)) rfl) (by rw [hb54]; rfl)))))))))))
 exact Xb rfl (dn (re rfl func65 rfl (Xq rfl Xf) rfl ⟨_, rfl, rfl, z.ky Kx15⟩))
def impl_treeCheck_check.b1 (a0 : treeCheck) (a1 : Int) (a2 : Int) (a3 : (Option Entry)) (a4 : (Option Entry)) (R : (treeCheck → Int → Int → (Option Entry) → (Option Entry) → Option (Bool × treeCheck))) (x225 : Int × Int × Int × MD) : Option ((Int × Int × Int × MD) ⊕ (Bool × treeCheck)) :=
 (if (decide (x225.1 < (((at_ a0.t.Nodes a1).Kids).length : Int))) = true then (if 0 ≤ x225.1 ∧ x225.1 < (((at_ a0.t.Nodes a1).Kids).length : Int) then ((if (decide (x225.1 > (0 : Int))) = true then (if 0 ≤ (IntKind.wrap .i64 (x225.1 - (1 : Int))) ∧ (IntKind.wrap .i64 (x225.1 - (1 : Int))) < (((at_ a0.t.Nodes a1).Entries).length : Int) then (some (some (at_ ((at_ a0.t.Nodes a1).Entries) (IntKind.wrap .i64 (x225.1 - (1 : Int)))))) else none) else (some a3)).bind fun y233 => ((if (decide (x225.1 < (((at_ a0.t.Nodes a1).Entries).length : Int))) = true then (if 0 ≤ x225.1 ∧ x225.1 < (((at_ a0.t.Nodes a1).Entries).length : Int) then (some (some (at_ ((at_ a0.t.Nodes a1).Entries) x225.1))) else none) else (some a4)).bind fun y246 => ((R (treeCheck.mk (Tree.mk a0.t.Nodes x225.2.1) x225.2.2.2 x225.2.2.1) (at_ ((at_ a0.t.Nodes a1).Kids) x225.1) (IntKind.wrap .i64 (a2 + (1 : Int))) y233 y246).bind fun r260 => (if (!r260.1) = true then (some (Sum.inr (false, (treeCheck.mk (Tree.mk a0.t.Nodes r260.2.t.Root) r260.2.seen r260.2.deep)))) else (some (Sum.inl ((IntKind.wrap .i64 (x225.1 + (1 : Int))), r260.2.t.Root, r260.2.deep, r260.2.seen))))))) else none) else ((some (true, (treeCheck.mk (Tree.mk a0.t.Nodes x225.2.1) x225.2.2.2 x225.2.2.1))).bind fun o => some (Sum.inr o)))
def impl_treeCheck_check.b0 (a0 : treeCheck) (a1 : Int) (a2 : Int) (a3 : (Option Entry)) (a4 : (Option Entry)) (R : (treeCheck → Int → Int → (Option Entry) → (Option Entry) → Option (Bool × treeCheck))) (x47 : Int) : Option (Int ⊕ (Bool × treeCheck)) :=
 (if (decide (x47 < (((at_ a0.t.Nodes a1).Entries).length : Int))) = true then (if 0 ≤ x47 ∧ x47 < (((at_ a0.t.Nodes a1).Entries).length : Int) then ((if (a3.isSome) = true then (if a3.isSome = true then ((impl_compareEntries.f (Entry.mk ((at_ ((at_ a0.t.Nodes a1).Entries) x47).Key) ((at_ ((at_ a0.t.Nodes a1).Entries) x47).Id)) (Entry.mk ((a3.getD default).Key) ((a3.getD default).Id))).bind fun r85 => ((if (decide (r85 < (0 : Int))) = true then (some (true, true)) else ((if (a4.isSome) = true then (if a4.isSome = true then ((impl_compareEntries.f (Entry.mk ((at_ ((at_ a0.t.Nodes a1).Entries) x47).Key) ((at_ ((at_ a0.t.Nodes a1).Entries) x47).Id)) (Entry.mk ((a4.getD default).Key) ((a4.getD default).Id))).bind fun r125 => (some (true, true, (decide (r125 ≥ (0 : Int)))))) else none) else (some (false, false, false))).bind fun y112 => (some (false, y112.2.2)))).bind fun y91 => (some y91.2))) else none) else ((if (a4.isSome) = true then (if a4.isSome = true then ((impl_compareEntries.f (Entry.mk ((at_ ((at_ a0.t.Nodes a1).Entries) x47).Key) ((at_ ((at_ a0.t.Nodes a1).Entries) x47).Id)) (Entry.mk ((a4.getD default).Key) ((a4.getD default).Id))).bind fun r184 => (some (true, true, (decide (r184 ≥ (0 : Int)))))) else none) else (some (false, false, false))).bind fun y170 => (some y170.2.2))).bind fun y71 => (if y71 = true then (some (Sum.inr (false, (treeCheck.mk a0.t (mset a0.seen a1 true) a0.deep)))) else (some (Sum.inl (IntKind.wrap .i64 (x47 + (1 : Int))))))) else none) else ((if (at_ a0.t.Nodes a1).Leaf = true then ((if (a0.deep == (0 : Int)) = true then (some a2) else (some a0.deep)).bind fun y216 => (some ((y216 == a2), (treeCheck.mk a0.t (mset a0.seen a1 true) y216)))) else (iter (impl_treeCheck_check.b1 a0 a1 a2 a3 a4 R) ((0 : Int), a0.t.Root, a0.deep, (mset a0.seen a1 true)))).bind fun o => some (Sum.inr o)))
def impl_treeCheck_check.h (R : (treeCheck → Int → Int → (Option Entry) → (Option Entry) → Option (Bool × treeCheck))) (a0 : treeCheck) (a1 : Int) (a2 : Int) (a3 : (Option Entry)) (a4 : (Option Entry)) : Option (Bool × treeCheck) :=
 ((impl_within.f a1 (0 : Int) (IntKind.wrap .i64 ((a0.t.Nodes.length : Int) - (1 : Int)))).bind fun r6 => ((if ((!r6) || (mget a0.seen a1)) = true then (some true) else (if 0 ≤ a1 ∧ a1 < (a0.t.Nodes.length : Int) then ((impl_isNode.f (at_ a0.t.Nodes a1)).bind fun r22 => (some (!r22))) else none)).bind fun y11 => (if y11 = true then (some (false, a0)) else (if 0 ≤ a1 ∧ a1 < (a0.t.Nodes.length : Int) then (iter (impl_treeCheck_check.b0 a0 a1 a2 a3 a4 R) (0 : Int)) else none))))
def impl_treeCheck_check.g : Nat → (treeCheck → Int → Int → (Option Entry) → (Option Entry) → Option (Bool × treeCheck))
 | 0 => fun _ _ _ _ _ => none
 | n + 1 => impl_treeCheck_check.h (impl_treeCheck_check.g n)
def impl_treeCheck_check.f (a0 : treeCheck) (a1 : Int) (a2 : Int) (a3 : (Option Entry)) (a4 : (Option Entry)) : Option (Bool × treeCheck) := impl_treeCheck_check.g 1000 a0 a1 a2 a3 a4
def impl_treeCheck_check.Q (s0 : St) (p0 : Nat) (w0_0 : Value) (m0_1 : Nat) (r : Bool × treeCheck) (v : Value) (w' : World) : Prop :=
 ∃ (s' : St), v = (.bool r.1) ∧ w' = s'.w ∧ Kp s0 s' ∧ BlF s' p0 87 [w0_0, (iI r.2.t.Root), (.map (some m0_1)), (iI r.2.deep)] 2 ∧ MpF s' m0_1 r.2.seen 4
theorem impl_treeCheck_check.callsR (R : (treeCheck → Int → Int → (Option Entry) → (Option Entry) → Option (Bool × treeCheck))) (hR : ∀ (a0 : treeCheck) (a1 : Int) (a2 : Int) (a3 : (Option Entry)) (a4 : (Option Entry)) (s0 : St) (z0 : ∀ b, s0.g b < 40) (p0 : Nat) (w0_0 : Value) (m0_1 : Nat) (w3_0 : Value) (w4_0 : Value) (A0_0 : RdF Yb s0 [w0_0] a0.t.Nodes [0]) (A0_1 : MpF s0 m0_1 a0.seen 4) (B0 : BlF s0 p0 87 [w0_0, (iI a0.t.Root), (.map (some m0_1)), (iI a0.deep)] 2) (A3_0 : RdF (Kd.op kd48) s0 [w3_0] a3 [0]) (A4_0 : RdF (Kd.op kd48) s0 [w4_0] a4 [0]) (r : Bool × treeCheck) (m : R a0 a1 a2 a3 a4 = some r), Calls prog 45 #[(pB p0), (iI a1), (iI a2), w3_0, w4_0] s0.w (RT (impl_treeCheck_check.Q s0 p0 w0_0 m0_1) r)) (a0 : treeCheck) (a1 : Int) (a2 : Int) (a3 : (Option Entry)) (a4 : (Option Entry)) (s0 : St) (z0 : ∀ b, s0.g b < 40) (p0 : Nat) (w0_0 : Value) (m0_1 : Nat) (w3_0 : Value) (w4_0 : Value) (A0_0 : RdF Yb s0 [w0_0] a0.t.Nodes [0]) (A0_1 : MpF s0 m0_1 a0.seen 4) (B0 : BlF s0 p0 87 [w0_0, (iI a0.t.Root), (.map (some m0_1)), (iI a0.deep)] 2) (A3_0 : RdF (Kd.op kd48) s0 [w3_0] a3 [0]) (A4_0 : RdF (Kd.op kd48) s0 [w4_0] a4 [0]) (r : Bool × treeCheck) (m : impl_treeCheck_check.h R a0 a1 a2 a3 a4 = some r) :
  Calls prog 45 #[(pB p0), (iI a1), (iI a2), w3_0, w4_0] s0.w (RT (impl_treeCheck_check.Q s0 p0 w0_0 m0_1) r) := by
 have kp0 : Kp s0 s0 := Kp.refl s0 fun b _ => z0 b
 refine Xd (args := [(pB p0), (iI a1), (iI a2), w3_0, w4_0]) func45 ntmps45 rfl rfl m ?_
 unfold impl_treeCheck_check.h
 refine sr (Xb rfl (dn (sq (sr (Xb rfl (Xb rfl (Xb rfl (Xn fa87_0 rfl (Xn fa33_0 rfl (Xw B0 u31 rfl (ln' A0_0 u31 rfl (Xb rfl (clV 40 rfl func44 rfl (impl_within.calls a1 (0 : Int) (IntKind.wrap .i64 ((a0.t.Nodes.length : Int) - (1 : Int))) s0.w (mm [] s0)) (fun r6 s7 p7 n7 => ?_))))))))))))))
 refine Xb rfl (Xb rfl (jy [28, 29, 30, 31, 32, 33, 34, 35] [18, 19, 20, 21, 22, 23, 24, 25, 26, 27, 28, 29] 35 (.bool ((!r6) || (mget a0.seen a1))) rfl (fun Kg8 => ?_) (fun j8 => ?_)))
 ·
  rcases bft (!r6) with hb8 | hb8
  ·
   exact sbT hb8 (Xk rfl (Xk rfl (Xk rfl (Xk rfl (Xk rfl (Xk rfl (Xb rfl (Kg8 _ (Ag.put ((Ag.put ((Ag.put ((Ag.put ((Ag.put ((Ag.put ((Ag.put (Ag.base rfl) rfl)) rfl)) rfl)) rfl)) rfl)) rfl)) rfl) (by rw [hb8]; rfl)))))))))
  refine sbT hb8 (Xb rfl (Xb rfl (Xn fa87_1 rfl ?_)))
  refine Xw (B0.st p7 rfl) u85 rfl (Xb rfl ?_)
  exact lkm (A0_1.st p7 rfl) u85 u3 o4 rfl rfl rfl rfl rfl rfl rfl (Xb rfl (Kg8 _ (Ag.put ((Ag.put ((Ag.put ((Ag.put ((Ag.put ((Ag.put ((Ag.put (Ag.base rfl) rfl)) rfl)) rfl)) rfl)) rfl)) rfl)) rfl) (by rw [hb8]; rfl)))
 refine Xb rfl (ji [] (fun (y11 : Bool) e w => ∃ (s : St) (e0 : Env), w = s.w ∧ e = upd (upd (upd (upd (upd (upd e0 0 (pB p0)) 1 (iI a1)) 2 (iI a2)) 3 w3_0) 4 w4_0) 47 (.bool y11) ∧ Kp s0 s ∧ BlF s p0 87 [w0_0, (iI a0.t.Root), (.map (some m0_1)), (iI a0.deep)] 2 ∧ MpF s m0_1 a0.seen 4) (fun Gj11 Kj11 => ?_) ?_)
 ·
  rcases bft ((!r6) || (mget a0.seen a1)) with hb11 | hb11
  ·
   refine sbT hb11 ?_
   rw [if_pos hb11]
   refine Xk rfl (Xk rfl (Xk rfl (Xk rfl (Xk rfl (Xk rfl (Xk rfl (Xk rfl (Xk rfl (Xk rfl (Xb rfl ?_))))))))))
   exact Kj11 _ _ _ ⟨s7, _, rfl, (ue (ue (ue (ue (ue (ue rfl rfl) rfl) rfl) rfl) rfl) rfl), (kp0.st p7 rfl), (B0.st p7 rfl), (A0_1.st p7 rfl)⟩
  refine sbT hb11 ?_
  rw [if_neg (by rw [hb11]; decide)]
  refine Xb rfl (Xb rfl (Xn fa87_0 rfl (Xn fa33_0 rfl ?_)))
  have A15 := B0.st p7 rfl
  refine Xw A15 u31 rfl (Xb rfl ?_)
  have K16 := kp0.st p7 rfl
  refine ix' (A0_0.kp K16) u31 z57 rfl (fun ad18 es18 h0_18 h1_18 he18 ce18 ia18 => ?_)
  obtain ⟨v18_0, v18_1, rfl, A18_0, A18_1⟩ := op57 he18
  refine lca ce18 u57 z57 rfl rfl rfl rfl rfl rfl rfl (clV 41 rfl func65 rfl (impl_isNode.calls (at_ a0.t.Nodes a1) s7.w (mm [0] s7) v18_0 v18_1 A18_0 A18_1) (fun r22 s23 p23 n23 => ?_))
  refine Xb rfl (Xb rfl ?_)
  exact Kj11 _ _ _ ⟨s23, _, rfl, (ue (ue (ue (ue (ue (ue rfl rfl) rfl) rfl) rfl) rfl) rfl), (K16.st p23 rfl), (A15.st p23 rfl), (A0_1.st (Xo p7 p23) rfl)⟩
 rintro y11 _ _ ⟨s27, _, rfl, rfl, Ky11, By11_p0, By11_m0_1⟩
 refine dn (cd rfl (fun h30 => ?_) (fun h30 => ?_))
 ·
  exact sr (Xb rfl (dn (re rfl func45 rfl (Xq rfl Xf) rfl ⟨_, rfl, s27, rfl, rfl, Ky11, By11_p0, By11_m0_1⟩)))
 refine sk (sr (Xb rfl (Xb rfl (Xn fa87_1 rfl (Xw By11_p0 u85 rfl (Xb rfl (upm By11_m0_1 u85 u3 rfl rfl rfl rfl rfl rfl rfl (fun s31 p31 B31 => ?_))))))))
 refine dn (sr (Xb rfl (Xb rfl (Xn fa87_0 rfl (Xn fa33_0 rfl ?_)))))
 have A33 := By11_p0.st p31 rfl
 refine Xw A33 u31 rfl (Xb rfl ?_)
 have K34 := Ky11.st p31 rfl
 refine ix' (A0_0.kp K34) u31 z57 rfl (fun ad36 es36 h0_36 h1_36 he36 ce36 ia36 => ?_)
 obtain ⟨v36_0, v36_1, rfl, A36_0, A36_1⟩ := op57 he36
 refine lca ce36 u57 z57 rfl rfl rfl rfl rfl rfl rfl (al' (cs := [(.bool false), (.slice none 0 0), (.slice none 0 0)]) 42 rfl o57 rfl (fun b40 s40 p40 B40 => ?_))
 have A42 := A36_1.st p40 rfl
 have A43 := A36_0.st p40 rfl
 refine sva' (vs := [(.bool ((at_ a0.t.Nodes a1).Leaf)), v36_0, v36_1]) B40 z57 rfl (Xg rfl (Xg A43.one (Xg A42.one Xu))) rfl (fun s44 p44 B44 => ?_)
 refine dn (sq (sr (Xn fa57_1 rfl (Xw B44 u52 rfl ?_))))
 have A46 := A43.st p44 rfl
 refine ln' A46 u52 rfl (Xb rfl (dn (bl ?_)))
 refine lpI (fun (x47 : Int) e w => ∃ (s : St) (e0 : Env), w = s.w ∧ e = upd (upd (upd (upd (upd (upd (upd (upd e0 0 (pB p0)) 2 (iI a2)) 3 w3_0) 4 w4_0) 11 (pB b40)) 62 v36_0) 63 (iI (((at_ a0.t.Nodes a1).Entries).length : Int))) 64 (iI x47) ∧ Kp s0 s ∧ BlF s p0 87 [w0_0, (iI a0.t.Root), (.map (some m0_1)), (iI a0.deep)] 2 ∧ MpF s m0_1 (mset a0.seen a1 true) 4 ∧ BlF s b40 57 [(.bool ((at_ a0.t.Nodes a1).Leaf)), v36_0, v36_1] 42 ∧ RdF Xz s [v36_0] ((at_ a0.t.Nodes a1).Entries) [0] ∧ RdF Ya s [v36_1] ((at_ a0.t.Nodes a1).Kids) [0]) ⟨s44, _, rfl, (ue (ue (ue (ue (ue (ue (ue (ue rfl rfl) rfl) rfl) rfl) rfl) rfl) rfl) rfl), (K34.st (Xo p40 p44) rfl), (A33.st (Xo p40 p44) rfl), (B31.st (Xo p40 p44) rfl), B44, A46, (A42.st p44 rfl)⟩ (fun g47 ih47 => ?_)
 rintro x47 _ _ ⟨s52, _, rfl, rfl, Kx47, Bx47_p0, Bx47_m0_1, Bx47_b40, Cx47_37, Cx47_38⟩
 unfold impl_treeCheck_check.b0
 refine sr (Xb rfl (dn (sq (cd rfl (fun h56 => ?_) (fun h56 => ?_)))))
 ·
  refine sk (sq (bl (sr (ix' Cx47_37 u52 z48 rfl (fun ad57 es57 h0_57 h1_57 he57 ce57 ia57 => ?_)))))
  obtain ⟨v57_0, v57_1, rfl, A57_0, A57_1⟩ := op48 he57
  refine lca ce57 u48 z48 rfl rfl rfl rfl rfl rfl rfl (al' (cs := [(iI 0), (iI 0), (.float .f64 0), (.slice none 0 0), (iI 0)]) 43 rfl o48 rfl (fun b60 s60 p60 B60 => ?_))
  have A62 := A57_1.st p60 rfl
  refine sva' (vs := [(iI (((at_ ((at_ a0.t.Nodes a1).Entries) x47).Key).Kind)), (iI (((at_ ((at_ a0.t.Nodes a1).Entries) x47).Key).N)), v57_0, v57_1, (iI ((at_ ((at_ a0.t.Nodes a1).Entries) x47).Id))]) B60 z48 rfl (Xg rfl (Xg rfl (Xg (FL.one A57_0) (Xg A62.one (Xg rfl Xu))))) rfl (fun s63 p63 B63 => ?_)
  refine dn (sq (zdraw [[], [0], [1], [2], [2], [4, 2], [5, 2], [3, 6, 2, 2], [7, 2], [2, 8], [9, 7], [10], [11, 10], [12, 10, 10], [13], [13], [15, 13], [16, 13], [14, 17, 13, 13], [18, 13], [13, 19, 10], [10, 20]] [some 68, some 69, some 70, some 71, some 72, some 73, some 74, some 75, some 76, some 77, some 78, some 79, some 80, some 81, some 82, some 83, some 84, some 85, some 86, some 87, some 88, some 89] [[3], [68], [69], [13, 70], [3, 70], [72, 70], [73, 70], [71, 74, 70], [75, 70], [70, 76], [77], [4, 78], [79, 78], [80, 78], [13, 81], [4, 81], [83, 81], [84, 81], [82, 85, 81], [86, 81], [81, 87, 78], [78, 88]] [0, 1, 2, 3, 4, 5, 6, 7, 8, 9, 10, 11, 12, 13, 14, 15, 16, 17, 18, 19, 20, 21] ⟨by kernel_rfl, by kernel_rfl, by kernel_rfl⟩ (by kernel_rfl) (fun s65 p65 l65 tb65 zd65 => ?_)))
  have zd70 := ((zd65.add 0 68 w3_0 rfl).add 1 69 (.bool (a3.isSome)) rfl).add 2 70 (.bool (a3.isSome)) rfl
  refine ji [] (fun (y71 : Bool) e w => ∃ (s : St) (e0 : Env), w = s.w ∧ e = upd (upd (upd (upd (upd (upd (upd (upd (upd e0 0 (pB p0)) 2 (iI a2)) 3 w3_0) 4 w4_0) 11 (pB b40)) 62 v36_0) 63 (iI (((at_ a0.t.Nodes a1).Entries).length : Int))) 64 (iI x47)) 89 (.bool y71) ∧ Kp s0 s ∧ BlF s p0 87 [w0_0, (iI a0.t.Root), (.map (some m0_1)), (iI a0.deep)] 2 ∧ MpF s m0_1 (mset a0.seen a1 true) 4 ∧ BlF s b40 57 [(.bool ((at_ a0.t.Nodes a1).Leaf)), v36_0, v36_1] 42 ∧ RdF Xz s [v36_0] ((at_ a0.t.Nodes a1).Entries) [0] ∧ RdF Ya s [v36_1] ((at_ a0.t.Nodes a1).Kids) [0]) (fun Gj71 Kj71 => ?_) ?_
  ·
   rcases bft (a3.isSome) with hb71 | hb71
   ·
    rw [if_pos hb71]
    rw [hb71] at zd70
    try rw [hb71]
    have K75 := Kx47.st (tr3 p60 p63 p65) rfl
    have A76 := A3_0.kp K75
    refine mg fun hg77 => ?_
    obtain ⟨ad77, es77, ead77, he77, ce77⟩ := op_open A76 hb71
    obtain ⟨v77_0, v77_1, rfl, A77_0, A77_1⟩ := op48 he77
    refine Xt 7 [] tb65 ((((zd70.add 3 71 (.agg #[(iI (((at_ ((at_ a0.t.Nodes a1).Entries) x47).Key).Kind)), (iI (((at_ ((at_ a0.t.Nodes a1).Entries) x47).Key).N)), v57_0, v57_1, (iI ((at_ ((at_ a0.t.Nodes a1).Entries) x47).Id))]) rfl).add 4 72 w3_0 rfl).add 5 73 (.pointer (some ad77)) rfl).add 6 74 (.agg #[(iI (((a3.getD default).Key).Kind)), (iI (((a3.getD default).Key).N)), v77_0, v77_1, (iI ((a3.getD default).Id))]) rfl) (Xa (lca_q' ce77 u48 z48 rfl) rfl (Xa (nck_q ead77 rfl rfl rfl rfl rfl rfl) rfl (Xa (Xp w3_0 rfl) rfl (Xa (Xs (es := [(iI (((at_ ((at_ a0.t.Nodes a1).Entries) x47).Key).Kind)), (iI (((at_ ((at_ a0.t.Nodes a1).Entries) x47).Key).N)), v57_0, v57_1, (iI ((at_ ((at_ a0.t.Nodes a1).Entries) x47).Id))]) (B63.st p65 rfl) u48 z48 rfl) rfl (Xa (Xc rfl) rfl (Xa (qv_b (opn_q A76 u103 rfl rfl rfl rfl rfl rfl) hb71) rfl (Xa (Xp w3_0 rfl) rfl Xh))))))) (by kernel_rfl) rfl (fun l82 e82 zd82 => ?_)
    have A84 := A62.st (Xo p63 p65) rfl
    refine clV 44 rfl func48 rfl (impl_compareEntries.calls (Entry.mk ((at_ ((at_ a0.t.Nodes a1).Entries) x47).Key) ((at_ ((at_ a0.t.Nodes a1).Entries) x47).Id)) (Entry.mk ((a3.getD default).Key) ((a3.getD default).Id)) s65.w (mm [0] s65) v57_0 v57_1 v77_0 v77_1 ((Xi (s := s65) A57_0).sub (D := [0]) rfl) A84 ((Xi (s := s65) A77_0).sub (D := [0]) rfl) A77_1) (fun r85 s86 p86 n86 => ?_)
    refine Xr (L' := []) (D' := [0, 1, 4, 5, 3, 6, 2, 2, 7]) zd82 rfl rfl rfl (fun zd87 => ?_)
    have zd90 := ((zd87.add 8 76 (.bool (decide (r85 < (0 : Int)))) rfl).add 9 77 (.bool (decide (r85 < (0 : Int)))) rfl).add 10 78 (.bool (decide (r85 < (0 : Int)))) rfl
    refine ji [] (fun (y91 : Bool × Bool) e w => ∃ (s : St) (e0 : Env), w = s.w ∧ e = upd (upd (upd (upd (upd (upd (upd (upd (upd (upd (upd (upd (upd (upd (upd e0 0 (pB p0)) 2 (iI a2)) 3 w3_0) 4 w4_0) 11 (pB b40)) 62 v36_0) 63 (iI (((at_ a0.t.Nodes a1).Entries).length : Int))) 64 (iI x47)) 71 (.agg #[(iI (((at_ ((at_ a0.t.Nodes a1).Entries) x47).Key).Kind)), (iI (((at_ ((at_ a0.t.Nodes a1).Entries) x47).Key).N)), v57_0, v57_1, (iI ((at_ ((at_ a0.t.Nodes a1).Entries) x47).Id))])) 72 w3_0) 73 (.pointer (some ad77))) 74 (.agg #[(iI (((a3.getD default).Key).Kind)), (iI (((a3.getD default).Key).N)), v77_0, v77_1, (iI ((a3.getD default).Id))])) 75 (iI r85)) 76 (.bool y91.1)) 89 (.bool y91.2) ∧ Kp s0 s ∧ BlF s p0 87 [w0_0, (iI a0.t.Root), (.map (some m0_1)), (iI a0.deep)] 2 ∧ MpF s m0_1 (mset a0.seen a1 true) 4 ∧ BlF s b40 57 [(.bool ((at_ a0.t.Nodes a1).Leaf)), v36_0, v36_1] 42 ∧ RdF Xz s [v36_0] ((at_ a0.t.Nodes a1).Entries) [0] ∧ RdF Xy s [v57_1] (((at_ ((at_ a0.t.Nodes a1).Entries) x47).Key).T) [0] ∧ RdF Xy s [v77_1] (((a3.getD default).Key).T) [0] ∧ RdF Ya s [v36_1] ((at_ a0.t.Nodes a1).Kids) [0]) (fun Gj91 Kj91 => ?_) ?_
    ·
     rcases bft (decide (r85 < (0 : Int))) with hb91 | hb91
     ·
      rw [if_pos hb91]
      rw [hb91] at zd90
      try rw [hb91]
      refine Xx [18, 19, 20, 21] tb65 (((((((zd90.add 11 79 undef rfl).add 12 80 undef rfl).add 13 81 undef rfl).add 14 82 undef rfl).add 15 83 undef rfl).add 16 84 undef rfl).add 17 85 undef rfl) (Xa (Xe rfl) rfl (Xa (Xe rfl) rfl (Xa (Xe rfl) rfl (Xa (Xe rfl) rfl (Xa (Xe rfl) rfl (Xa (Xe rfl) rfl (Xa (Xe rfl) rfl (Xa (Xc rfl) rfl (Xa (Xc rfl) rfl (Xa (qv_b (Xc rfl) hb91) rfl Xh)))))))))) (by kernel_rfl) (by decide) (Xk rfl (Xk rfl (Xk rfl (Xb rfl ?_))))
      exact Kj91 _ _ _ ⟨s86, _, rfl, (ue (ue (ue (ue (ue (ue (ue (ue (ue (ue (ue (ue (ue (ue (ue rfl rfl) rfl) rfl) rfl) rfl) rfl) rfl) rfl) rfl) rfl) rfl) rfl) rfl) rfl) rfl), (K75.st p86 rfl), (Bx47_p0.st (tr4 p60 p63 p65 p86) rfl), (Bx47_m0_1.st (tr4 p60 p63 p65 p86) rfl), (Bx47_b40.st (tr4 p60 p63 p65 p86) rfl), (Cx47_37.st (tr4 p60 p63 p65 p86) rfl), (A84.st p86 rfl), (A77_1.st p86 rfl), (Cx47_38.st (tr4 p60 p63 p65 p86) rfl)⟩
     rw [if_neg (by rw [hb91]; decide)]
     rw [hb91] at zd90
     try rw [hb91]
     have zd111 := ((zd90.add 11 79 w4_0 rfl).add 12 80 (.bool (a4.isSome)) rfl).add 13 81 (.bool (a4.isSome)) rfl
     refine ji [21] (fun (y112 : Bool × Bool × Bool) e w => ∃ (s : St) (e0 : Env), w = s.w ∧ e = upd (upd (upd (upd (upd (upd (upd (upd (upd (upd (upd (upd (upd (upd (upd (upd (upd (upd (upd e0 0 (pB p0)) 2 (iI a2)) 3 w3_0) 4 w4_0) 11 (pB b40)) 62 v36_0) 63 (iI (((at_ a0.t.Nodes a1).Entries).length : Int))) 64 (iI x47)) 71 (.agg #[(iI (((at_ ((at_ a0.t.Nodes a1).Entries) x47).Key).Kind)), (iI (((at_ ((at_ a0.t.Nodes a1).Entries) x47).Key).N)), v57_0, v57_1, (iI ((at_ ((at_ a0.t.Nodes a1).Entries) x47).Id))])) 72 w3_0) 73 (.pointer (some ad77))) 74 (.agg #[(iI (((a3.getD default).Key).Kind)), (iI (((a3.getD default).Key).N)), v77_0, v77_1, (iI ((a3.getD default).Id))])) 75 (iI r85)) 76 (.bool false)) 78 (.bool false)) 79 w4_0) 80 (.bool y112.1)) 81 (.bool y112.2.1)) 88 (.bool y112.2.2) ∧ Kp s0 s ∧ BlF s p0 87 [w0_0, (iI a0.t.Root), (.map (some m0_1)), (iI a0.deep)] 2 ∧ MpF s m0_1 (mset a0.seen a1 true) 4 ∧ BlF s b40 57 [(.bool ((at_ a0.t.Nodes a1).Leaf)), v36_0, v36_1] 42 ∧ RdF Xz s [v36_0] ((at_ a0.t.Nodes a1).Entries) [0] ∧ RdF Xy s [v57_1] (((at_ ((at_ a0.t.Nodes a1).Entries) x47).Key).T) [0] ∧ RdF Xy s [v77_1] (((a3.getD default).Key).T) [0] ∧ RdF Ya s [v36_1] ((at_ a0.t.Nodes a1).Kids) [0]) (fun Gj112 Kj112 => ?_) ?_
     ·
      rcases bft (a4.isSome) with hb112 | hb112
      ·
       rw [if_pos hb112]
       rw [hb112] at zd111
       try rw [hb112]
       have K116 := K75.st p86 rfl
       have A117 := A4_0.kp K116
       refine mg fun hg118 => ?_
       obtain ⟨ad118, es118, ead118, he118, ce118⟩ := op_open A117 hb112
       obtain ⟨v118_0, v118_1, rfl, A118_0, A118_1⟩ := op48 he118
       refine Xx [18, 19, 20, 21] tb65 ((((zd111.add 14 82 (.agg #[(iI (((at_ ((at_ a0.t.Nodes a1).Entries) x47).Key).Kind)), (iI (((at_ ((at_ a0.t.Nodes a1).Entries) x47).Key).N)), v57_0, v57_1, (iI ((at_ ((at_ a0.t.Nodes a1).Entries) x47).Id))]) rfl).add 15 83 w4_0 rfl).add 16 84 (.pointer (some ad118)) rfl).add 17 85 (.agg #[(iI (((a4.getD default).Key).Kind)), (iI (((a4.getD default).Key).N)), v118_0, v118_1, (iI ((a4.getD default).Id))]) rfl) (Xa (lca_q' ce118 u48 z48 rfl) rfl (Xa (nck_q ead118 rfl rfl rfl rfl rfl rfl) rfl (Xa (Xp w4_0 rfl) rfl (Xa (Xs (es := [(iI (((at_ ((at_ a0.t.Nodes a1).Entries) x47).Key).Kind)), (iI (((at_ ((at_ a0.t.Nodes a1).Entries) x47).Key).N)), v57_0, v57_1, (iI ((at_ ((at_ a0.t.Nodes a1).Entries) x47).Id))]) (B63.st (Xo p65 p86) rfl) u48 z48 rfl) rfl (Xa (Xc rfl) rfl (Xa (qv_b (opn_q A117 u103 rfl rfl rfl rfl rfl rfl) hb112) rfl (Xa (Xp w4_0 rfl) rfl (Xa (Xc rfl) rfl (Xa (Xc rfl) rfl (Xa (qv_b (Xc rfl) hb91) rfl Xh)))))))))) (by kernel_rfl) (by decide) ?_
       have A124 := A84.st p86 rfl
       refine clV 45 rfl func48 rfl (impl_compareEntries.calls (Entry.mk ((at_ ((at_ a0.t.Nodes a1).Entries) x47).Key) ((at_ ((at_ a0.t.Nodes a1).Entries) x47).Id)) (Entry.mk ((a4.getD default).Key) ((a4.getD default).Id)) s86.w (mm [0] s86) v57_0 v57_1 v118_0 v118_1 ((Xi (s := s86) A57_0).sub (D := [0]) rfl) A124 ((Xi (s := s86) A118_0).sub (D := [0]) rfl) A118_1) (fun r125 s126 p126 n126 => ?_)
       refine Xb rfl (Xb rfl ?_)
       exact Kj112 _ _ _ ⟨s126, _, rfl, (ue (ue (ue (ue (ue (ue (ue (ue (ue (ue (ue (ue (ue (ue (ue (ue (ue (ue (ue rfl rfl) rfl) rfl) rfl) rfl) rfl) rfl) rfl) rfl) rfl) rfl) rfl) rfl) rfl) rfl) rfl) rfl) rfl) rfl), (K116.st p126 rfl), (Bx47_p0.st (tr5 p60 p63 p65 p86 p126) rfl), (Bx47_m0_1.st (tr5 p60 p63 p65 p86 p126) rfl), (Bx47_b40.st (tr5 p60 p63 p65 p86 p126) rfl), (Cx47_37.st (tr5 p60 p63 p65 p86 p126) rfl), (A124.st p126 rfl), (A77_1.st (Xo p86 p126) rfl), (Cx47_38.st (tr5 p60 p63 p65 p86 p126) rfl)⟩
      rw [if_neg (by rw [hb112]; decide)]
      rw [hb112] at zd111
      try rw [hb112]
      refine Xx [18, 19, 20, 21] tb65 ((((zd111.add 14 82 undef rfl).add 15 83 undef rfl).add 16 84 undef rfl).add 17 85 undef rfl) (Xa (Xe rfl) rfl (Xa (Xe rfl) rfl (Xa (Xe rfl) rfl (Xa (Xe rfl) rfl (Xa (Xc rfl) rfl (Xa (qv_b (opn_q (A4_0.kp (K75.st p86 rfl)) u103 rfl rfl rfl rfl rfl rfl) hb112) rfl (Xa (Xp w4_0 rfl) rfl (Xa (Xc rfl) rfl (Xa (Xc rfl) rfl (Xa (qv_b (Xc rfl) hb91) rfl Xh)))))))))) (by kernel_rfl) (by decide) (Xk rfl (Xk rfl (Xb rfl ?_)))
      exact Kj112 _ _ _ ⟨s86, _, rfl, (ue (ue (ue (ue (ue (ue (ue (ue (ue (ue (ue (ue (ue (ue (ue (ue (ue (ue (ue rfl rfl) rfl) rfl) rfl) rfl) rfl) rfl) rfl) rfl) rfl) rfl) rfl) rfl) rfl) rfl) rfl) rfl) rfl) rfl), (K75.st p86 rfl), (Bx47_p0.st (tr4 p60 p63 p65 p86) rfl), (Bx47_m0_1.st (tr4 p60 p63 p65 p86) rfl), (Bx47_b40.st (tr4 p60 p63 p65 p86) rfl), (Cx47_37.st (tr4 p60 p63 p65 p86) rfl), (A84.st p86 rfl), (A77_1.st p86 rfl), (Cx47_38.st (tr4 p60 p63 p65 p86) rfl)⟩
     rintro y112 _ _ ⟨s149, _, rfl, rfl, Ky112, By112_p0, By112_m0_1, By112_b40, Cy112_37, Cy112_58, Cy112_78, Cy112_38⟩
     exact Xb rfl (Kj91 _ _ _ ⟨s149, _, rfl, (ue (ue (ue (ue (ue (ue (ue (ue (ue (ue (ue (ue (ue (ue (ue rfl rfl) rfl) rfl) rfl) rfl) rfl) rfl) rfl) rfl) rfl) rfl) rfl) rfl) rfl) rfl), Ky112, By112_p0, By112_m0_1, By112_b40, Cy112_37, Cy112_58, Cy112_78, Cy112_38⟩)
    rintro y91 _ _ ⟨s153, _, rfl, rfl, Ky91, By91_p0, By91_m0_1, By91_b40, Cy91_37, Cy91_58, Cy91_78, Cy91_38⟩
    exact Kj71 _ _ _ ⟨s153, _, rfl, (ue (ue (ue (ue (ue (ue (ue (ue (ue rfl rfl) rfl) rfl) rfl) rfl) rfl) rfl) rfl) rfl), Ky91, By91_p0, By91_m0_1, By91_b40, Cy91_37, Cy91_38⟩
   rw [if_neg (by rw [hb71]; decide)]
   rw [hb71] at zd70
   try rw [hb71]
   have zd169 := ((((((((((zd70.add 3 71 undef rfl).add 4 72 undef rfl).add 5 73 undef rfl).add 6 74 undef rfl).add 7 75 undef rfl).add 8 76 undef rfl).add 9 77 (.bool false) rfl).add 10 78 (.bool false) rfl).add 11 79 w4_0 rfl).add 12 80 (.bool (a4.isSome)) rfl).add 13 81 (.bool (a4.isSome)) rfl
   refine ji [21] (fun (y170 : Bool × Bool × Bool) e w => ∃ (s : St) (e0 : Env), w = s.w ∧ e = upd (upd (upd (upd (upd (upd (upd (upd (upd (upd (upd (upd (upd e0 0 (pB p0)) 2 (iI a2)) 3 w3_0) 4 w4_0) 11 (pB b40)) 62 v36_0) 63 (iI (((at_ a0.t.Nodes a1).Entries).length : Int))) 64 (iI x47)) 78 (.bool false)) 79 w4_0) 80 (.bool y170.1)) 81 (.bool y170.2.1)) 88 (.bool y170.2.2) ∧ Kp s0 s ∧ BlF s p0 87 [w0_0, (iI a0.t.Root), (.map (some m0_1)), (iI a0.deep)] 2 ∧ MpF s m0_1 (mset a0.seen a1 true) 4 ∧ BlF s b40 57 [(.bool ((at_ a0.t.Nodes a1).Leaf)), v36_0, v36_1] 42 ∧ RdF Xz s [v36_0] ((at_ a0.t.Nodes a1).Entries) [0] ∧ RdF Ya s [v36_1] ((at_ a0.t.Nodes a1).Kids) [0]) (fun Gj170 Kj170 => ?_) ?_
   ·
    rcases bft (a4.isSome) with hb170 | hb170
    ·
     rw [if_pos hb170]
     rw [hb170] at zd169
     try rw [hb170]
     have K174 := Kx47.st (tr3 p60 p63 p65) rfl
     have A175 := A4_0.kp K174
     refine mg fun hg176 => ?_
     obtain ⟨ad176, es176, ead176, he176, ce176⟩ := op_open A175 hb170
     obtain ⟨v176_0, v176_1, rfl, A176_0, A176_1⟩ := op48 he176
     refine Xx [18, 19, 20, 21] tb65 ((((zd169.add 14 82 (.agg #[(iI (((at_ ((at_ a0.t.Nodes a1).Entries) x47).Key).Kind)), (iI (((at_ ((at_ a0.t.Nodes a1).Entries) x47).Key).N)), v57_0, v57_1, (iI ((at_ ((at_ a0.t.Nodes a1).Entries) x47).Id))]) rfl).add 15 83 w4_0 rfl).add 16 84 (.pointer (some ad176)) rfl).add 17 85 (.agg #[(iI (((a4.getD default).Key).Kind)), (iI (((a4.getD default).Key).N)), v176_0, v176_1, (iI ((a4.getD default).Id))]) rfl) (Xa (lca_q' ce176 u48 z48 rfl) rfl (Xa (nck_q ead176 rfl rfl rfl rfl rfl rfl) rfl (Xa (Xp w4_0 rfl) rfl (Xa (Xs (es := [(iI (((at_ ((at_ a0.t.Nodes a1).Entries) x47).Key).Kind)), (iI (((at_ ((at_ a0.t.Nodes a1).Entries) x47).Key).N)), v57_0, v57_1, (iI ((at_ ((at_ a0.t.Nodes a1).Entries) x47).Id))]) (B63.st p65 rfl) u48 z48 rfl) rfl (Xa (Xc rfl) rfl (Xa (qv_b (opn_q A175 u103 rfl rfl rfl rfl rfl rfl) hb170) rfl (Xa (Xp w4_0 rfl) rfl (Xa (Xc rfl) rfl (Xa (Xc rfl) rfl (Xa (Xe rfl) rfl (Xa (Xe rfl) rfl (Xa (Xe rfl) rfl (Xa (Xe rfl) rfl (Xa (Xe rfl) rfl (Xa (Xe rfl) rfl (Xa (Xc rfl) rfl (Xa (qv_b (opn_q (A3_0.kp K174) u103 rfl rfl rfl rfl rfl rfl) hb71) rfl (Xa (Xp w3_0 rfl) rfl Xh)))))))))))))))))) (by kernel_rfl) (by decide) (clV 46 rfl func48 rfl (impl_compareEntries.calls (Entry.mk ((at_ ((at_ a0.t.Nodes a1).Entries) x47).Key) ((at_ ((at_ a0.t.Nodes a1).Entries) x47).Id)) (Entry.mk ((a4.getD default).Key) ((a4.getD default).Id)) s65.w (mm [0] s65) v57_0 v57_1 v176_0 v176_1 ((Xi (s := s65) A57_0).sub (D := [0]) rfl) (A62.st (Xo p63 p65) rfl) ((Xi (s := s65) A176_0).sub (D := [0]) rfl) A176_1) (fun r184 s185 p185 n185 => ?_))
     refine Xb rfl (Xb rfl ?_)
     exact Kj170 _ _ _ ⟨s185, _, rfl, (ue (ue (ue (ue (ue (ue (ue (ue (ue (ue (ue (ue (ue rfl rfl) rfl) rfl) rfl) rfl) rfl) rfl) rfl) rfl) rfl) rfl) rfl) rfl), (K174.st p185 rfl), (Bx47_p0.st (tr4 p60 p63 p65 p185) rfl), (Bx47_m0_1.st (tr4 p60 p63 p65 p185) rfl), (Bx47_b40.st (tr4 p60 p63 p65 p185) rfl), (Cx47_37.st (tr4 p60 p63 p65 p185) rfl), (Cx47_38.st (tr4 p60 p63 p65 p185) rfl)⟩
    rw [if_neg (by rw [hb170]; decide)]
    rw [hb170] at zd169
    try rw [hb170]
    refine Xx [18, 19, 20, 21] tb65 ((((zd169.add 14 82 undef rfl).add 15 83 undef rfl).add 16 84 undef rfl).add 17 85 undef rfl) (Xa (Xe rfl) rfl (Xa (Xe rfl) rfl (Xa (Xe rfl) rfl (Xa (Xe rfl) rfl (Xa (Xc rfl) rfl (Xa (qv_b (opn_q (A4_0.kp (Kx47.st (tr3 p60 p63 p65) rfl)) u103 rfl rfl rfl rfl rfl rfl) hb170) rfl (Xa (Xp w4_0 rfl) rfl (Xa (Xc rfl) rfl (Xa (Xc rfl) rfl (Xa (Xe rfl) rfl (Xa (Xe rfl) rfl (Xa (Xe rfl) rfl (Xa (Xe rfl) rfl (Xa (Xe rfl) rfl (Xa (Xe rfl) rfl (Xa (Xc rfl) rfl (Xa (qv_b (opn_q (A3_0.kp (Kx47.st (tr3 p60 p63 p65) rfl)) u103 rfl rfl rfl rfl rfl rfl) hb71) rfl (Xa (Xp w3_0 rfl) rfl Xh)))))))))))))))))) (by kernel_rfl) (by decide) (Xk rfl (Xk rfl (Xb rfl ?_)))
    exact Kj170 _ _ _ ⟨s65, _, rfl, (ue (ue (ue (ue (ue (ue (ue (ue (ue (ue (ue (ue (ue rfl rfl) rfl) rfl) rfl) rfl) rfl) rfl) rfl) rfl) rfl) rfl) rfl) rfl), (Kx47.st (tr3 p60 p63 p65) rfl), (Bx47_p0.st (tr3 p60 p63 p65) rfl), (Bx47_m0_1.st (tr3 p60 p63 p65) rfl), (Bx47_b40.st (tr3 p60 p63 p65) rfl), (Cx47_37.st (tr3 p60 p63 p65) rfl), (Cx47_38.st (tr3 p60 p63 p65) rfl)⟩
   rintro y170 _ _ ⟨s206, _, rfl, rfl, Ky170, By170_p0, By170_m0_1, By170_b40, Cy170_37, Cy170_38⟩
   exact Xb rfl (Kj71 _ _ _ ⟨s206, _, rfl, (ue (ue (ue (ue (ue (ue (ue (ue (ue rfl rfl) rfl) rfl) rfl) rfl) rfl) rfl) rfl) rfl), Ky170, By170_p0, By170_m0_1, By170_b40, Cy170_37, Cy170_38⟩)
  rintro y71 _ _ ⟨s210, _, rfl, rfl, Ky71, By71_p0, By71_m0_1, By71_b40, Cy71_37, Cy71_38⟩
  refine dn (cd rfl (fun h214 => ?_) (fun h214 => ?_))
  ·
   exact sr (Xb rfl (dn (sgi (re rfl func45 rfl (Xq rfl Xf) rfl ⟨_, rfl, s210, rfl, rfl, Ky71, By71_p0, By71_m0_1⟩))))
  exact sk (ib (rg (Xb rfl (Xb rfl (dn (lb ih47 ⟨s210, _, rfl, (ue (ue (ue (ue (ue (ue (ue (ue rfl rfl) rfl) rfl) rfl) rfl) rfl) rfl) rfl), Ky71, By71_p0, By71_m0_1, By71_b40, Cy71_37, Cy71_38⟩))))))
 refine xt rfl (sgb (sq (sr (Xn fa57_0 rfl (Xw Bx47_b40 u4 rfl (dn (cd rfl (fun h215 => ?_) (fun h215 => ?_))))))))
 ·
  refine sq (sr (Xb rfl (Xb rfl (Xn fa87_2 rfl (Xw Bx47_p0 u3 rfl (Xb rfl (dn (jc (fun (y216 : Int) e w => ∃ (s : St) (e0 : Env), w = s.w ∧ e = upd (upd e0 0 (pB p0)) 2 (iI a2) ∧ Kp s0 s ∧ BlF s p0 87 [w0_0, (iI a0.t.Root), (.map (some m0_1)), (iI y216)] 2 ∧ MpF s m0_1 (mset a0.seen a1 true) 4) (fun Gj216 Kj216 => ?_) ?_))))))))
  ·
   refine cd rfl (fun h217 => ?_) (fun h217 => ?_)
   ·
    refine rg (Xb rfl (Xb rfl (Xb rfl (Xn fa87_2 rfl (sv Bx47_p0 z3 rfl rfl rfl rfl rfl rfl rfl rfl (fun s218 p218 B218 => ?_))))))
    exact dn (Kj216 _ _ _ ⟨s218, _, rfl, (ue (ue rfl rfl) rfl), (Kx47.st p218 rfl), B218, (Bx47_m0_1.st p218 rfl)⟩)
   exact sk (Kj216 _ _ _ ⟨s52, _, rfl, (ue (ue rfl rfl) rfl), Kx47, Bx47_p0, Bx47_m0_1⟩)
  rintro y216 _ _ ⟨s222, _, rfl, rfl, Ky216, By216_p0, By216_m0_1⟩
  exact sr (Xb rfl (Xb rfl (Xn fa87_2 rfl (Xw By216_p0 u3 rfl (Xb rfl (Xb rfl (Xb rfl (dn (re rfl func45 rfl (Xq rfl Xf) rfl ⟨_, rfl, s222, rfl, rfl, Ky216, By216_p0, By216_m0_1⟩)))))))))
 refine sk (sq (sr (Xn fa57_2 rfl (Xw Bx47_b40 u55 rfl (ln' Cx47_38 u55 rfl (Xb rfl (dn (bl (lpI (fun (x225 : Int × Int × Int × MD) e w => ∃ (s : St) (e0 : Env), w = s.w ∧ e = upd (upd (upd (upd (upd (upd (upd (upd e0 0 (pB p0)) 2 (iI a2)) 3 w3_0) 4 w4_0) 11 (pB b40)) 109 v36_1) 110 (iI (((at_ a0.t.Nodes a1).Kids).length : Int))) 111 (iI x225.1) ∧ Kp s0 s ∧ BlF s p0 87 [w0_0, (iI x225.2.1), (.map (some m0_1)), (iI x225.2.2.1)] 2 ∧ MpF s m0_1 x225.2.2.2 4 ∧ BlF s b40 57 [(.bool ((at_ a0.t.Nodes a1).Leaf)), v36_0, v36_1] 42 ∧ RdF Ya s [v36_1] ((at_ a0.t.Nodes a1).Kids) [0] ∧ RdF Xz s [v36_0] ((at_ a0.t.Nodes a1).Entries) [0]) ⟨s52, _, rfl, (ue (ue (ue (ue (ue (ue (ue (ue rfl rfl) rfl) rfl) rfl) rfl) rfl) rfl) rfl), Kx47, Bx47_p0, Bx47_m0_1, Bx47_b40, Cx47_38, Cx47_37⟩ (fun g225 ih225 => ?_))))))))))
 rintro x225 _ _ ⟨s226, _, rfl, rfl, Kx225, Bx225_p0, Bx225_m0_1, Bx225_b40, Cx225_38, Cx225_37⟩
 unfold impl_treeCheck_check.b1
 refine sr (Xb rfl (dn (sq (cd rfl (fun h230 => ?_) (fun h230 => ?_)))))
 ·
  refine sk (sq (bl (sr (Xb rfl (ix' Cx225_38 u55 z3 rfl (fun ad231 es231 h0_231 h1_231 he231 ce231 ia231 => ?_))))))
  obtain rfl := he231
  refine lc0 ce231 u3 rfl rfl rfl rfl rfl rfl rfl rfl (Xb rfl (Xb rfl (dn (sr (Xv w3_0 rfl (Xv w4_0 rfl (asg' w3_0 rfl (asg' w4_0 rfl (dn (sq (sr (Xb rfl (Xb rfl (dn ?_))))))))))))))
  refine jc (fun (y233 : (Option Entry)) e w => ∃ (s : St) (e0 : Env) (vy233_0 : Value), w = s.w ∧ e = upd (upd (upd (upd (upd (upd (upd (upd (upd (upd (upd (upd e0 0 (pB p0)) 2 (iI a2)) 3 w3_0) 4 w4_0) 11 (pB b40)) 14 (iI x225.1)) 15 (iI (at_ ((at_ a0.t.Nodes a1).Kids) x225.1))) 16 vy233_0) 17 w4_0) 109 v36_1) 110 (iI (((at_ a0.t.Nodes a1).Kids).length : Int))) 111 (iI x225.1) ∧ Kp s0 s ∧ RdF (Kd.op kd48) s [vy233_0] y233 [0] ∧ BlF s p0 87 [w0_0, (iI x225.2.1), (.map (some m0_1)), (iI x225.2.2.1)] 2 ∧ MpF s m0_1 x225.2.2.2 4 ∧ BlF s b40 57 [(.bool ((at_ a0.t.Nodes a1).Leaf)), v36_0, v36_1] 42 ∧ RdF Ya s [v36_1] ((at_ a0.t.Nodes a1).Kids) [0] ∧ RdF Xz s [v36_0] ((at_ a0.t.Nodes a1).Entries) [0]) (fun Gj233 Kj233 => ?_) ?_
  ·
   refine cd rfl (fun h234 => ?_) (fun h234 => ?_)
   ·
    refine rg (Xn fa57_1 rfl (Xw Bx225_b40 u52 rfl (Xb rfl (Xb rfl (ix' Cx225_37 u52 z48 rfl (fun ad235 es235 h0_235 h1_235 he235 ce235 ia235 => ?_))))))
    obtain ⟨v235_0, v235_1, rfl, A235_0, A235_1⟩ := op48 he235
    exact asg' (.pointer (some ad235)) rfl (dn (Kj233 _ _ _ ⟨s226, _, (.pointer (some ad235)), rfl, (ue (ue (ue (ue (ue (ue (ue (ue (ue (ue (ue (ue rfl rfl) rfl) rfl) rfl) rfl) rfl) rfl) rfl) rfl) rfl) rfl) rfl), Kx225, (op_some (K := kd48) (x := (at_ ((at_ a0.t.Nodes a1).Entries) (IntKind.wrap .i64 (x225.1 - (1 : Int))))) [0] (mk48 (x := (Entry.mk ((at_ ((at_ a0.t.Nodes a1).Entries) (IntKind.wrap .i64 (x225.1 - (1 : Int)))).Key) ((at_ ((at_ a0.t.Nodes a1).Entries) (IntKind.wrap .i64 (x225.1 - (1 : Int)))).Id))) A235_0 A235_1) ce235 rfl rfl rfl), Bx225_p0, Bx225_m0_1, Bx225_b40, Cx225_38, Cx225_37⟩))
   exact sk (Kj233 _ _ _ ⟨s226, _, w3_0, rfl, (ue (ue (ue (ue (ue (ue (ue (ue (ue (ue (ue (ue rfl rfl) rfl) rfl) rfl) rfl) rfl) rfl) rfl) rfl) rfl) rfl) rfl), Kx225, (A3_0.kp Kx225), Bx225_p0, Bx225_m0_1, Bx225_b40, Cx225_38, Cx225_37⟩)
  rintro y233 _ _ ⟨s241, _, vy233_0, rfl, rfl, Ky233, Ay233_0, By233_p0, By233_m0_1, By233_b40, Cy233_38, Cy233_37⟩
  refine sq (sr (Xb rfl (Xn fa57_1 rfl (Xw By233_b40 u52 rfl (ln' Cy233_37 u52 rfl (Xb rfl (dn (jc (fun (y246 : (Option Entry)) e w => ∃ (s : St) (e0 : Env) (vy246_0 : Value), w = s.w ∧ e = upd (upd (upd (upd (upd (upd (upd (upd (upd (upd (upd e0 0 (pB p0)) 2 (iI a2)) 3 w3_0) 4 w4_0) 11 (pB b40)) 15 (iI (at_ ((at_ a0.t.Nodes a1).Kids) x225.1))) 16 vy233_0) 17 vy246_0) 109 v36_1) 110 (iI (((at_ a0.t.Nodes a1).Kids).length : Int))) 111 (iI x225.1) ∧ Kp s0 s ∧ RdF (Kd.op kd48) s [vy246_0] y246 [0] ∧ BlF s p0 87 [w0_0, (iI x225.2.1), (.map (some m0_1)), (iI x225.2.2.1)] 2 ∧ MpF s m0_1 x225.2.2.2 4 ∧ BlF s b40 57 [(.bool ((at_ a0.t.Nodes a1).Leaf)), v36_0, v36_1] 42 ∧ RdF (Kd.op kd48) s [vy233_0] y233 [0] ∧ RdF Ya s [v36_1] ((at_ a0.t.Nodes a1).Kids) [0] ∧ RdF Xz s [v36_0] ((at_ a0.t.Nodes a1).Entries) [0]) (fun Gj246 Kj246 => ?_) ?_))))))))
  ·
   refine cd rfl (fun h247 => ?_) (fun h247 => ?_)
   ·
    refine rg (Xn fa57_1 rfl (Xw By233_b40 u52 rfl (Xb rfl (ix' Cy233_37 u52 z48 rfl (fun ad248 es248 h0_248 h1_248 he248 ce248 ia248 => ?_)))))
    obtain ⟨v248_0, v248_1, rfl, A248_0, A248_1⟩ := op48 he248
    exact asg' (.pointer (some ad248)) rfl (dn (Kj246 _ _ _ ⟨s241, _, (.pointer (some ad248)), rfl, (ue (ue (ue (ue (ue (ue (ue (ue (ue (ue (ue rfl rfl) rfl) rfl) rfl) rfl) rfl) rfl) rfl) rfl) rfl) rfl), Ky233, (op_some (K := kd48) (x := (at_ ((at_ a0.t.Nodes a1).Entries) x225.1)) [0] (mk48 (x := (Entry.mk ((at_ ((at_ a0.t.Nodes a1).Entries) x225.1).Key) ((at_ ((at_ a0.t.Nodes a1).Entries) x225.1).Id))) A248_0 A248_1) ce248 rfl rfl rfl), By233_p0, By233_m0_1, By233_b40, Ay233_0, Cy233_38, Cy233_37⟩))
   exact sk (Kj246 _ _ _ ⟨s241, _, w4_0, rfl, (ue (ue (ue (ue (ue (ue (ue (ue (ue (ue (ue rfl rfl) rfl) rfl) rfl) rfl) rfl) rfl) rfl) rfl) rfl) rfl), Ky233, (A4_0.kp Ky233), By233_p0, By233_m0_1, By233_b40, Ay233_0, Cy233_38, Cy233_37⟩)
  rintro y246 _ _ ⟨s254, _, vy246_0, rfl, rfl, Ky246, Ay246_0, By246_p0, By246_m0_1, By246_b40, Cy246_242, Cy246_38, Cy246_37⟩
  refine sr (Xb rfl (Xb rfl (Xb rfl (Xb rfl (Xv vy233_0 rfl (Xv vy246_0 rfl ?_))))))
  refine cl' rfl func45 rfl (fun r260 m260 => hR (treeCheck.mk (Tree.mk a0.t.Nodes x225.2.1) x225.2.2.2 x225.2.2.1) (at_ ((at_ a0.t.Nodes a1).Kids) x225.1) (IntKind.wrap .i64 (a2 + (1 : Int))) y233 y246 (vw [0] [(4, 4), (2, 2)] s254) (vw_lt rfl) p0 w0_0 m0_1 vy233_0 vy246_0 (RdF.vw (A0_0.kp Ky246) rfl) (MpF.vw By246_m0_1 rfl (by simp)) (BlF.vw By246_p0 rfl (by simp)) (RdF.vw Cy246_242 rfl) (RdF.vw Ay246_0 rfl) r260 m260) ?_
  rintro r260 _ _ m260 ⟨t260, rfl, rfl, kp260, bw260, uf260_0⟩
  have hw261 : t260.w = (bk [(4, 4), (2, 2)] 47 s254 t260).w := rfl
  have p261 := bk_st (D := [0]) (M := [(4, 4), (2, 2)]) (cn := 47) rfl kp260
  have B261 := BlF.bk (D := [0]) (M := [(4, 4), (2, 2)]) (cn := 47) (c := 2) bw260 rfl (by simp) kp260
  have U261_0 := MpF.bk (D := [0]) (M := [(4, 4), (2, 2)]) (cn := 47) (c := 4) uf260_0 rfl (by simp) kp260
  generalize bk [(4, 4), (2, 2)] 47 s254 t260 = s261 at hw261 p261 B261 U261_0
  rw [hw261]
  refine Xb rfl (dn (cd rfl (fun h264 => ?_) (fun h264 => ?_)))
  ·
   refine sr (Xb rfl (dn (sgi ?_)))
   exact re rfl func45 rfl (Xq rfl Xf) rfl ⟨_, rfl, s261, rfl, rfl, (Ky246.st p261 rfl), B261, U261_0⟩
  refine sk (ib (rg (Xb rfl (Xb rfl (dn ?_)))))
  exact lb ih225 ⟨s261, _, rfl, (ue (ue (ue (ue (ue (ue (ue (ue rfl rfl) rfl) rfl) rfl) rfl) rfl) rfl) rfl), (Ky246.st p261 rfl), B261, U261_0, (By246_b40.st p261 rfl), (Cy246_38.st p261 rfl), (Cy246_37.st p261 rfl)⟩
 exact xt rfl (sgb (sr (Xb rfl (dn (re rfl func45 rfl (Xq rfl Xf) rfl ⟨_, rfl, s226, rfl, rfl, Kx225, Bx225_p0, Bx225_m0_1⟩)))))
theorem impl_treeCheck_check.callsN : ∀ n : Nat, ∀ (a0 : treeCheck) (a1 : Int) (a2 : Int) (a3 : (Option Entry)) (a4 : (Option Entry)) (s0 : St) (z0 : ∀ b, s0.g b < 40) (p0 : Nat) (w0_0 : Value) (m0_1 : Nat) (w3_0 : Value) (w4_0 : Value) (A0_0 : RdF Yb s0 [w0_0] a0.t.Nodes [0]) (A0_1 : MpF s0 m0_1 a0.seen 4) (B0 : BlF s0 p0 87 [w0_0, (iI a0.t.Root), (.map (some m0_1)), (iI a0.deep)] 2) (A3_0 : RdF (Kd.op kd48) s0 [w3_0] a3 [0]) (A4_0 : RdF (Kd.op kd48) s0 [w4_0] a4 [0]) (r : Bool × treeCheck) (m : impl_treeCheck_check.g n a0 a1 a2 a3 a4 = some r), Calls prog 45 #[(pB p0), (iI a1), (iI a2), w3_0, w4_0] s0.w (RT (impl_treeCheck_check.Q s0 p0 w0_0 m0_1) r)
 | 0 => by intros; rename_i m; cases m
 | n + 1 => impl_treeCheck_check.callsR (impl_treeCheck_check.g n) (impl_treeCheck_check.callsN n)
theorem impl_treeCheck_check.calls : ∀ (a0 : treeCheck) (a1 : Int) (a2 : Int) (a3 : (Option Entry)) (a4 : (Option Entry)) (s0 : St) (z0 : ∀ b, s0.g b < 40) (p0 : Nat) (w0_0 : Value) (m0_1 : Nat) (w3_0 : Value) (w4_0 : Value) (A0_0 : RdF Yb s0 [w0_0] a0.t.Nodes [0]) (A0_1 : MpF s0 m0_1 a0.seen 4) (B0 : BlF s0 p0 87 [w0_0, (iI a0.t.Root), (.map (some m0_1)), (iI a0.deep)] 2) (A3_0 : RdF (Kd.op kd48) s0 [w3_0] a3 [0]) (A4_0 : RdF (Kd.op kd48) s0 [w4_0] a4 [0]) (r : Bool × treeCheck) (m : impl_treeCheck_check.f a0 a1 a2 a3 a4 = some r), Calls prog 45 #[(pB p0), (iI a1), (iI a2), w3_0, w4_0] s0.w (RT (impl_treeCheck_check.Q s0 p0 w0_0 m0_1) r) := impl_treeCheck_check.callsN 1000
def impl_TreeOk.f (a0 : Tree) : Option (Bool) :=
 ((impl_within.f (a0.Nodes.length : Int) (1 : Int) (300 : Int)).bind fun r6 => (if (!r6) = true then (some false) else ((impl_treeCheck_check.f (treeCheck.mk a0 ([] : MD) (0 : Int)) a0.Root (1 : Int) (none : (Option Entry)) (none : (Option Entry))).bind fun r26 => ((if r26.1 = true then (some ((r26.2.seen.length : Int) == (a0.Nodes.length : Int))) else (some false)).bind fun y32 => (some y32)))))
def impl_TreeOk.Q (w : World) (F : Nat → Prop) (r : Bool) (v : Value) (w' : World) : Prop :=
 v = (.bool r) ∧ Ky [] w w'
theorem impl_TreeOk.calls (a0 : Tree) (w : World) (F : Nat → Prop) (w0_0 : Value) (h0_0 : Yb.rd w [w0_0] a0.Nodes F) (r : Bool) (m : impl_TreeOk.f a0 = some r) :
  Calls prog 26 #[(.agg #[w0_0, (iI a0.Root)])] w (RT (impl_TreeOk.Q w F) r) := by
 obtain ⟨s0, rfl, kp0, z⟩ := Xj w F
 have A0_0 := z.rd h0_0
 refine Xd (args := [(.agg #[w0_0, (iI a0.Root)])]) func26 ntmps26 rfl rfl m ?_
 unfold impl_TreeOk.f
 refine sr (bx' (cs := [w0_0, (iI a0.Root)]) 40 rfl rfl (fun b2 s2 p2 B2 => ?_))
 refine Xb rfl (dn (sq (sr (Xn fa33_0 rfl (Xw B2 u31 rfl ?_)))))
 have K4 := kp0.st p2 rfl
 refine ln' (A0_0.kp K4) u31 rfl (clV 41 rfl func44 rfl (impl_within.calls (a0.Nodes.length : Int) (1 : Int) (300 : Int) s2.w (mm [] s2)) (fun r6 s7 p7 n7 => ?_))
 refine Xb rfl (dn (cd rfl (fun h8 => ?_) (fun h8 => ?_)))
 ·
  refine sr (Xb rfl (dn ?_))
  exact re rfl func26 rfl (Xq rfl Xf) rfl ⟨_, rfl, rfl, z.ky (K4.st p7 rfl)⟩
 refine sk (sr ?_)
 have A10 := B2.st p7 rfl
 refine lda' (es := [w0_0, (iI a0.Root)]) A10 u33 z33 rfl (mkm 42 rfl rfl rfl rfl rfl (fun b11 s11 p11 B11 => ?_))
 refine bd (cells := [w0_0, (iI a0.Root), (.map (some b11)), (iI 0)]) pl87 o87 rfl rfl rfl rfl rfl rfl (bx' (cs := [w0_0, (iI a0.Root), (.map (some b11)), (iI 0)]) 43 rfl rfl (fun b13 s13 p13 B13 => ?_))
 refine Xb rfl (dn (sq (zdraw [[], [], [1], [0, 2], [3, 3], [4], [5, 4], [6, 4], [7, 4], [8, 4, 4], [4], [10, 4], [11, 4], [9, 12, 4], [4, 13], [14, 9, 0, 1, 2, 3, 4, 5, 6, 7, 8, 9, 10, 11, 12, 13, 14]] [some 13, some 14, some 15, some 16, some 17, some 18, some 19, some 20, some 21, some 22, some 23, some 24, some 25, some 26, some 27, some 2] [[3], [1], [14], [13, 15], [16], [3, 17], [18, 17], [19, 17], [20, 17], [21, 17], [1, 17], [23, 17], [24, 17], [22, 25, 17], [17, 26], [27]] [0, 1, 2, 3, 4, 5, 6, 7, 8, 9, 10, 11, 12, 13, 14, 15] ⟨by kernel_rfl, by kernel_rfl, by kernel_rfl⟩ (by kernel_rfl) (fun s15 p15 l15 tb15 zd15 => ?_))))
 refine Xt 3 [] tb15 (((zd15.add 0 13 (pB b13) rfl).add 1 14 (pO b2 1) rfl).add 2 15 (iI a0.Root) rfl) (Xa (Xm (A10.st (tr3 p11 p13 p15) rfl) u3 rfl) rfl (Xa (Xl fa33_1 rfl) rfl (Xa (Xc rfl) rfl Xh))) (by kernel_rfl) rfl (fun l20 e20 zd20 => ?_)
 have K22 := K4.st (tr4 p7 p11 p13 p15) rfl
 refine cl' rfl func45 rfl (impl_treeCheck_check.calls (treeCheck.mk a0 ([] : MD) (0 : Int)) a0.Root (1 : Int) (none : (Option Entry)) (none : (Option Entry)) (vw [0] [(42, 4), (43, 2)] s15) (vw_lt rfl) b13 w0_0 b11 (.pointer none) (.pointer none) (RdF.vw (A0_0.kp K22) rfl) (MpF.vw (B11.st (Xo p13 p15) rfl) rfl (by simp)) (BlF.vw (B13.st p15 rfl) rfl (by simp)) (RdF.vw (rdp_nil kd48 s15 []) rfl) (RdF.vw (rdp_nil kd48 s15 []) rfl)) ?_
 rintro r26 _ _ m26 ⟨t26, rfl, rfl, kp26, bw26, uf26_0⟩
 have hw27 : t26.w = (bk [(42, 4), (43, 2)] 44 s15 t26).w := rfl
 have p27 := bk_st (D := [0]) (M := [(42, 4), (43, 2)]) (cn := 44) rfl kp26
 have B27 := BlF.bk (D := [0]) (M := [(42, 4), (43, 2)]) (cn := 44) (c := 43) bw26 rfl (by simp) kp26
 have U27_0 := MpF.bk (D := [0]) (M := [(42, 4), (43, 2)]) (cn := 44) (c := 42) uf26_0 rfl (by simp) kp26
 generalize bk [(42, 4), (43, 2)] 44 s15 t26 = s27 at hw27 p27 B27 U27_0
 rw [hw27]
 refine Xr (L' := []) (D' := [1, 0, 2, 3]) zd20 rfl rfl rfl (fun zd30 => ?_)
 have zd31 := zd30.add 4 17 (.bool r26.1) rfl
 refine ji [15] (fun (y32 : Bool) e w => ∃ (s : St) (e0 : Env), w = s.w ∧ e = upd e0 27 (.bool y32) ∧ Kp s0 s) (fun Gj32 Kj32 => ?_) ?_
 ·
  rcases bft r26.1 with hb32 | hb32
  ·
   rw [if_pos hb32]
   rw [hb32] at zd31
   try rw [hb32]
   refine Xx [13, 14, 15] tb15 ((((((((zd31.add 5 18 (pB b13) rfl).add 6 19 (pB b13) rfl).add 7 20 (pO b13 2) rfl).add 8 21 (.map (some b11)) rfl).add 9 22 (iI (r26.2.seen.length : Int)) rfl).add 10 23 (pB b2) rfl).add 11 24 w0_0 rfl).add 12 25 (iI (a0.Nodes.length : Int)) rfl) (Xa (ln_q (A0_0.kp (K22.st p27 rfl)) u31 rfl rfl rfl rfl rfl rfl) rfl (Xa (Xm (A10.st (tr4 p11 p13 p15 p27) rfl) u31 rfl) rfl (Xa (Xl fa33_0 rfl) rfl (Xa (lnm_q U27_0 u85 rfl rfl rfl rfl rfl rfl) rfl (Xa (Xm B27 u85 rfl) rfl (Xa (Xl fa87_1 rfl) rfl (Xa (Xc rfl) rfl (Xa (Xc rfl) rfl (Xa (Xc rfl) rfl Xh))))))))) (by kernel_rfl) (by decide) (Xb rfl (Xb rfl ?_))
   exact Kj32 _ _ _ ⟨s27, _, rfl, (ue rfl rfl), (K22.st p27 rfl)⟩
  rw [if_neg (by rw [hb32]; decide)]
  rw [hb32] at zd31
  try rw [hb32]
  refine Xx [13, 14, 15] tb15 ((((((((zd31.add 5 18 undef rfl).add 6 19 undef rfl).add 7 20 undef rfl).add 8 21 undef rfl).add 9 22 undef rfl).add 10 23 undef rfl).add 11 24 undef rfl).add 12 25 undef rfl) (Xa (Xe rfl) rfl (Xa (Xe rfl) rfl (Xa (Xe rfl) rfl (Xa (Xe rfl) rfl (Xa (Xe rfl) rfl (Xa (Xe rfl) rfl (Xa (Xe rfl) rfl (Xa (Xe rfl) rfl (Xa (Xc rfl) rfl Xh))))))))) (by kernel_rfl) (by decide) (Xk rfl (Xb rfl ?_))
  exact Kj32 _ _ _ ⟨s27, _, rfl, (ue rfl rfl), (K22.st p27 rfl)⟩
 rintro y32 _ _ ⟨s57, _, rfl, rfl, Ky32⟩
 exact Xb rfl (dn (re rfl func26 rfl (Xq rfl Xf) rfl ⟨_, rfl, rfl, z.ky Ky32⟩))
def impl_Tree_way.b1 (a0 : Tree) (a1 : Entry) (x10 : (List Int) × (List Int)) (x57 : Int) : Option (Int ⊕ ((List Int) × (List Int) ⊕ (List Int) × (List Int))) :=
 ((if (decide (x57 < (((at_ a0.Nodes (at_ x10.1 (IntKind.wrap .i64 ((x10.1.length : Int) - (1 : Int))))).Entries).length : Int))) = true then (if 0 ≤ x57 ∧ x57 < (((at_ a0.Nodes (at_ x10.1 (IntKind.wrap .i64 ((x10.1.length : Int) - (1 : Int))))).Entries).length : Int) then ((impl_compareEntries.f (Entry.mk ((at_ ((at_ a0.Nodes (at_ x10.1 (IntKind.wrap .i64 ((x10.1.length : Int) - (1 : Int))))).Entries) x57).Key) ((at_ ((at_ a0.Nodes (at_ x10.1 (IntKind.wrap .i64 ((x10.1.length : Int) - (1 : Int))))).Entries) x57).Id)) a1).bind fun r96 => (some (decide (r96 ≤ (0 : Int))))) else none) else (some false)).bind fun y78 => (if y78 = true then (some (Sum.inl (IntKind.wrap .i64 (x57 + (1 : Int))))) else ((if x10.2.length + ([x57]).length ≤ Lim then (if (at_ a0.Nodes (at_ x10.1 (IntKind.wrap .i64 ((x10.1.length : Int) - (1 : Int))))).Leaf = true then (some (Sum.inr (x10.1, (x10.2 ++ [x57])))) else (if 0 ≤ x57 ∧ x57 < (((at_ a0.Nodes (at_ x10.1 (IntKind.wrap .i64 ((x10.1.length : Int) - (1 : Int))))).Kids).length : Int) then (if x10.1.length + ([(at_ ((at_ a0.Nodes (at_ x10.1 (IntKind.wrap .i64 ((x10.1.length : Int) - (1 : Int))))).Kids) x57)]).length ≤ Lim then (some (Sum.inl ((x10.1 ++ [(at_ ((at_ a0.Nodes (at_ x10.1 (IntKind.wrap .i64 ((x10.1.length : Int) - (1 : Int))))).Kids) x57)]), (x10.2 ++ [x57])))) else none) else none)) else none).bind fun o => some (Sum.inr o))))
def impl_Tree_way.b0 (a0 : Tree) (a1 : Entry) (x10 : (List Int) × (List Int)) : Option (((List Int) × (List Int)) ⊕ ((List Int) × (List Int))) :=
 (if 0 ≤ (IntKind.wrap .i64 ((x10.1.length : Int) - (1 : Int))) ∧ (IntKind.wrap .i64 ((x10.1.length : Int) - (1 : Int))) < (x10.1.length : Int) then (if 0 ≤ (at_ x10.1 (IntKind.wrap .i64 ((x10.1.length : Int) - (1 : Int)))) ∧ (at_ x10.1 (IntKind.wrap .i64 ((x10.1.length : Int) - (1 : Int)))) < (a0.Nodes.length : Int) then (iter (impl_Tree_way.b1 a0 a1 x10) (0 : Int)) else none) else none)
def impl_Tree_way.f (a0 : Tree) (a1 : Entry) : Option ((List Int) × (List Int)) :=
 (iter (impl_Tree_way.b0 a0 a1) ([a0.Root], ([] : (List Int))))
def impl_Tree_way.Q (w : World) (F : Nat → Prop) (r : (List Int) × (List Int)) (v : Value) (w' : World) : Prop :=
 ∃ (v0 : Value) (v1 : Value), v = .tuple #[v0, v1] ∧ FO Ya w w' [v0] r.1 ∧ FO Ya w w' [v1] r.2 ∧ Ky [] w w'
theorem impl_Tree_way.calls (a0 : Tree) (a1 : Entry) (w : World) (F : Nat → Prop) (w0_0 : Value) (w1_0 : Value) (w1_1 : Value) (h0_0 : Yb.rd w [w0_0] a0.Nodes F) (h1_0 : Kd.flt.rd w [w1_0] a1.Key.F F) (h1_1 : Xy.rd w [w1_1] a1.Key.T F) (r : (List Int) × (List Int)) (m : impl_Tree_way.f a0 a1 = some r) :
  Calls prog 47 #[(.agg #[w0_0, (iI a0.Root)]), (.agg #[(iI a1.Key.Kind), (iI a1.Key.N), w1_0, w1_1, (iI a1.Id)])] w (RT (impl_Tree_way.Q w F) r) := by
 obtain ⟨s0, rfl, kp0, z⟩ := Xj w F
 have A0_0 := z.rd h0_0
 have A1_0 := fl_of h1_0
 have A1_1 := z.rd h1_1
 refine Xd (args := [(.agg #[w0_0, (iI a0.Root)]), (.agg #[(iI a1.Key.Kind), (iI a1.Key.N), w1_0, w1_1, (iI a1.Id)])]) func47 ntmps47 rfl rfl m ?_
 unfold impl_Tree_way.f
 refine sr (bx' (cs := [w0_0, (iI a0.Root)]) 40 rfl rfl (fun b3 s3 p3 B3 => ?_))
 refine bx' (cs := [(iI a1.Key.Kind), (iI a1.Key.N), w1_0, w1_1, (iI a1.Id)]) 41 rfl rfl (fun b5 s5 p5 B5 => ?_)
 refine Xb rfl (Xb rfl (dn (sr (Xn fa33_1 rfl ?_))))
 have A7 := B3.st p5 rfl
 refine Xw A7 u3 rfl (ltF (K := (Kd.int .i64)) (cells := [(iI a0.Root)]) [a0.Root] 42 fl_int u55 z3 o3 (fun w => (els_flat _ _ _)) rfl rfl rfl rfl rfl rfl rfl rfl rfl rfl (fun v8 s8 p8 A8 => ?_))
 refine asg' v8 rfl (dn (sr (Xb rfl (dn (bl ?_)))))
 refine lpI (fun (x10 : (List Int) × (List Int)) e w => ∃ (s : St) (e0 : Env) (vx10_0 vx10_1 : Value), w = s.w ∧ e = upd (upd (upd (upd e0 2 (pB b3)) 3 (pB b5)) 6 vx10_0) 7 vx10_1 ∧ Kp s0 s ∧ OwF Ya s [vx10_0] x10.1 42 ∧ OwF Ya s [vx10_1] x10.2 44 ∧ BlF s b5 48 [(iI a1.Key.Kind), (iI a1.Key.N), w1_0, w1_1, (iI a1.Id)] 41 ∧ BlF s b3 33 [w0_0, (iI a0.Root)] 40) ⟨s8, _, v8, (.slice none 0 0), rfl, (ue (ue (ue (ue rfl rfl) rfl) rfl) rfl), (kp0.st (tr3 p3 p5 p8) rfl), A8, (ow_nil 3 (Kd.int .i64) _ 44), (B5.st p8 rfl), (A7.st p8 rfl)⟩ (fun g10 ih10 => ?_)
 rintro x10 _ _ ⟨s14, _, vx10_0, vx10_1, rfl, rfl, Kx10, Ax10_0, Ax10_1, Bx10_b5, Bx10_b3⟩
 unfold impl_Tree_way.b0
 refine bl (sq (zdraw [[], [0], [], [], [3], [4], [2, 5], [6], [1, 7], [8], [], [10, 9, 0, 1, 2, 3, 4, 5, 6, 7, 8, 9, 10]] [some 13, some 14, some 15, some 16, some 17, some 18, some 19, some 20, some 21, some 22, some 8, none] [[2], [13], [6], [6], [16], [17], [15, 18], [19], [14, 20], [21], [], [8, 22]] [0, 1, 2, 3, 4, 5, 6, 7, 8, 9, 10, 11] ⟨by kernel_rfl, by kernel_rfl, by kernel_rfl⟩ (by kernel_rfl) (fun s19 p19 l19 tb19 zd19 => ?_)))
 have A28 := Ax10_0.st p19 rfl
 refine mg fun hg29 => ?_
 obtain ⟨ad29, es29, he29, ce29, ia29⟩ := ix_e A28.rd rfl hg29.1 hg29.2
 obtain rfl := he29
 have K33 := Kx10.st p19 rfl
 have A34 := A0_0.kp K33
 refine mg fun hg35 => ?_
 obtain ⟨ad35, es35, he35, ce35, ia35⟩ := ix_e A34 rfl hg35.1 hg35.2
 obtain ⟨v35_0, v35_1, rfl, A35_0, A35_1⟩ := op57 he35
 refine Xt 10 [some 22, some 21, some 20, some 19, some 18, some 17, some 16, some 15, some 14, some 13] tb19 ((((((((((zd19.add 0 13 (pB b3) rfl).add 1 14 w0_0 rfl).add 2 15 vx10_0 rfl).add 3 16 vx10_0 rfl).add 4 17 (iI (x10.1.length : Int)) rfl).add 5 18 (iI (IntKind.wrap .i64 ((x10.1.length : Int) - (1 : Int)))) rfl).add 6 19 (.pointer (some ad29)) rfl).add 7 20 (iI (at_ x10.1 (IntKind.wrap .i64 ((x10.1.length : Int) - (1 : Int))))) rfl).add 8 21 (.pointer (some ad35)) rfl).add 9 22 (.agg #[(.bool ((at_ a0.Nodes (at_ x10.1 (IntKind.wrap .i64 ((x10.1.length : Int) - (1 : Int))))).Leaf)), v35_0, v35_1]) rfl) (Xa (lca_q' ce35 u57 z57 rfl) rfl (Xa (ix_q' A34 u31 z57 hg35.1 hg35.2 ia35 rfl) rfl (Xa (lc0_q ce29 u3 rfl rfl rfl rfl rfl rfl rfl rfl) rfl (Xa (ix_q' A28.rd u55 z3 hg29.1 hg29.2 ia29 rfl) rfl (Xa (Xc rfl) rfl (Xa (ln_q A28.rd u55 rfl rfl rfl rfl rfl rfl) rfl (Xa (Xp vx10_0 rfl) rfl (Xa (Xp vx10_0 rfl) rfl (Xa (Xm (Bx10_b3.st p19 rfl) u31 rfl) rfl (Xa (Xl fa33_0 rfl) rfl Xh)))))))))) (by kernel_rfl) rfl (fun l41 e41 zd41 => ?_)
 refine al' (cs := [(.bool false), (.slice none 0 0), (.slice none 0 0)]) 45 rfl o57 rfl (fun b43 s43 p43 B43 => ?_)
 refine Xr (L' := [9, 8, 7, 6, 5, 4, 3, 2, 1, 0]) (D' := [10]) zd41 rfl rfl rfl (fun zd45 => ?_)
 have A48 := A28.st p43 rfl
 have K50 := K33.st p43 rfl
 refine Xx [11] tb19 zd45 (Xa (lca_q' (ce35.st p43 rfl rfl) u57 z57 rfl) rfl (Xa (ix_q' (A0_0.kp K50) u31 z57 hg35.1 hg35.2 ia35 rfl) rfl (Xa (lc0_q (ce29.st p43 rfl rfl) u3 rfl rfl rfl rfl rfl rfl rfl rfl) rfl (Xa (ix_q' A48.rd u55 z3 hg29.1 hg29.2 ia29 rfl) rfl (Xa (Xc rfl) rfl (Xa (ln_q (A28.st p43 rfl).rd u55 rfl rfl rfl rfl rfl rfl) rfl (Xa (Xp vx10_0 rfl) rfl (Xa (Xp vx10_0 rfl) rfl (Xa (Xm (Bx10_b3.st (Xo p19 p43) rfl) u31 rfl) rfl (Xa (Xl fa33_0 rfl) rfl Xh)))))))))) (by kernel_rfl) (by decide) ?_
 have A53 := A35_1.st p43 rfl
 have A54 := A35_0.st p43 rfl
 refine sva' (vs := [(.bool ((at_ a0.Nodes (at_ x10.1 (IntKind.wrap .i64 ((x10.1.length : Int) - (1 : Int))))).Leaf)), v35_0, v35_1]) B43 z57 rfl (Xg rfl (Xg A54.one (Xg A53.one Xu))) rfl (fun s55 p55 B55 => ?_)
 refine dn (sr (Xb rfl (dn (sq (bl ?_)))))
 refine lpI (fun (x57 : Int) e w => ∃ (s : St) (e0 : Env), w = s.w ∧ e = upd (upd (upd (upd (upd (upd e0 2 (pB b3)) 3 (pB b5)) 6 vx10_0) 7 vx10_1) 8 (pB b43)) 9 (iI x57) ∧ Kp s0 s ∧ BlF s b43 57 [(.bool ((at_ a0.Nodes (at_ x10.1 (IntKind.wrap .i64 ((x10.1.length : Int) - (1 : Int))))).Leaf)), v35_0, v35_1] 45 ∧ BlF s b5 48 [(iI a1.Key.Kind), (iI a1.Key.N), w1_0, w1_1, (iI a1.Id)] 41 ∧ BlF s b3 33 [w0_0, (iI a0.Root)] 40 ∧ OwF Ya s [vx10_0] x10.1 42 ∧ OwF Ya s [vx10_1] x10.2 44 ∧ RdF Xz s [v35_0] ((at_ a0.Nodes (at_ x10.1 (IntKind.wrap .i64 ((x10.1.length : Int) - (1 : Int))))).Entries) [0] ∧ RdF Ya s [v35_1] ((at_ a0.Nodes (at_ x10.1 (IntKind.wrap .i64 ((x10.1.length : Int) - (1 : Int))))).Kids) [0]) ⟨s55, _, rfl, (ue (ue (ue (ue (ue (ue rfl rfl) rfl) rfl) rfl) rfl) rfl), (K50.st p55 rfl), B55, (Bx10_b5.st (tr3 p19 p43 p55) rfl), (Bx10_b3.st (tr3 p19 p43 p55) rfl), (A48.st p55 rfl), (Ax10_1.st (tr3 p19 p43 p55) rfl), (A54.st p55 rfl), (A53.st p55 rfl)⟩ (fun g57 ih57 => ?_)
 rintro x57 _ _ ⟨s65, _, rfl, rfl, Kx57, Bx57_b43, Bx57_b5, Bx57_b3, Cx57_15, Cx57_16, Cx57_36, Cx57_37⟩
 unfold impl_Tree_way.b1
 refine sq (sq (zdraw [[], [], [1], [2], [0, 3], [4], [5], [6, 5], [5], [7, 8, 5], [9, 5], [5], [10, 11, 5, 5], [12, 5], [5, 13]] [some 23, some 24, some 25, some 26, some 27, some 28, some 29, some 30, some 31, some 32, some 33, some 34, some 35, some 36, some 37] [[9], [8], [24], [25], [23, 26], [27], [8, 28], [29, 28], [9, 28], [30, 31, 28], [32, 28], [3, 28], [33, 34, 28], [35, 28], [28, 36]] [0, 1, 2, 3, 4, 5, 6, 7, 8, 9, 10, 11, 12, 13, 14] ⟨by kernel_rfl, by kernel_rfl, by kernel_rfl⟩ (by kernel_rfl) (fun s69 p69 l69 tb69 zd69 => ?_)))
 have zd77 := (((((zd69.add 0 23 (iI x57) rfl).add 1 24 (pO b43 1) rfl).add 2 25 v35_0 rfl).add 3 26 (iI (((at_ a0.Nodes (at_ x10.1 (IntKind.wrap .i64 ((x10.1.length : Int) - (1 : Int))))).Entries).length : Int)) rfl).add 4 27 (.bool (decide (x57 < (((at_ a0.Nodes (at_ x10.1 (IntKind.wrap .i64 ((x10.1.length : Int) - (1 : Int))))).Entries).length : Int)))) rfl).add 5 28 (.bool (decide (x57 < (((at_ a0.Nodes (at_ x10.1 (IntKind.wrap .i64 ((x10.1.length : Int) - (1 : Int))))).Entries).length : Int)))) rfl
 refine ji [] (fun (y78 : Bool) e w => ∃ (s : St) (e0 : Env), w = s.w ∧ e = upd (upd (upd (upd (upd (upd (upd e0 2 (pB b3)) 3 (pB b5)) 6 vx10_0) 7 vx10_1) 8 (pB b43)) 9 (iI x57)) 37 (.bool y78) ∧ Kp s0 s ∧ BlF s b43 57 [(.bool ((at_ a0.Nodes (at_ x10.1 (IntKind.wrap .i64 ((x10.1.length : Int) - (1 : Int))))).Leaf)), v35_0, v35_1] 45 ∧ BlF s b5 48 [(iI a1.Key.Kind), (iI a1.Key.N), w1_0, w1_1, (iI a1.Id)] 41 ∧ BlF s b3 33 [w0_0, (iI a0.Root)] 40 ∧ OwF Ya s [vx10_0] x10.1 42 ∧ OwF Ya s [vx10_1] x10.2 44 ∧ RdF Xz s [v35_0] ((at_ a0.Nodes (at_ x10.1 (IntKind.wrap .i64 ((x10.1.length : Int) - (1 : Int))))).Entries) [0] ∧ RdF Ya s [v35_1] ((at_ a0.Nodes (at_ x10.1 (IntKind.wrap .i64 ((x10.1.length : Int) - (1 : Int))))).Kids) [0]) (fun Gj78 Kj78 => ?_) ?_
 ·
  rcases bft (decide (x57 < (((at_ a0.Nodes (at_ x10.1 (IntKind.wrap .i64 ((x10.1.length : Int) - (1 : Int))))).Entries).length : Int))) with hb78 | hb78
  ·
   rw [if_pos hb78]
   rw [hb78] at zd77
   try rw [hb78]
   have A83 := Cx57_36.st p69 rfl
   refine mg fun hg84 => ?_
   obtain ⟨ad84, es84, he84, ce84, ia84⟩ := ix_e A83 rfl hg84.1 hg84.2
   obtain ⟨v84_0, v84_1, rfl, A84_0, A84_1⟩ := op48 he84
   refine Xx [12, 13, 14] tb69 ((((((zd77.add 6 29 (pO b43 1) rfl).add 7 30 v35_0 rfl).add 8 31 (iI x57) rfl).add 9 32 (.pointer (some ad84)) rfl).add 10 33 (.agg #[(iI (((at_ ((at_ a0.Nodes (at_ x10.1 (IntKind.wrap .i64 ((x10.1.length : Int) - (1 : Int))))).Entries) x57).Key).Kind)), (iI (((at_ ((at_ a0.Nodes (at_ x10.1 (IntKind.wrap .i64 ((x10.1.length : Int) - (1 : Int))))).Entries) x57).Key).N)), v84_0, v84_1, (iI ((at_ ((at_ a0.Nodes (at_ x10.1 (IntKind.wrap .i64 ((x10.1.length : Int) - (1 : Int))))).Entries) x57).Id))]) rfl).add 11 34 (.agg #[(iI a1.Key.Kind), (iI a1.Key.N), w1_0, w1_1, (iI a1.Id)]) rfl) (Xa (Xs (es := [(iI a1.Key.Kind), (iI a1.Key.N), w1_0, w1_1, (iI a1.Id)]) (Bx57_b5.st p69 rfl) u48 z48 rfl) rfl (Xa (lca_q' ce84 u48 z48 rfl) rfl (Xa (ix_q' A83 u52 z48 hg84.1 hg84.2 ia84 rfl) rfl (Xa (Xc rfl) rfl (Xa (Xm (Bx57_b43.st p69 rfl) u52 rfl) rfl (Xa (Xl fa57_1 rfl) rfl (Xa (Xc rfl) rfl (Xa (qv_b (Xc rfl) hb78) rfl (Xa (ln_q A83 u52 rfl rfl rfl rfl rfl rfl) rfl (Xa (Xm (Bx57_b43.st p69 rfl) u52 rfl) rfl (Xa (Xl fa57_1 rfl) rfl (Xa (Xc rfl) rfl Xh)))))))))))) (by kernel_rfl) (by decide) ?_
   have K94 := Kx57.st p69 rfl
   refine clV 46 rfl func48 rfl (impl_compareEntries.calls (Entry.mk ((at_ ((at_ a0.Nodes (at_ x10.1 (IntKind.wrap .i64 ((x10.1.length : Int) - (1 : Int))))).Entries) x57).Key) ((at_ ((at_ a0.Nodes (at_ x10.1 (IntKind.wrap .i64 ((x10.1.length : Int) - (1 : Int))))).Entries) x57).Id)) a1 s69.w (mm [0] s69) v84_0 v84_1 w1_0 w1_1 ((Xi (s := s69) A84_0).sub (D := [0]) rfl) A84_1 ((Xi (s := s69) A1_0).sub (D := [0]) rfl) (A1_1.kp K94)) (fun r96 s97 p97 n97 => ?_)
   refine Xb rfl (Xb rfl ?_)
   exact Kj78 _ _ _ ⟨s97, _, rfl, (ue (ue (ue (ue (ue (ue (ue rfl rfl) rfl) rfl) rfl) rfl) rfl) rfl), (K94.st p97 rfl), (Bx57_b43.st (Xo p69 p97) rfl), (Bx57_b5.st (Xo p69 p97) rfl), (Bx57_b3.st (Xo p69 p97) rfl), (Cx57_15.st (Xo p69 p97) rfl), (Cx57_16.st (Xo p69 p97) rfl), (A83.st p97 rfl), (Cx57_37.st (Xo p69 p97) rfl)⟩
  rw [if_neg (by rw [hb78]; decide)]
  rw [hb78] at zd77
  try rw [hb78]
  refine Xx [12, 13, 14] tb69 ((((((zd77.add 6 29 undef rfl).add 7 30 undef rfl).add 8 31 undef rfl).add 9 32 undef rfl).add 10 33 undef rfl).add 11 34 undef rfl) (Xa (Xe rfl) rfl (Xa (Xe rfl) rfl (Xa (Xe rfl) rfl (Xa (Xe rfl) rfl (Xa (Xe rfl) rfl (Xa (Xe rfl) rfl (Xa (Xc rfl) rfl (Xa (qv_b (Xc rfl) hb78) rfl (Xa (ln_q (Cx57_36.st p69 rfl) u52 rfl rfl rfl rfl rfl rfl) rfl (Xa (Xm (Bx57_b43.st p69 rfl) u52 rfl) rfl (Xa (Xl fa57_1 rfl) rfl (Xa (Xc rfl) rfl Xh)))))))))))) (by kernel_rfl) (by decide) (Xk rfl (Xk rfl (Xb rfl ?_)))
  exact Kj78 _ _ _ ⟨s69, _, rfl, (ue (ue (ue (ue (ue (ue (ue rfl rfl) rfl) rfl) rfl) rfl) rfl) rfl), (Kx57.st p69 rfl), (Bx57_b43.st p69 rfl), (Bx57_b5.st p69 rfl), (Bx57_b3.st p69 rfl), (Cx57_15.st p69 rfl), (Cx57_16.st p69 rfl), (Cx57_36.st p69 rfl), (Cx57_37.st p69 rfl)⟩
 rintro y78 _ _ ⟨s122, _, rfl, rfl, Ky78, By78_b43, By78_b5, By78_b3, Cy78_15, Cy78_16, Cy78_36, Cy78_37⟩
 refine dn (cd rfl (fun h126 => ?_) (fun h126 => ?_))
 ·
  exact sk (bl (rg (Xb rfl (Xb rfl (Xb rfl (dn (ib (lb ih57 ⟨s122, _, rfl, (ue (ue (ue (ue (ue (ue rfl rfl) rfl) rfl) rfl) rfl) rfl), Ky78, By78_b43, By78_b5, By78_b3, Cy78_15, Cy78_16, Cy78_36, Cy78_37⟩))))))))
 refine xt rfl (sgb (sr (Xv vx10_1 rfl (Xb rfl (ltF (K := (Kd.int .i64)) (cells := [(iI x57)]) [x57] 47 fl_int u55 z3 o3 (fun w => (els_flat _ _ _)) rfl rfl rfl rfl rfl rfl rfl rfl rfl rfl (fun v127 s127 p127 A127 => ?_))))))
 refine apF fl_int sl55 (Cy78_16.st p127 rfl) A127.rd rfl rfl rfl rfl rfl rfl rfl (fun v130 s130 p130 A130 => ?_)
 refine asg' v130 rfl (dn (sq (sr (Xn fa57_0 rfl ?_))))
 have A132 := By78_b43.st (Xo p127 p130) rfl
 refine Xw A132 u4 rfl (dn (cd rfl (fun h133 => ?_) (fun h133 => ?_)))
 ·
  refine sr (Xv vx10_0 rfl (Xv v130 rfl (asg' vx10_0 rfl (asg' v130 rfl (dn (sgi ?_))))))
  have K135 := Ky78.st (Xo p127 p130) rfl
  exact re rfl func47 rfl (Xq rfl (Xq rfl Xf)) rfl ⟨_, rfl, vx10_0, v130, rfl, (Cy78_15.st (Xo p127 p130) rfl).fo K135 rfl z.l, A130.fo K135 rfl z.l, z.ky K135⟩
 refine sk (rg (Xv vx10_0 rfl (Xn fa57_2 rfl (Xw A132 u55 rfl (Xb rfl ?_)))))
 refine ix' (Cy78_37.st (Xo p127 p130) rfl) u55 z3 rfl (fun ad137 es137 h0_137 h1_137 he137 ce137 ia137 => ?_)
 obtain rfl := he137
 refine lc0 ce137 u3 rfl rfl rfl rfl rfl rfl rfl rfl (ltF (K := (Kd.int .i64)) (cells := [(iI (at_ ((at_ a0.Nodes (at_ x10.1 (IntKind.wrap .i64 ((x10.1.length : Int) - (1 : Int))))).Kids) x57))]) [(at_ ((at_ a0.Nodes (at_ x10.1 (IntKind.wrap .i64 ((x10.1.length : Int) - (1 : Int))))).Kids) x57)] 48 fl_int u55 z3 o3 (fun w => (els_flat _ _ _)) rfl rfl rfl rfl rfl rfl rfl rfl rfl rfl (fun v139 s139 p139 A139 => ?_))
 refine apF fl_int sl55 (Cy78_15.st (tr3 p127 p130 p139) rfl) A139.rd rfl rfl rfl rfl rfl rfl rfl (fun v142 s142 p142 A142 => ?_)
 refine asg' v142 rfl (dn (ib ?_))
 exact lb ih10 ⟨s142, _, v142, v130, rfl, (ue (ue (ue (ue rfl rfl) rfl) rfl) rfl), (Ky78.st (tr4 p127 p130 p139 p142) rfl), A142, (A130.st (Xo p139 p142) rfl), (By78_b5.st (tr4 p127 p130 p139 p142) rfl), (By78_b3.st (tr4 p127 p130 p139 p142) rfl)⟩
def impl_Tree_has.f (a0 : Tree) (a1 : Entry) : Option (Int × Int × Bool) :=
 ((impl_Tree_way.f a0 a1).bind fun r11 => (if 0 ≤ (IntKind.wrap .i64 ((r11.1.length : Int) - (1 : Int))) ∧ (IntKind.wrap .i64 ((r11.1.length : Int) - (1 : Int))) < (r11.1.length : Int) then (if 0 ≤ (IntKind.wrap .i64 ((r11.2.length : Int) - (1 : Int))) ∧ (IntKind.wrap .i64 ((r11.2.length : Int) - (1 : Int))) < (r11.2.length : Int) then ((if (decide ((IntKind.wrap .i64 ((at_ r11.2 (IntKind.wrap .i64 ((r11.2.length : Int) - (1 : Int)))) - (1 : Int))) ≥ (0 : Int))) = true then (if 0 ≤ (at_ r11.1 (IntKind.wrap .i64 ((r11.1.length : Int) - (1 : Int)))) ∧ (at_ r11.1 (IntKind.wrap .i64 ((r11.1.length : Int) - (1 : Int)))) < (a0.Nodes.length : Int) then (if 0 ≤ (IntKind.wrap .i64 ((at_ r11.2 (IntKind.wrap .i64 ((r11.2.length : Int) - (1 : Int)))) - (1 : Int))) ∧ (IntKind.wrap .i64 ((at_ r11.2 (IntKind.wrap .i64 ((r11.2.length : Int) - (1 : Int)))) - (1 : Int))) < (((at_ a0.Nodes (at_ r11.1 (IntKind.wrap .i64 ((r11.1.length : Int) - (1 : Int))))).Entries).length : Int) then ((impl_compareEntries.f (Entry.mk ((at_ ((at_ a0.Nodes (at_ r11.1 (IntKind.wrap .i64 ((r11.1.length : Int) - (1 : Int))))).Entries) (IntKind.wrap .i64 ((at_ r11.2 (IntKind.wrap .i64 ((r11.2.length : Int) - (1 : Int)))) - (1 : Int)))).Key) ((at_ ((at_ a0.Nodes (at_ r11.1 (IntKind.wrap .i64 ((r11.1.length : Int) - (1 : Int))))).Entries) (IntKind.wrap .i64 ((at_ r11.2 (IntKind.wrap .i64 ((r11.2.length : Int) - (1 : Int)))) - (1 : Int)))).Id)) a1).bind fun r70 => (some (r70 == (0 : Int)))) else none) else none) else (some false)).bind fun y44 => (some ((at_ r11.1 (IntKind.wrap .i64 ((r11.1.length : Int) - (1 : Int)))), (IntKind.wrap .i64 ((at_ r11.2 (IntKind.wrap .i64 ((r11.2.length : Int) - (1 : Int)))) - (1 : Int))), y44))) else none) else none))
def impl_Tree_has.Q (w : World) (F : Nat → Prop) (r : Int × Int × Bool) (v : Value) (w' : World) : Prop :=
 v = .tuple #[(iI r.1), (iI r.2.1), (.bool r.2.2)] ∧ Ky [] w w'
theorem impl_Tree_has.calls (a0 : Tree) (a1 : Entry) (w : World) (F : Nat → Prop) (w0_0 : Value) (w1_0 : Value) (w1_1 : Value) (h0_0 : Yb.rd w [w0_0] a0.Nodes F) (h1_0 : Kd.flt.rd w [w1_0] a1.Key.F F) (h1_1 : Xy.rd w [w1_1] a1.Key.T F) (r : Int × Int × Bool) (m : impl_Tree_has.f a0 a1 = some r) :
  Calls prog 28 #[(.agg #[w0_0, (iI a0.Root)]), (.agg #[(iI a1.Key.Kind), (iI a1.Key.N), w1_0, w1_1, (iI a1.Id)])] w (RT (impl_Tree_has.Q w F) r) := by
 obtain ⟨s0, rfl, kp0, z⟩ := Xj w F
 have A0_0 := z.rd h0_0
 have A1_0 := fl_of h1_0
 have A1_1 := z.rd h1_1
 refine Xd (args := [(.agg #[w0_0, (iI a0.Root)]), (.agg #[(iI a1.Key.Kind), (iI a1.Key.N), w1_0, w1_1, (iI a1.Id)])]) func28 ntmps28 rfl rfl m ?_
 unfold impl_Tree_has.f
 refine sr (bx' (cs := [w0_0, (iI a0.Root)]) 40 rfl rfl (fun b3 s3 p3 B3 => ?_))
 refine bx' (cs := [(iI a1.Key.Kind), (iI a1.Key.N), w1_0, w1_1, (iI a1.Id)]) 41 rfl rfl (fun b5 s5 p5 B5 => ?_)
 refine Xb rfl (Xb rfl (Xb rfl (dn (sr ?_))))
 have A7 := B3.st p5 rfl
 refine lda' (es := [w0_0, (iI a0.Root)]) A7 u33 z33 rfl (lda' (es := [(iI a1.Key.Kind), (iI a1.Key.N), w1_0, w1_1, (iI a1.Id)]) B5 u48 z48 rfl ?_)
 have K8 := kp0.st (Xo p3 p5) rfl
 refine cl' rfl func47 rfl (impl_Tree_way.calls a0 a1 s5.w (mm [0] s5) w0_0 w1_0 w1_1 (A0_0.kp K8) ((Xi (s := s5) A1_0).sub (D := [0]) rfl) (A1_1.kp K8)) ?_
 rintro r11 _ w11 m11 ⟨v11_0, v11_1, rfl, f11_0, f11_1, ky11⟩
 obtain ⟨s12, rfl, p12, n12⟩ := nwx s5 w11 42 ky11
 refine Xb rfl (Xb (v := v11_0) rfl (Xb (v := v11_1) rfl (asg' v11_0 rfl (asg' v11_1 rfl (dn (sq (zdraw [[], [], [1], [2], [0, 3], [4], [], [], [7], [8], [6, 9], [10], [11], [5, 0, 1, 2, 3, 4, 5], [12, 13, 0, 1, 2, 3, 4, 5, 6, 7, 8, 9, 10, 11, 12, 13]] [some 17, some 18, some 19, some 20, some 21, some 22, some 23, some 24, some 25, some 26, some 27, some 28, some 29, some 9, some 10] [[7], [7], [18], [19], [17, 20], [21], [8], [8], [24], [25], [23, 26], [27], [28], [22], [29]] [0, 1, 2, 3, 4, 5, 9, 6, 7, 10, 11, 12, 13, 8, 14] ⟨by kernel_rfl, by kernel_rfl, by kernel_rfl⟩ (by kernel_rfl) (fun s15 p15 l15 tb15 zd15 => ?_))))))))
 have A21 := (f11_0.c n12).st p15 rfl
 refine mg fun hg22 => ?_
 obtain ⟨ad22, es22, he22, ce22, ia22⟩ := ix_e A21.rd rfl hg22.1 hg22.2
 obtain rfl := he22
 have A31 := (f11_1.c n12).st p15 rfl
 refine mg fun hg32 => ?_
 obtain ⟨ad32, es32, he32, ce32, ia32⟩ := ix_e A31.rd rfl hg32.1 hg32.2
 obtain rfl := he32
 have zd37 := (((((((((((((zd15.add 0 17 v11_0 rfl).add 1 18 v11_0 rfl).add 2 19 (iI (r11.1.length : Int)) rfl).add 3 20 (iI (IntKind.wrap .i64 ((r11.1.length : Int) - (1 : Int)))) rfl).add 4 21 (.pointer (some ad22)) rfl).add 5 22 (iI (at_ r11.1 (IntKind.wrap .i64 ((r11.1.length : Int) - (1 : Int))))) rfl).add 6 23 v11_1 rfl).add 7 24 v11_1 rfl).add 8 25 (iI (r11.2.length : Int)) rfl).add 9 26 (iI (IntKind.wrap .i64 ((r11.2.length : Int) - (1 : Int)))) rfl).add 10 27 (.pointer (some ad32)) rfl).add 11 28 (iI (at_ r11.2 (IntKind.wrap .i64 ((r11.2.length : Int) - (1 : Int))))) rfl).add 12 29 (iI (IntKind.wrap .i64 ((at_ r11.2 (IntKind.wrap .i64 ((r11.2.length : Int) - (1 : Int)))) - (1 : Int)))) rfl).add 13 9 (iI (at_ r11.1 (IntKind.wrap .i64 ((r11.1.length : Int) - (1 : Int))))) rfl
 refine Xx [14] tb15 zd37 (Xa (Xc rfl) rfl (Xa (Xc rfl) rfl (Xa (lc0_q ce32 u3 rfl rfl rfl rfl rfl rfl rfl rfl) rfl (Xa (ix_q' A31.rd u55 z3 hg32.1 hg32.2 ia32 rfl) rfl (Xa (Xc rfl) rfl (Xa (ln_q A31.rd u55 rfl rfl rfl rfl rfl rfl) rfl (Xa (Xp v11_1 rfl) rfl (Xa (Xp v11_1 rfl) rfl (Xa (lc0_q ce22 u3 rfl rfl rfl rfl rfl rfl rfl rfl) rfl (Xa (ix_q' A21.rd u55 z3 hg22.1 hg22.2 ia22 rfl) rfl (Xa (Xc rfl) rfl (Xa (ln_q A21.rd u55 rfl rfl rfl rfl rfl rfl) rfl (Xa (Xp v11_0 rfl) rfl (Xa (Xp v11_0 rfl) rfl Xh)))))))))))))) (by kernel_rfl) (by decide) (Xb rfl (dn (sq (zdraw [[], [], [], [2], [3], [4], [5, 4], [4], [6, 7, 4], [8, 4], [9, 4], [4], [10, 11, 4], [12, 4], [4], [13, 14, 4, 4], [15, 4], [4, 16], [0, 15, 0], [1, 18, 0, 1, 18], [17, 19, 0, 1, 2, 3, 4, 5, 6, 7, 8, 9, 10, 11, 12, 13, 14, 15, 16, 17, 18, 19]] [some 30, some 31, some 32, some 33, some 34, some 35, some 36, some 37, some 38, some 39, some 40, some 41, some 42, some 43, some 44, some 45, some 46, some 47, some 4, some 5, some 6] [[9], [10], [10], [32], [33], [2, 34], [35, 34], [9, 34], [36, 37, 34], [38, 34], [39, 34], [10, 34], [40, 41, 34], [42, 34], [3, 34], [43, 44, 34], [45, 34], [34, 46], [30], [31], [47]] [0, 16, 1, 2, 3, 4, 5, 6, 7, 8, 9, 10, 11, 12, 13, 14, 18, 19, 15, 17, 20] ⟨by kernel_rfl, by kernel_rfl, by kernel_rfl⟩ (by kernel_rfl) (fun s38 p38 l38 tb38 zd38 => ?_)))))
 have zd43 := ((((zd38.add 0 30 (iI (at_ r11.1 (IntKind.wrap .i64 ((r11.1.length : Int) - (1 : Int))))) rfl).add 1 31 (iI (IntKind.wrap .i64 ((at_ r11.2 (IntKind.wrap .i64 ((r11.2.length : Int) - (1 : Int)))) - (1 : Int)))) rfl).add 2 32 (iI (IntKind.wrap .i64 ((at_ r11.2 (IntKind.wrap .i64 ((r11.2.length : Int) - (1 : Int)))) - (1 : Int)))) rfl).add 3 33 (.bool (decide ((IntKind.wrap .i64 ((at_ r11.2 (IntKind.wrap .i64 ((r11.2.length : Int) - (1 : Int)))) - (1 : Int))) ≥ (0 : Int)))) rfl).add 4 34 (.bool (decide ((IntKind.wrap .i64 ((at_ r11.2 (IntKind.wrap .i64 ((r11.2.length : Int) - (1 : Int)))) - (1 : Int))) ≥ (0 : Int)))) rfl
 refine ji [20] (fun (y44 : Bool) e w => ∃ (s : St) (e0 : Env), w = s.w ∧ e = upd (upd (upd e0 4 (iI (at_ r11.1 (IntKind.wrap .i64 ((r11.1.length : Int) - (1 : Int)))))) 5 (iI (IntKind.wrap .i64 ((at_ r11.2 (IntKind.wrap .i64 ((r11.2.length : Int) - (1 : Int)))) - (1 : Int))))) 47 (.bool y44) ∧ Kp s0 s) (fun Gj44 Kj44 => ?_) ?_
 ·
  rcases bft (decide ((IntKind.wrap .i64 ((at_ r11.2 (IntKind.wrap .i64 ((r11.2.length : Int) - (1 : Int)))) - (1 : Int))) ≥ (0 : Int))) with hb44 | hb44
  ·
   rw [if_pos hb44]
   rw [hb44] at zd43
   try rw [hb44]
   have K49 := K8.st (tr3 p12 p15 p38) rfl
   have A50 := A0_0.kp K49
   refine mg fun hg51 => ?_
   obtain ⟨ad51, es51, he51, ce51, ia51⟩ := ix_e A50 rfl hg51.1 hg51.2
   obtain ⟨v51_0, v51_1, rfl, A51_0, A51_1⟩ := op57 he51
   refine mg fun hg59 => ?_
   obtain ⟨ad59, es59, he59, ce59, ia59⟩ := ix_e A51_0 rfl hg59.1 hg59.2
   obtain ⟨v59_0, v59_1, rfl, A59_0, A59_1⟩ := op48 he59
   have zd63 := ((((((((zd43.add 5 35 (pB b3) rfl).add 6 36 w0_0 rfl).add 7 37 (iI (at_ r11.1 (IntKind.wrap .i64 ((r11.1.length : Int) - (1 : Int))))) rfl).add 8 38 (.pointer (some ad51)) rfl).add 9 39 (.pointer (some (ad51.add 1))) rfl).add 10 40 v51_0 rfl).add 11 41 (iI (IntKind.wrap .i64 ((at_ r11.2 (IntKind.wrap .i64 ((r11.2.length : Int) - (1 : Int)))) - (1 : Int)))) rfl).add 12 42 (.pointer (some ad59)) rfl).add 13 43 (.agg #[(iI (((at_ ((at_ a0.Nodes (at_ r11.1 (IntKind.wrap .i64 ((r11.1.length : Int) - (1 : Int))))).Entries) (IntKind.wrap .i64 ((at_ r11.2 (IntKind.wrap .i64 ((r11.2.length : Int) - (1 : Int)))) - (1 : Int)))).Key).Kind)), (iI (((at_ ((at_ a0.Nodes (at_ r11.1 (IntKind.wrap .i64 ((r11.1.length : Int) - (1 : Int))))).Entries) (IntKind.wrap .i64 ((at_ r11.2 (IntKind.wrap .i64 ((r11.2.length : Int) - (1 : Int)))) - (1 : Int)))).Key).N)), v59_0, v59_1, (iI ((at_ ((at_ a0.Nodes (at_ r11.1 (IntKind.wrap .i64 ((r11.1.length : Int) - (1 : Int))))).Entries) (IntKind.wrap .i64 ((at_ r11.2 (IntKind.wrap .i64 ((r11.2.length : Int) - (1 : Int)))) - (1 : Int)))).Id))]) rfl
   refine Xt 15 [some 31, some 30] tb38 (zd63.add 14 44 (.agg #[(iI a1.Key.Kind), (iI a1.Key.N), w1_0, w1_1, (iI a1.Id)]) rfl) (Xa (Xs (es := [(iI a1.Key.Kind), (iI a1.Key.N), w1_0, w1_1, (iI a1.Id)]) (B5.st (tr3 p12 p15 p38) rfl) u48 z48 rfl) rfl (Xa (lca_q' ce59 u48 z48 rfl) rfl (Xa (ix_q' A51_0 u52 z48 hg59.1 hg59.2 ia59 rfl) rfl (Xa (Xc rfl) rfl (Xa (lc_q ce51 u52 rfl rfl rfl rfl rfl rfl rfl rfl) rfl (Xa (Xl fa57_1 rfl) rfl (Xa (ix_q' A50 u31 z57 hg51.1 hg51.2 ia51 rfl) rfl (Xa (Xc rfl) rfl (Xa (Xm (A7.st (tr3 p12 p15 p38) rfl) u31 rfl) rfl (Xa (Xl fa33_0 rfl) rfl (Xa (Xc rfl) rfl (Xa (qv_b (Xc rfl) hb44) rfl (Xa (Xc rfl) rfl (Xa (Xc rfl) rfl (Xa (Xc rfl) rfl Xh))))))))))))))) (by kernel_rfl) rfl (fun l66 e66 zd66 => ?_)
   refine clV 43 rfl func48 rfl (impl_compareEntries.calls (Entry.mk ((at_ ((at_ a0.Nodes (at_ r11.1 (IntKind.wrap .i64 ((r11.1.length : Int) - (1 : Int))))).Entries) (IntKind.wrap .i64 ((at_ r11.2 (IntKind.wrap .i64 ((r11.2.length : Int) - (1 : Int)))) - (1 : Int)))).Key) ((at_ ((at_ a0.Nodes (at_ r11.1 (IntKind.wrap .i64 ((r11.1.length : Int) - (1 : Int))))).Entries) (IntKind.wrap .i64 ((at_ r11.2 (IntKind.wrap .i64 ((r11.2.length : Int) - (1 : Int)))) - (1 : Int)))).Id)) a1 s38.w (mm [0] s38) v59_0 v59_1 w1_0 w1_1 ((Xi (s := s38) A59_0).sub (D := [0]) rfl) A59_1 ((Xi (s := s38) A1_0).sub (D := [0]) rfl) (A1_1.kp K49)) (fun r70 s71 p71 n71 => ?_)
   refine Xr (L' := [1, 0]) (D' := [2, 3, 5, 6, 7, 8, 9, 10, 11, 12, 13, 14, 4, 4, 15]) zd66 rfl rfl rfl (fun zd72 => ?_)
   exact Xx [20] tb38 ((((zd72.add 16 46 (.bool (r70 == (0 : Int))) rfl).add 17 47 (.bool (r70 == (0 : Int))) rfl).add 18 4 (iI (at_ r11.1 (IntKind.wrap .i64 ((r11.1.length : Int) - (1 : Int))))) rfl).add 19 5 (iI (IntKind.wrap .i64 ((at_ r11.2 (IntKind.wrap .i64 ((r11.2.length : Int) - (1 : Int)))) - (1 : Int)))) rfl) (Xa (Xc rfl) rfl (Xa (Xc rfl) rfl (Xa (Xc rfl) rfl (Xa (Xc rfl) rfl (Xa (Xc rfl) rfl (Xa (Xc rfl) rfl Xh)))))) (by kernel_rfl) (by decide) (Kj44 _ _ _ ⟨s71, _, rfl, (ue (ue (ue rfl rfl) rfl) rfl), (K49.st p71 rfl)⟩)
  rw [if_neg (by rw [hb44]; decide)]
  rw [hb44] at zd43
  try rw [hb44]
  exact Xx [20] tb38 (((((((((((((((zd43.add 5 35 undef rfl).add 6 36 undef rfl).add 7 37 undef rfl).add 8 38 undef rfl).add 9 39 undef rfl).add 10 40 undef rfl).add 11 41 undef rfl).add 12 42 undef rfl).add 13 43 undef rfl).add 14 44 undef rfl).add 15 45 undef rfl).add 16 46 undef rfl).add 17 47 (.bool false) rfl).add 18 4 (iI (at_ r11.1 (IntKind.wrap .i64 ((r11.1.length : Int) - (1 : Int))))) rfl).add 19 5 (iI (IntKind.wrap .i64 ((at_ r11.2 (IntKind.wrap .i64 ((r11.2.length : Int) - (1 : Int)))) - (1 : Int)))) rfl) (Xa (Xc rfl) rfl (Xa (Xc rfl) rfl (Xa (Xc rfl) rfl (Xa (Xe rfl) rfl (Xa (Xe rfl) rfl (Xa (Xe rfl) rfl (Xa (Xe rfl) rfl (Xa (Xe rfl) rfl (Xa (Xe rfl) rfl (Xa (Xe rfl) rfl (Xa (Xe rfl) rfl (Xa (Xe rfl) rfl (Xa (Xe rfl) rfl (Xa (Xe rfl) rfl (Xa (Xe rfl) rfl (Xa (Xc rfl) rfl (Xa (qv_b (Xc rfl) hb44) rfl (Xa (Xc rfl) rfl (Xa (Xc rfl) rfl (Xa (Xc rfl) rfl Xh)))))))))))))))))))) (by kernel_rfl) (by decide) (Kj44 _ _ _ ⟨s38, _, rfl, (ue (ue (ue rfl rfl) rfl) rfl), (K8.st (tr3 p12 p15 p38) rfl)⟩)
 rintro y44 _ _ ⟨s94, _, rfl, rfl, Ky44⟩
 exact Xb rfl (dn (re rfl func28 rfl (Xq rfl (Xq rfl (Xq rfl Xf))) rfl ⟨_, rfl, rfl, z.ky Ky44⟩))
def slices_Clone_byte_byte.f (a0 : (List Int)) : Option ((List Int)) :=
 (if ([] : (List Int)).length + a0.length ≤ Lim then (some (([] : (List Int)) ++ a0)) else none)
def slices_Clone_byte_byte.Q (w : World) (F : Nat → Prop) (r : (List Int)) (v : Value) (w' : World) : Prop :=
 FO Xy w w' [v] r ∧ Ky [] w w'
theorem slices_Clone_byte_byte.calls (a0 : (List Int)) (w : World) (F : Nat → Prop) (w0_0 : Value) (h0_0 : Xy.rd w [w0_0] a0 F) (r : (List Int)) (m : slices_Clone_byte_byte.f a0 = some r) :
  Calls prog 82 #[w0_0] w (RT (slices_Clone_byte_byte.Q w F) r) := by
 obtain ⟨s0, rfl, kp0, z⟩ := Xj w F
 have A0_0 := z.rd h0_0
 refine Xd (args := [w0_0]) func82 ntmps82 rfl rfl m ?_
 unfold slices_Clone_byte_byte.f
 refine sr (Xb rfl (dn (sq (sr (Xv w0_0 rfl (nq A0_0 u26 rfl rfl rfl rfl rfl rfl rfl (fun nb2 hn2 => ?_)))))))
 refine dn (cdb rfl (fun h3 => ?_) (fun h3 => ?_))
 ·
  obtain rfl := hn2 h3
  exact mg fun _ => (sr (Xb rfl (dn (re rfl func82 rfl (Xq rfl Xf) rfl ⟨_, rfl, (ow_nil 5 (Kd.int .u8) s0 40).fo kp0 rfl z.l, z.ky kp0⟩))))
 refine sk (sr (lt0 (K := (Kd.int .u8)) 40 u26 z5 rfl rfl rfl rfl rfl (fun v4 s4 p4 A4 => ?_)))
 refine Xv w0_0 rfl ?_
 have K6 := kp0.st p4 rfl
 refine apF fl_int sl26 A4 (A0_0.kp K6) rfl rfl rfl rfl rfl rfl rfl (fun v8 s8 p8 A8 => ?_)
 refine asg' v8 rfl (dn ?_)
 have K10 := K6.st p8 rfl
 exact re rfl func82 rfl (Xq rfl Xf) rfl ⟨_, rfl, A8.fo K10 rfl z.l, z.ky K10⟩
def impl_Item_own.f (a0 : Item) : Option (Item) :=
 ((slices_Clone_byte_byte.f a0.T).bind fun r9 => (some (Item.mk a0.Kind a0.N a0.F r9)))
def impl_Item_own.Q (w : World) (F : Nat → Prop) (r : Item) (v : Value) (w' : World) : Prop :=
 ∃ (v0 : Value) (v1 : Value), v = (.agg #[(iI r.Kind), (iI r.N), v0, v1]) ∧ FO kd37 w w' [(iI r.Kind), (iI r.N), v0, v1] r ∧ Ky [] w w'
theorem impl_Item_own.calls (a0 : Item) (w : World) (F : Nat → Prop) (w0_0 : Value) (w0_1 : Value) (h0_0 : Kd.flt.rd w [w0_0] a0.F F) (h0_1 : Xy.rd w [w0_1] a0.T F) (r : Item) (m : impl_Item_own.f a0 = some r) :
  Calls prog 71 #[(.agg #[(iI a0.Kind), (iI a0.N), w0_0, w0_1])] w (RT (impl_Item_own.Q w F) r) := by
 obtain ⟨s0, rfl, kp0, z⟩ := Xj w F
 have A0_0 := fl_of h0_0
 refine Xd (args := [(.agg #[(iI a0.Kind), (iI a0.N), w0_0, w0_1])]) func71 ntmps71 rfl rfl m ?_
 unfold impl_Item_own.f
 refine sr (bx' (cs := [(iI a0.Kind), (iI a0.N), w0_0, w0_1]) 40 rfl rfl (fun b2 s2 p2 B2 => ?_))
 refine al' (cs := [(iI 0), (iI 0), (.float .f64 0), (.slice none 0 0)]) 41 rfl o37 rfl (fun b4 s4 p4 B4 => ?_)
 refine dn (sr (Xn fa37_3 rfl ?_))
 have A6 := B2.st p4 rfl
 refine Xw A6 u26 rfl ?_
 have K7 := kp0.st (Xo p2 p4) rfl
 refine clO 42 rfl func82 rfl (slices_Clone_byte_byte.calls a0.T s4.w (mm [0] s4) w0_1 ((z.rd h0_1).kp K7)) (fun r9 v9_0 s10 p10 A9_0 => ?_)
 refine Xn fa37_3 rfl (sv (A6.st p10 rfl) z26 rfl rfl rfl rfl rfl rfl A9_0.rd.one rfl (fun s13 p13 B13 => ?_))
 refine dn (sr (lda' (es := [(iI a0.Kind), (iI a0.N), w0_0, v9_0]) B13 u37 z37 rfl ?_))
 have A16 := A9_0.st p13 rfl
 refine sva' (vs := [(iI a0.Kind), (iI a0.N), w0_0, v9_0]) (B4.st (Xo p10 p13) rfl) z37 rfl (Xg rfl (Xg rfl (Xg (FL.one A0_0) (Xg A16.rd.one Xu)))) rfl (fun s17 p17 B17 => ?_)
 refine dn ?_
 have A19 : OwF kd37 s17 [(iI a0.Kind), (iI a0.N), w0_0, v9_0] (Item.mk a0.Kind a0.N a0.F r9) 42 := (ow_isoz (fun x : Item => (x.Kind, x.N, x.F, x.T)) (Item.mk a0.Kind a0.N a0.F r9) (ow_l (fz_int .i64 a0.Kind) (ow_l (fz_int .i64 a0.N) (ow_l (fz_flt A0_0) (A16.st p17 rfl)))))
 have K22 := K7.st (tr3 p10 p13 p17) rfl
 exact re rfl func71 rfl (r_b B17 u37 rfl z37 rfl Xf) rfl ⟨_, rfl, w0_0, v9_0, rfl, A19.fo K22 rfl z.l, z.ky K22⟩
def impl_ownEntries.b0 (a0 : (List Entry)) (x2 : (List Entry) × Int) : Option (((List Entry) × Int) ⊕ (List Entry)) :=
 (if (decide (x2.2 < (a0.length : Int))) = true then (if 0 ≤ x2.2 ∧ x2.2 < (a0.length : Int) then ((impl_Item_own.f ((at_ a0 x2.2).Key)).bind fun r27 => (if x2.1.length + ([(Entry.mk r27 ((at_ a0 x2.2).Id))]).length ≤ Lim then (some (Sum.inl ((x2.1 ++ [(Entry.mk r27 ((at_ a0 x2.2).Id))]), (IntKind.wrap .i64 (x2.2 + (1 : Int)))))) else none)) else none) else ((some x2.1).bind fun o => some (Sum.inr o)))
def impl_ownEntries.f (a0 : (List Entry)) : Option ((List Entry)) :=
 (iter (impl_ownEntries.b0 a0) (([] : (List Entry)), (0 : Int)))
def impl_ownEntries.Q (w : World) (F : Nat → Prop) (r : (List Entry)) (v : Value) (w' : World) : Prop :=
 FO Xz w w' [v] r ∧ Ky [] w w'
theorem impl_ownEntries.calls (a0 : (List Entry)) (w : World) (F : Nat → Prop) (w0_0 : Value) (h0_0 : Xz.rd w [w0_0] a0 F) (r : (List Entry)) (m : impl_ownEntries.f a0 = some r) :
  Calls prog 49 #[w0_0] w (RT (impl_ownEntries.Q w F) r) := by
 obtain ⟨s0, rfl, kp0, z⟩ := Xj w F
 have A0_0 := z.rd h0_0
 refine Xd (args := [w0_0]) func49 ntmps49 rfl rfl m ?_
 unfold impl_ownEntries.f
 refine sr (Xb rfl (dn (sr (Xb rfl (dn (sq (sr (Xv w0_0 rfl (ln' A0_0 u52 rfl (Xb rfl (dn (bl (lpI (fun (x2 : (List Entry) × Int) e w => ∃ (s : St) (e0 : Env) (vx2_0 : Value), w = s.w ∧ e = upd (upd (upd (upd e0 3 vx2_0) 6 w0_0) 7 (iI (a0.length : Int))) 8 (iI x2.2) ∧ Kp s0 s ∧ OwF Xz s [vx2_0] x2.1 41) ⟨s0, _, (.slice none 0 0), rfl, (ue (ue (ue (ue rfl rfl) rfl) rfl) rfl), kp0, (ow_nil 48 kd48 _ 41)⟩ (fun g2 ih2 => ?_))))))))))))))
 rintro x2 _ _ ⟨s3, _, vx2_0, rfl, rfl, Kx2, Ax2_0⟩
 unfold impl_ownEntries.b0
 refine sr (Xb rfl (dn (sq (cd rfl (fun h5 => ?_) (fun h5 => ?_)))))
 ·
  refine sk (sq (bl (sr ?_)))
  refine ix' (A0_0.kp Kx2) u52 z48 rfl (fun ad7 es7 h0_7 h1_7 he7 ce7 ia7 => ?_)
  obtain ⟨v7_0, v7_1, rfl, A7_0, A7_1⟩ := op48 he7
  refine lca ce7 u48 z48 rfl rfl rfl rfl rfl rfl rfl (al' (cs := [(iI 0), (iI 0), (.float .f64 0), (.slice none 0 0), (iI 0)]) 42 rfl o48 rfl (fun b10 s10 p10 B10 => ?_))
  have A12 := A7_1.st p10 rfl
  refine sva' (vs := [(iI (((at_ a0 x2.2).Key).Kind)), (iI (((at_ a0 x2.2).Key).N)), v7_0, v7_1, (iI ((at_ a0 x2.2).Id))]) B10 z48 rfl (Xg rfl (Xg rfl (Xg (FL.one A7_0) (Xg A12.one (Xg rfl Xu))))) rfl (fun s13 p13 B13 => ?_)
  refine dn (zdraw [[], [], [1], [2], [], [4], [3, 5], [6], [0, 7, 3], [8, 8, 0, 1, 2, 3, 4, 5, 6, 7, 8]] [some 12, some 13, some 14, some 15, some 16, some 17, some 18, some 19, some 20, some 3] [[3], [5], [13], [14], [5], [16], [15, 17], [18], [12, 19], [20]] [0, 1, 2, 3, 4, 5, 6, 7, 8, 9] ⟨by kernel_rfl, by kernel_rfl, by kernel_rfl⟩ (by kernel_rfl) (fun s15 p15 l15 tb15 zd15 => ?_))
  refine Xt 3 [some 17, some 16, some 12] tb15 (((((zd15.add 0 12 vx2_0 rfl).add 1 13 (pB b10) rfl).add 2 14 (.agg #[(iI (((at_ a0 x2.2).Key).Kind)), (iI (((at_ a0 x2.2).Key).N)), v7_0, v7_1]) rfl).add 4 16 (pO b10 4) rfl).add 5 17 (iI ((at_ a0 x2.2).Id)) rfl) (Xa (Xm (B13.st p15 rfl) u3 rfl) rfl (Xa (Xl fa48_1 rfl) rfl (Xa (Xs (es := [(iI (((at_ a0 x2.2).Key).Kind)), (iI (((at_ a0 x2.2).Key).N)), v7_0, v7_1]) (B13.st p15 rfl) u37 z37 rfl) rfl (Xa (Xl fa48_0 rfl) rfl (Xa (Xp vx2_0 rfl) rfl Xh))))) (by kernel_rfl) rfl (fun l23 e23 zd23 => ?_)
  refine cl' rfl func71 rfl (impl_Item_own.calls ((at_ a0 x2.2).Key) s15.w (mm [0] s15) v7_0 v7_1 ((Xi (s := s15) A7_0).sub (D := [0]) rfl) (A12.st (Xo p13 p15) rfl)) ?_
  rintro r27 _ w27 m27 ⟨v27_0, v27_1, rfl, f27_0, ky27⟩
  obtain ⟨s28, rfl, p28, n28⟩ := nwx s15 w27 43 ky27
  obtain ⟨hu27_0_0, Au27_0_1⟩ := ap37 (f27_0.c n28)
  refine Xr (L' := [5, 4, 0]) (D' := [1, 2, 3]) zd23 rfl rfl rfl (fun zd30 => ?_)
  refine Xt 7 [some 12] tb15 (zd30.add 6 18 (.agg #[(iI r27.Kind), (iI r27.N), v27_0, v27_1, (iI ((at_ a0 x2.2).Id))]) rfl) (Xa (bd_q (cells := [(iI r27.Kind), (iI r27.N), v27_0, v27_1, (iI ((at_ a0 x2.2).Id))]) pl48 o48 rfl rfl rfl rfl rfl rfl) rfl (Xa (Xm (B13.st (Xo p15 p28) rfl) u3 rfl) rfl (Xa (Xl fa48_1 rfl) rfl (Xa (Xp vx2_0 rfl) rfl Xh)))) (by kernel_rfl) rfl (fun l32 e32 zd32 => ?_)
  have A34 : OwF kd48 s28 [(iI r27.Kind), (iI r27.N), v27_0, v27_1, (iI ((at_ a0 x2.2).Id))] (Entry.mk r27 ((at_ a0 x2.2).Id)) 43 := (ow_isoz (fun x : Entry => (x.Key, x.Id)) (Entry.mk r27 ((at_ a0 x2.2).Id)) (ow_r (ow_isoz (fun x : Item => (x.Kind, x.N, x.F, x.T)) r27 (ow_l (fz_int .i64 r27.Kind) (ow_l (fz_int .i64 r27.N) (ow_l (fz_flt hu27_0_0) Au27_0_1)))) (fz_int .i64 ((at_ a0 x2.2).Id))))
  refine ltO (K := kd48) (cells := [(iI r27.Kind), (iI r27.N), v27_0, v27_1, (iI ((at_ a0 x2.2).Id))]) [(Entry.mk r27 ((at_ a0 x2.2).Id))] 43 u52 z48 o48 (lo_one A34) rfl rfl rfl rfl rfl rfl rfl rfl rfl rfl (fun v37 s37 p37 A37 => ?_)
  refine Xr (L' := [0]) (D' := [4, 5, 6, 7, 1, 2, 3]) zd32 rfl rfl rfl (fun zd39 => ?_)
  refine Xx [8, 9] tb15 zd39 (Xa (Xp vx2_0 rfl) rfl Xh) (by kernel_rfl) (by decide) (apO sl52 (Ax2_0.st (tr5 p10 p13 p15 p28 p37) rfl) A37 rfl rfl rfl rfl rfl rfl rfl rfl rfl (fun v41 s41 p41 A41 => ?_))
  refine asg' v41 rfl (dn (ib (rg (Xb rfl (Xb rfl (dn ?_))))))
  exact lb ih2 ⟨s41, _, v41, rfl, (ue (ue (ue (ue rfl rfl) rfl) rfl) rfl), (Kx2.st (tr6 p10 p13 p15 p28 p37 p41) rfl), A41⟩
 exact xt rfl (sgb (sr (Xv vx2_0 rfl (asg' vx2_0 rfl (dn (re rfl func49 rfl (Xq rfl Xf) rfl ⟨_, rfl, Ax2_0.fo Kx2 rfl z.l, z.ky Kx2⟩))))))
def slices_Clone_int_int.f (a0 : (List Int)) : Option ((List Int)) :=
 (if ([] : (List Int)).length + a0.length ≤ Lim then (some (([] : (List Int)) ++ a0)) else none)
def slices_Clone_int_int.Q (w : World) (F : Nat → Prop) (r : (List Int)) (v : Value) (w' : World) : Prop :=
 FO Ya w w' [v] r ∧ Ky [] w w'
theorem slices_Clone_int_int.calls (a0 : (List Int)) (w : World) (F : Nat → Prop) (w0_0 : Value) (h0_0 : Ya.rd w [w0_0] a0 F) (r : (List Int)) (m : slices_Clone_int_int.f a0 = some r) :
  Calls prog 50 #[w0_0] w (RT (slices_Clone_int_int.Q w F) r) := by
 obtain ⟨s0, rfl, kp0, z⟩ := Xj w F
 have A0_0 := z.rd h0_0
 refine Xd (args := [w0_0]) func50 ntmps50 rfl rfl m ?_
 unfold slices_Clone_int_int.f
 refine sr (Xb rfl (dn (sq (sr (Xv w0_0 rfl (nq A0_0 u55 rfl rfl rfl rfl rfl rfl rfl (fun nb2 hn2 => ?_)))))))
 refine dn (cdb rfl (fun h3 => ?_) (fun h3 => ?_))
 ·
  obtain rfl := hn2 h3
  exact mg fun _ => (sr (Xb rfl (dn (re rfl func50 rfl (Xq rfl Xf) rfl ⟨_, rfl, (ow_nil 3 (Kd.int .i64) s0 40).fo kp0 rfl z.l, z.ky kp0⟩))))
 refine sk (sr (lt0 (K := (Kd.int .i64)) 40 u55 z3 rfl rfl rfl rfl rfl (fun v4 s4 p4 A4 => ?_)))
 refine Xv w0_0 rfl ?_
 have K6 := kp0.st p4 rfl
 refine apF fl_int sl55 A4 (A0_0.kp K6) rfl rfl rfl rfl rfl rfl rfl (fun v8 s8 p8 A8 => ?_)
 refine asg' v8 rfl (dn ?_)
 have K10 := K6.st p8 rfl
 exact re rfl func50 rfl (Xq rfl Xf) rfl ⟨_, rfl, A8.fo K10 rfl z.l, z.ky K10⟩
def impl_Tree_own.b0 (a0 : Tree) (x14 : Int × (List Node)) : Option ((Int × (List Node)) ⊕ Tree) :=
 (if (decide (x14.1 < (a0.Nodes.length : Int))) = true then (if 0 ≤ x14.1 ∧ x14.1 < (a0.Nodes.length : Int) then ((impl_ownEntries.f ((at_ a0.Nodes x14.1).Entries)).bind fun r51 => ((slices_Clone_int_int.f ((at_ a0.Nodes x14.1).Kids)).bind fun r60 => (if x14.2.length + ([(Node.mk ((at_ a0.Nodes x14.1).Leaf) r51 r60)]).length ≤ Lim then (some (Sum.inl ((IntKind.wrap .i64 (x14.1 + (1 : Int))), (x14.2 ++ [(Node.mk ((at_ a0.Nodes x14.1).Leaf) r51 r60)])))) else none))) else none) else ((some (Tree.mk x14.2 a0.Root)).bind fun o => some (Sum.inr o)))
def impl_Tree_own.f (a0 : Tree) : Option (Tree) :=
 (iter (impl_Tree_own.b0 a0) ((0 : Int), ([] : (List Node))))
def impl_Tree_own.Q (w : World) (F : Nat → Prop) (r : Tree) (v : Value) (w' : World) : Prop :=
 ∃ (v0 : Value), v = (.agg #[v0, (iI r.Root)]) ∧ FO kd33 w w' [v0, (iI r.Root)] r ∧ Ky [] w w'
theorem impl_Tree_own.calls (a0 : Tree) (w : World) (F : Nat → Prop) (w0_0 : Value) (h0_0 : Yb.rd w [w0_0] a0.Nodes F) (r : Tree) (m : impl_Tree_own.f a0 = some r) :
  Calls prog 29 #[(.agg #[w0_0, (iI a0.Root)])] w (RT (impl_Tree_own.Q w F) r) := by
 obtain ⟨s0, rfl, kp0, z⟩ := Xj w F
 have A0_0 := z.rd h0_0
 refine Xd (args := [(.agg #[w0_0, (iI a0.Root)])]) func29 ntmps29 rfl rfl m ?_
 unfold impl_Tree_own.f
 refine sr (bx' (cs := [w0_0, (iI a0.Root)]) 40 rfl rfl (fun b2 s2 p2 B2 => ?_))
 refine al' (cs := [(.slice none 0 0), (iI 0)]) 41 rfl o33 rfl (fun b4 s4 p4 B4 => ?_)
 refine dn (sr (Xn fa33_1 rfl ?_))
 have A6 := B2.st p4 rfl
 refine Xw A6 u3 rfl (bd (cells := [(.slice none 0 0), (iI a0.Root)]) pl33 o33 rfl rfl rfl rfl rfl rfl (al' (cs := [(.slice none 0 0), (iI 0)]) 42 rfl o33 rfl (fun b7 s7 p7 B7 => ?_)))
 refine sva' (vs := [(.slice none 0 0), (iI a0.Root)]) B7 z33 rfl (Xg rfl (Xg rfl Xu)) rfl (fun s9 p9 B9 => ?_)
 refine dn (sq (sr (Xn fa33_0 rfl ?_)))
 refine Xw (A6.st (Xo p7 p9) rfl) u31 rfl ?_
 have K12 := kp0.st (tr4 p2 p4 p7 p9) rfl
 refine ln' (A0_0.kp K12) u31 rfl (Xb rfl (dn (bl ?_)))
 refine lpI (fun (x14 : Int × (List Node)) e w => ∃ (s : St) (e0 : Env) (vx14_0 : Value), w = s.w ∧ e = upd (upd (upd (upd (upd e0 2 (pB b4)) 3 (pB b7)) 10 w0_0) 11 (iI (a0.Nodes.length : Int))) 12 (iI x14.1) ∧ Kp s0 s ∧ OwF Yb s [vx14_0] x14.2 43 ∧ BlF s b7 33 [vx14_0, (iI a0.Root)] 42 ∧ BlF s b4 33 [(.slice none 0 0), (iI 0)] 41) ⟨s9, _, (.slice none 0 0), rfl, (ue (ue (ue (ue (ue rfl rfl) rfl) rfl) rfl) rfl), K12, (ow_nil 57 kd57 _ 43), B9, (B4.st (Xo p7 p9) rfl)⟩ (fun g14 ih14 => ?_)
 rintro x14 _ _ ⟨s16, _, vx14_0, rfl, rfl, Kx14, Ax14_0, Bx14_b7, Bx14_b4⟩
 unfold impl_Tree_own.b0
 refine sr (Xb rfl (dn (sq (cd rfl (fun h20 => ?_) (fun h20 => ?_)))))
 ·
  refine sk (sq (bl (sr ?_)))
  refine ix' (A0_0.kp Kx14) u31 z57 rfl (fun ad22 es22 h0_22 h1_22 he22 ce22 ia22 => ?_)
  obtain ⟨v22_0, v22_1, rfl, A22_0, A22_1⟩ := op57 he22
  refine lca ce22 u57 z57 rfl rfl rfl rfl rfl rfl rfl (al' (cs := [(.bool false), (.slice none 0 0), (.slice none 0 0)]) 44 rfl o57 rfl (fun b26 s26 p26 B26 => ?_))
  have A28 := A22_1.st p26 rfl
  have A29 := A22_0.st p26 rfl
  refine sva' (vs := [(.bool ((at_ a0.Nodes x14.1).Leaf)), v22_0, v22_1]) B26 z57 rfl (Xg rfl (Xg A29.one (Xg A28.one Xu))) rfl (fun s30 p30 B30 => ?_)
  refine dn (zdraw [[], [0], [], [2], [], [4], [5], [], [7], [8, 6], [3, 6, 9], [10], [1, 11, 9], [0, 1, 2, 3, 4, 5, 6, 7, 8, 9, 10, 11, 12], [13, 12, 12, 0, 1, 2, 3, 4, 5, 6, 7, 8, 9, 10, 11, 12]] [some 16, some 17, some 18, some 19, some 20, some 21, some 22, some 23, some 24, some 25, some 26, some 27, some 28, some 29, none] [[3], [16], [5], [18], [5], [20], [21], [5], [23], [24], [19, 22, 25], [26], [17, 27], [3], [29, 28]] [0, 1, 2, 3, 4, 5, 6, 7, 8, 9, 10, 11, 12, 13, 14] ⟨by kernel_rfl, by kernel_rfl, by kernel_rfl⟩ (by kernel_rfl) (fun s32 p32 l32 tb32 zd32 => ?_))
  refine Xt 6 [some 24, some 23, some 19, some 18, some 17, some 16] tb32 ((((((((zd32.add 0 16 (pB b7) rfl).add 1 17 vx14_0 rfl).add 2 18 (pB b26) rfl).add 3 19 (.bool ((at_ a0.Nodes x14.1).Leaf)) rfl).add 4 20 (pO b26 1) rfl).add 5 21 v22_0 rfl).add 7 23 (pO b26 2) rfl).add 8 24 v22_1 rfl) (Xa (Xm (B30.st p32 rfl) u55 rfl) rfl (Xa (Xl fa57_2 rfl) rfl (Xa (Xm (B30.st p32 rfl) u52 rfl) rfl (Xa (Xl fa57_1 rfl) rfl (Xa (Xm (B30.st p32 rfl) u4 rfl) rfl (Xa (Xl fa57_0 rfl) rfl (Xa (Xm (Bx14_b7.st (tr3 p26 p30 p32) rfl) u31 rfl) rfl (Xa (Xl fa33_0 rfl) rfl Xh)))))))) (by kernel_rfl) rfl (fun l45 e45 zd45 => ?_)
  refine clO 45 rfl func49 rfl (impl_ownEntries.calls ((at_ a0.Nodes x14.1).Entries) s32.w (mm [0] s32) v22_0 (A29.st (Xo p30 p32) rfl)) (fun r51 v51_0 s52 p52 A51_0 => ?_)
  refine Xr (L' := [8, 7, 3, 2, 1, 0]) (D' := [4, 5, 6]) zd45 rfl rfl rfl (fun zd54 => ?_)
  refine Xt 9 [some 19, some 18, some 17, some 16] tb32 zd54 (Xa (Xm (B30.st (Xo p32 p52) rfl) u55 rfl) rfl (Xa (Xl fa57_2 rfl) rfl (Xa (Xm (B30.st (Xo p32 p52) rfl) u4 rfl) rfl (Xa (Xl fa57_0 rfl) rfl (Xa (Xm (Bx14_b7.st (tr4 p26 p30 p32 p52) rfl) u31 rfl) rfl (Xa (Xl fa33_0 rfl) rfl Xh)))))) (by kernel_rfl) rfl (fun l55 e55 zd55 => ?_)
  refine clO 46 rfl func50 rfl (slices_Clone_int_int.calls ((at_ a0.Nodes x14.1).Kids) s52.w (mm [0] s52) v22_1 (A28.st (tr3 p30 p32 p52) rfl)) (fun r60 v60_0 s61 p61 A60_0 => ?_)
  refine Xr (L' := [3, 2, 1, 0]) (D' := [7, 8, 9, 4, 5, 6]) zd55 rfl rfl rfl (fun zd63 => ?_)
  refine Xt 11 [some 17, some 16] tb32 (zd63.add 10 26 (.agg #[(.bool ((at_ a0.Nodes x14.1).Leaf)), v51_0, v60_0]) rfl) (Xa (bd_q (cells := [(.bool ((at_ a0.Nodes x14.1).Leaf)), v51_0, v60_0]) pl57 o57 rfl rfl rfl rfl rfl (lfill_pc (pc_c rfl (pc_c (oc (A51_0.st p61 rfl).rd.one) (pc_c (oc A60_0.rd.one) pc_n))) rfl)) rfl (Xa (Xm (B30.st (tr3 p32 p52 p61) rfl) u4 rfl) rfl (Xa (Xl fa57_0 rfl) rfl (Xa (Xm (Bx14_b7.st (tr5 p26 p30 p32 p52 p61) rfl) u31 rfl) rfl (Xa (Xl fa33_0 rfl) rfl Xh))))) (by kernel_rfl) rfl (fun l66 e66 zd66 => ?_)
  obtain ⟨s71, hw71, p71, A71⟩ := ow_2 (A51_0.st p61 rfl) A60_0 rfl rfl
  rw [hw71]
  have A73 : OwF kd57 s71 [(.bool ((at_ a0.Nodes x14.1).Leaf)), v51_0, v60_0] (Node.mk ((at_ a0.Nodes x14.1).Leaf) r51 r60) 45 := (ow_isoz (fun x : Node => (x.Leaf, x.Entries, x.Kids)) (Node.mk ((at_ a0.Nodes x14.1).Leaf) r51 r60) (ow_l (fz_bool ((at_ a0.Nodes x14.1).Leaf)) A71))
  refine ltO (K := kd57) (cells := [(.bool ((at_ a0.Nodes x14.1).Leaf)), v51_0, v60_0]) [(Node.mk ((at_ a0.Nodes x14.1).Leaf) r51 r60)] 45 u31 z57 o57 (lo_one A73) rfl rfl rfl rfl rfl rfl rfl rfl rfl rfl (fun v76 s76 p76 A76 => ?_)
  refine Xr (L' := [1, 0]) (D' := [2, 3, 10, 11, 7, 8, 9, 4, 5, 6]) zd66 rfl rfl rfl (fun zd78 => ?_)
  refine Xx [12, 13, 14] tb32 zd78 (Xa (Xm (Bx14_b7.st (tr7 p26 p30 p32 p52 p61 p71 p76) rfl) u31 rfl) rfl (Xa (Xl fa33_0 rfl) rfl Xh)) (by kernel_rfl) (by decide) (apO sl31 (Ax14_0.st (tr7 p26 p30 p32 p52 p61 p71 p76) rfl) A76 rfl rfl rfl rfl rfl rfl rfl rfl rfl (fun v81 s81 p81 A81 => ?_))
  refine Xn fa33_0 rfl (sv (Bx14_b7.st (tr8 p26 p30 p32 p52 p61 p71 p76 p81) rfl) z31 rfl rfl rfl rfl rfl rfl A81.rd.one rfl (fun s84 p84 B84 => ?_))
  refine dn (ib (rg (Xb rfl (Xb rfl (dn ?_)))))
  exact lb ih14 ⟨s84, _, v81, rfl, (ue (ue (ue (ue (ue rfl rfl) rfl) rfl) rfl) rfl), (Kx14.st (tr9 p26 p30 p32 p52 p61 p71 p76 p81 p84) rfl), (A81.st p84 rfl), B84, (Bx14_b4.st (tr9 p26 p30 p32 p52 p61 p71 p76 p81 p84) rfl)⟩
 refine xt rfl (sgb (sr (lda' (es := [vx14_0, (iI a0.Root)]) Bx14_b7 u33 z33 rfl (sva' (vs := [vx14_0, (iI a0.Root)]) Bx14_b4 z33 rfl (Xg Ax14_0.rd.one (Xg rfl Xu)) rfl (fun s89 p89 B89 => ?_)))))
 refine dn ?_
 have A91 : OwF kd33 s89 [vx14_0, (iI a0.Root)] (Tree.mk x14.2 a0.Root) 43 := (ow_isoz (fun x : Tree => (x.Nodes, x.Root)) (Tree.mk x14.2 a0.Root) (ow_r (Ax14_0.st p89 rfl) (fz_int .i64 a0.Root)))
 have K94 := Kx14.st p89 rfl
 exact re rfl func29 rfl (r_b B89 u33 rfl z33 rfl Xf) rfl ⟨_, rfl, vx14_0, rfl, A91.fo K94 rfl z.l, z.ky K94⟩
set_option linter.unusedSectionVars false
section
variable {β : Type} [Inhabited β]
def slices_Delete_impl_Entry_impl_Entry_pk.f (a0 : (List (Pk β))) (a1 : Int) (a2 : Int) : Option ((List (Pk β))) :=
 (if 0 ≤ a1 ∧ a1 ≤ a2 ∧ a2 ≤ (a0.length : Int) ∧ (a0.length : Int) ≤ (a0.length : Int) then (if (a1 == a2) = true then (some a0) else (if 0 ≤ a1 ∧ a1 ≤ (a0.length : Int) then (if 0 ≤ a2 ∧ a2 ≤ (a0.length : Int) then (if (a0.take (a1).toNat).length + (a0.drop (a2).toNat).length ≤ a0.length ∧ (a0.take (a1).toNat).length + (a0.drop (a2).toNat).length ≤ Lim then (if 0 ≤ (((a0.take (a1).toNat) ++ (a0.drop (a2).toNat)).length : Int) ∧ (((a0.take (a1).toNat) ++ (a0.drop (a2).toNat)).length : Int) = (((a0.take (a1).toNat) ++ (a0.drop (a2).toNat)).length : Int) ∧ (((a0.take (a1).toNat) ++ (a0.drop (a2).toNat)).length : Int) ≤ (a0.length : Int) ∧ (a0.length : Int) ≤ (a0.length : Int) then (some (((a0.take (a1).toNat) ++ (a0.drop (a2).toNat)).take ((((a0.take (a1).toNat) ++ (a0.drop (a2).toNat)).length : Int)).toNat ++ List.replicate (((a0.take (a1).toNat) ++ (a0.drop (a2).toNat)).length - ((((a0.take (a1).toNat) ++ (a0.drop (a2).toNat)).length : Int)).toNat) (Pk.mk [(iI 0), (iI 0), (.float .f64 0), (.slice none 0 0), (iI 0)] default))) else none) else none) else none) else none)) else none)
def slices_Delete_impl_Entry_impl_Entry_pk.Q (w : World) (F : Nat → Prop) (os : List Nat) (r : (List (Pk β))) (v : Value) (w' : World) : Prop :=
 FW (Kd.sl 48 (Kd.pk β 5)) os w w' [v] r ∧ Ky os w w'
theorem slices_Delete_impl_Entry_impl_Entry_pk.calls (a0 : (List (Pk β))) (a1 : Int) (a2 : Int) (w : World) (F : Nat → Prop) (w0_0 : Value) (os : List Nat) (h0 : (Kd.sl 48 (Kd.pk β 5)).ow w [w0_0] a0 os) (hn : os.Nodup) (hF : ∀ b, F b → b ∉ os) (r : (List (Pk β))) (m : slices_Delete_impl_Entry_impl_Entry_pk.f a0 a1 a2 = some r) :
  Calls prog 30 #[w0_0, (iI a1), (iI a2)] w (RT (slices_Delete_impl_Entry_impl_Entry_pk.Q w F os) r) := by
 obtain ⟨s0, rfl, kp0, z⟩ := startN w F [(os, 40)] (by simpa [fl_] using hn) (fun b hb => by simpa [fl_] using hF b hb) rfl
 have ez : fl_ [(os, 40)] = os := by simp [fl_]
 have A0_0 := z.ow (c := 40) (by simp) hn h0
 refine Xd (args := [w0_0, (iI a1), (iI a2)]) func30 ntmps30 rfl rfl m ?_
 unfold slices_Delete_impl_Entry_impl_Entry_pk.f
 refine sr (Xb rfl (dn (sr (Xv w0_0 rfl (Xb rfl (Xb rfl (Xv w0_0 rfl (ln' A0_0.rd u52 rfl (sl3_ A0_0 u52 z48 rfl rfl rfl rfl rfl rfl rfl rfl rfl (fun v2 => ?_))))))))))
 refine dn (sq (sr (Xb rfl (Xb rfl (Xb rfl (dn (cd rfl (fun h3 => ?_) (fun h3 => ?_))))))))
 ·
  exact sr (Xv w0_0 rfl (asg' w0_0 rfl (dn (re rfl func30 rfl (Xq rfl Xf) rfl ⟨_, rfl, z.fw' ez kp0 (oc_ow A0_0) rfl, z.ky' ez kp0⟩))))
 refine sk (sr (Xv w0_0 rfl (ln' A0_0.rd u52 rfl (Xb rfl (dn (sq (zdraw [[], [], [0, 1], [], [], [3, 4], [2, 5], [6, 6, 0, 1, 2, 3, 4, 5, 6]] [some 20, some 21, some 22, some 23, some 24, some 25, some 26, some 0] [[0], [1], [20, 21], [0], [2], [23, 24], [22, 25], [26]] [0, 1, 2, 3, 4, 5, 6, 7] ⟨by kernel_rfl, by kernel_rfl, by kernel_rfl⟩ (by kernel_rfl) (fun s4 p4 l4 tb4 zd4 => ?_))))))))
 have A8 := A0_0.st p4 rfl
 refine mg fun hg7 => ?_
 obtain ⟨v7, C7⟩ := cut_e (a := 0) (b := (a1).toNat) A8 (Nat.zero_le _) (by omega)
 obtain ⟨A7, Q7⟩ := cut_ow fl_pk A8 (by omega) C7
 refine mg fun hg13 => ?_
 obtain ⟨v13, C13⟩ := cut_e (a := (a2).toNat) (b := a0.length) A8 (by omega) (Nat.le_refl _)
 refine Xx [6, 7] tb4 ((((((zd4.add 0 20 w0_0 rfl).add 1 21 (iI a1) rfl).add 2 22 v7 rfl).add 3 23 w0_0 rfl).add 4 24 (iI a2) rfl).add 5 25 v13 rfl) (Xa (slA_q hg13.1 C13 u52 z48 rfl rfl rfl rfl rfl rfl rfl) rfl (Xa (Xc rfl) rfl (Xa (Xp w0_0 rfl) rfl (Xa (slH_q hg7.1 C7 u52 z48 rfl rfl rfl rfl rfl rfl rfl) rfl (Xa (Xc rfl) rfl (Xa (Xp w0_0 rfl) rfl Xh)))))) (by kernel_rfl) (by decide) (apIn fl_pk sl52 A7 Q7 (cut_rdf A8 C13) rfl rfl rfl rfl rfl rfl rfl (fun v16 s16 p16 A16 Q16 => ?_))
 refine asg' v16 rfl (dn (sr (Xv v16 rfl (Xv v16 rfl (ln' A16.rd u52 rfl (Xb rfl (mg fun hg18 => ?_)))))))
 obtain ⟨v18, C18⟩ := cut_m (a := ((((a0.take (a1).toNat) ++ (a0.drop (a2).toNat)).length : Int)).toNat) (b := ((a0.length : Int)).toNat) A16 Q16 (by omega) (by omega)
 refine slB_ hg18.1 (by omega) C18 u52 z48 rfl rfl rfl rfl rfl rfl rfl rfl (clr_ (x0 := (Pk.mk [(iI 0), (iI 0), (.float .f64 0), (.slice none 0 0), (iI 0)] default)) fl_pk A16 C18 (by omega) (by omega) u52 o48 rfl rfl (fun _ => ⟨⟨rfl, rfl, fun v hv => List.all_eq_true.1 (show ([(iI 0), (iI 0), (.float .f64 0), (.slice none 0 0), (iI 0)] : List Value).all (·.oneCell') = true from rfl) v hv⟩, rfl⟩) rfl rfl rfl rfl rfl (fun s19 p19 A19 => ?_))
 refine dn (sr (Xv v16 rfl (asg' v16 rfl (dn ?_))))
 have K21 := kp0.st (tr3 p4 p16 p19) rfl
 exact re rfl func30 rfl (Xq rfl Xf) rfl ⟨_, rfl, z.fw' ez K21 (oc_ow A19) rfl, z.ky' ez K21⟩
end
def slices_Delete_impl_Entry_impl_Entry.f (a0 : (List Entry)) (a1 : Int) (a2 : Int) : Option ((List Entry)) := dlF a0 a1 a2
def slices_Delete_impl_Entry_impl_Entry.Q (w : World) (F : Nat → Prop) (os : List Nat) (r : (List Entry)) (v : Value) (w' : World) : Prop := FW Xz os w w' [v] r ∧ Ky os w w'
theorem slices_Delete_impl_Entry_impl_Entry.calls (a0 : (List Entry)) (a1 : Int) (a2 : Int) (w : World) (F : Nat → Prop) (w0_0 : Value) (os : List Nat) (h0 : Xz.ow w [w0_0] a0 os) (hn : os.Nodup) (hF : ∀ b, F b → b ∉ os) (r : (List Entry)) (m : slices_Delete_impl_Entry_impl_Entry.f a0 a1 a2 = some r) :
  Calls prog 30 #[w0_0, (iI a1), (iI a2)] w (RT (slices_Delete_impl_Entry_impl_Entry.Q w F os) r) :=
 dlW (te := 48) (K := kd48) slices_Delete_impl_Entry_impl_Entry_pk.calls (fun a0 i j h0 h1 h2 hl => dlM_eq _ a0 i j h0 h1 h2 hl) a0 a1 a2 w w0_0 os h0 hn r m

def impl_TreeDrop.f (a0 : Tree) (a1 : Item) (a2 : Int) : Option (Tree × Bool) :=
 ((impl_TreeOk.f a0).bind fun r19 => ((if (!r19) = true then (some true) else ((impl_isEntry.f (Entry.mk a1 a2)).bind fun r29 => (some (!r29)))).bind fun y21 => (if y21 = true then (some ((Tree.mk ([] : (List Node)) (0 : Int)), false)) else ((impl_Tree_has.f a0 (Entry.mk a1 a2)).bind fun r47 => (if (!r47.2.2) = true then (some ((Tree.mk ([] : (List Node)) (0 : Int)), false)) else ((impl_Tree_own.f a0).bind fun r59 => (if 0 ≤ r47.1 ∧ r47.1 < (r59.Nodes.length : Int) then ((slices_Delete_impl_Entry_impl_Entry.f ((at_ r59.Nodes r47.1).Entries) r47.2.1 (IntKind.wrap .i64 (r47.2.1 + (1 : Int)))).bind fun r93 => (if 0 ≤ r47.1 ∧ r47.1 < (r59.Nodes.length : Int) then (some ((Tree.mk (r59.Nodes.set (r47.1).toNat (Node.mk (at_ r59.Nodes r47.1).Leaf r93 (at_ r59.Nodes r47.1).Kids)) r59.Root), true)) else none)) else none)))))))
def impl_TreeDrop.Q (w : World) (F : Nat → Prop) (r : Tree × Bool) (v : Value) (w' : World) : Prop :=
 ∃ (v0 : Value), v = .tuple #[(.agg #[v0, (iI r.1.Root)]), (.bool r.2)] ∧ FO kd33 w w' [v0, (iI r.1.Root)] r.1 ∧ Ky [] w w'
theorem impl_TreeDrop.calls (a0 : Tree) (a1 : Item) (a2 : Int) (w : World) (F : Nat → Prop) (w0_0 : Value) (w1_0 : Value) (w1_1 : Value) (h0_0 : Yb.rd w [w0_0] a0.Nodes F) (h1_0 : Kd.flt.rd w [w1_0] a1.F F) (h1_1 : Xy.rd w [w1_1] a1.T F) (r : Tree × Bool) (m : impl_TreeDrop.f a0 a1 a2 = some r) :
  Calls prog 9 #[(.agg #[w0_0, (iI a0.Root)]), (.agg #[(iI a1.Kind), (iI a1.N), w1_0, w1_1]), (iI a2)] w (RT (impl_TreeDrop.Q w F) r) := by
 obtain ⟨s0, rfl, kp0, z⟩ := Xj w F
 have A0_0 := z.rd h0_0
 have A1_0 := fl_of h1_0
 have A1_1 := z.rd h1_1
 refine Xd (args := [(.agg #[w0_0, (iI a0.Root)]), (.agg #[(iI a1.Kind), (iI a1.N), w1_0, w1_1]), (iI a2)]) func9 ntmps9 rfl rfl m ?_
 unfold impl_TreeDrop.f
 refine sr (bx' (cs := [w0_0, (iI a0.Root)]) 40 rfl rfl (fun b3 s3 p3 B3 => ?_))
 refine bx' (cs := [(iI a1.Kind), (iI a1.N), w1_0, w1_1]) 41 rfl rfl (fun b5 s5 p5 B5 => ?_)
 refine al' (cs := [(.slice none 0 0), (iI 0)]) 42 rfl o33 rfl (fun b7 s7 p7 B7 => ?_)
 refine Xb rfl (dn (sr ?_))
 refine lda' (es := [(iI a1.Kind), (iI a1.N), w1_0, w1_1]) (B5.st p7 rfl) u37 z37 rfl (Xb rfl (bd (cells := [(iI a1.Kind), (iI a1.N), w1_0, w1_1, (iI a2)]) pl48 o48 rfl rfl rfl rfl rfl rfl (al' (cs := [(iI 0), (iI 0), (.float .f64 0), (.slice none 0 0), (iI 0)]) 43 rfl o48 rfl (fun b10 s10 p10 B10 => ?_))))
 have K12 := kp0.st (tr4 p3 p5 p7 p10) rfl
 refine sva' (vs := [(iI a1.Kind), (iI a1.N), w1_0, w1_1, (iI a2)]) B10 z48 rfl (Xg rfl (Xg rfl (Xg (FL.one A1_0) (Xg (A1_1.kp K12).one (Xg rfl Xu))))) rfl (fun s14 p14 B14 => ?_)
 refine dn (sq (sr ?_))
 have A16 := B3.st (tr4 p5 p7 p10 p14) rfl
 refine lda' (es := [w0_0, (iI a0.Root)]) A16 u33 z33 rfl ?_
 have K17 := K12.st p14 rfl
 refine clV 44 rfl func26 rfl (impl_TreeOk.calls a0 s14.w (mm [0] s14) w0_0 (A0_0.kp K17)) (fun r19 s20 p20 n20 => ?_)
 refine Xb rfl (Xb rfl (ji [] (fun (y21 : Bool) e w => ∃ (s : St) (e0 : Env), w = s.w ∧ e = upd (upd (upd (upd e0 3 (pB b3)) 6 (pB b7)) 8 (pB b10)) 23 (.bool y21) ∧ Kp s0 s ∧ BlF s b10 48 [(iI a1.Kind), (iI a1.N), w1_0, w1_1, (iI a2)] 43 ∧ BlF s b7 33 [(.slice none 0 0), (iI 0)] 42 ∧ BlF s b3 33 [w0_0, (iI a0.Root)] 40) (fun Gj21 Kj21 => ?_) ?_))
 ·
  rcases bft (!r19) with hb21 | hb21
  ·
   refine sbT hb21 ?_
   rw [if_pos hb21]
   refine Xk rfl (Xk rfl (Xk rfl (Xb rfl ?_)))
   exact Kj21 _ _ _ ⟨s20, _, rfl, (ue (ue (ue (ue rfl rfl) rfl) rfl) rfl), (K17.st p20 rfl), (B14.st p20 rfl), (B7.st (tr3 p10 p14 p20) rfl), (A16.st p20 rfl)⟩
  refine sbT hb21 ?_
  rw [if_neg (by rw [hb21]; decide)]
  have A26 := B14.st p20 rfl
  refine lda' (es := [(iI a1.Kind), (iI a1.N), w1_0, w1_1, (iI a2)]) A26 u48 z48 rfl ?_
  have K27 := K17.st p20 rfl
  refine clV 45 rfl func27 rfl (impl_isEntry.calls (Entry.mk a1 a2) s20.w (mm [0] s20) w1_0 w1_1 ((Xi (s := s20) A1_0).sub (D := [0]) rfl) (A1_1.kp K27)) (fun r29 s30 p30 n30 => ?_)
  refine Xb rfl (Xb rfl ?_)
  exact Kj21 _ _ _ ⟨s30, _, rfl, (ue (ue (ue (ue rfl rfl) rfl) rfl) rfl), (K27.st p30 rfl), (A26.st p30 rfl), (B7.st (tr4 p10 p14 p20 p30) rfl), (A16.st (Xo p20 p30) rfl)⟩
 rintro y21 _ _ ⟨s35, _, rfl, rfl, Ky21, By21_b10, By21_b7, By21_b3⟩
 refine dn (cd rfl (fun h39 => ?_) (fun h39 => ?_))
 ·
  refine sr (bd (cells := [(.slice none 0 0), (iI 0)]) pl33 o33 rfl rfl rfl rfl rfl rfl (sva' (vs := [(.slice none 0 0), (iI 0)]) By21_b7 z33 rfl (Xg rfl (Xg rfl Xu)) rfl (fun s40 p40 B40 => ?_)))
  refine Xb rfl (dn ?_)
  have A42 : OwF kd33 s40 [(.slice none 0 0), (iI 0)] (Tree.mk ([] : (List Node)) (0 : Int)) 46 := ow_z _ _ (fz_iso (fun x : Tree => (x.Nodes, x.Root)) (Tree.mk ([] : (List Node)) (0 : Int)) (fz_pair (fz_nil 57 kd57) (fz_int .i64 (0 : Int))))
  have K44 := Ky21.st p40 rfl
  exact re rfl func9 rfl (r_b B40 u33 rfl z33 rfl (Xq rfl Xf)) rfl ⟨_, rfl, (.slice none 0 0), rfl, A42.fo K44 rfl z.l, z.ky K44⟩
 refine sk (sr (lda' (es := [w0_0, (iI a0.Root)]) By21_b3 u33 z33 rfl (lda' (es := [(iI a1.Kind), (iI a1.N), w1_0, w1_1, (iI a2)]) By21_b10 u48 z48 rfl ?_)))
 refine clV 47 rfl func28 rfl (impl_Tree_has.calls a0 (Entry.mk a1 a2) s35.w (mm [0] s35) w0_0 w1_0 w1_1 (A0_0.kp Ky21) ((Xi (s := s35) A1_0).sub (D := [0]) rfl) (A1_1.kp Ky21)) (fun r47 s48 p48 n48 => ?_)
 refine Xb rfl (Xb (v := (iI r47.1)) rfl (Xb (v := (iI r47.2.1)) rfl (Xb (v := (.bool r47.2.2)) rfl (Xb rfl (Xb rfl (Xb rfl (dn (sq (sr (Xb rfl (Xb rfl (dn (cd rfl (fun h49 => ?_) (fun h49 => ?_))))))))))))))
 ·
  refine sr (bd (cells := [(.slice none 0 0), (iI 0)]) pl33 o33 rfl rfl rfl rfl rfl rfl ?_)
  refine sva' (vs := [(.slice none 0 0), (iI 0)]) (By21_b7.st p48 rfl) z33 rfl (Xg rfl (Xg rfl Xu)) rfl (fun s51 p51 B51 => ?_)
  refine Xb rfl (dn ?_)
  have A53 : OwF kd33 s51 [(.slice none 0 0), (iI 0)] (Tree.mk ([] : (List Node)) (0 : Int)) 48 := ow_z _ _ (fz_iso (fun x : Tree => (x.Nodes, x.Root)) (Tree.mk ([] : (List Node)) (0 : Int)) (fz_pair (fz_nil 57 kd57) (fz_int .i64 (0 : Int))))
  have K55 := Ky21.st (Xo p48 p51) rfl
  exact re rfl func9 rfl (r_b B51 u33 rfl z33 rfl (Xq rfl Xf)) rfl ⟨_, rfl, (.slice none 0 0), rfl, A53.fo K55 rfl z.l, z.ky K55⟩
 refine sk (sr ?_)
 refine lda' (es := [w0_0, (iI a0.Root)]) (By21_b3.st p48 rfl) u33 z33 rfl ?_
 have K57 := Ky21.st p48 rfl
 refine cl' rfl func29 rfl (impl_Tree_own.calls a0 s48.w (mm [0] s48) w0_0 (A0_0.kp K57)) ?_
 rintro r59 _ w59 m59 ⟨v59_0, rfl, f59_0, ky59⟩
 obtain ⟨s60, rfl, p60, n60⟩ := nwx s48 w59 49 ky59
 refine al' (cs := [(.slice none 0 0), (iI 0)]) 50 rfl o33 rfl (fun b62 s62 p62 B62 => ?_)
 have A64 := (ap33 (f59_0.c n60)).st p62 rfl
 refine sva' (vs := [v59_0, (iI r59.Root)]) B62 z33 rfl (Xg A64.rd.one (Xg rfl Xu)) rfl (fun s65 p65 B65 => ?_)
 refine dn (sq (zdraw [[], [0], [], [], [3], [], [4, 5], [6], [7], [], [], [10], [8, 9, 11], [1, 2, 0, 1, 2, 3, 4, 5, 6, 7, 8, 9, 10, 11, 12], [13, 0, 1, 2, 3, 4, 5, 6, 7, 8, 9, 10, 11, 12], [14, 12, 12, 0, 1, 2, 3, 4, 5, 6, 7, 8, 9, 10, 11, 12]] [some 37, some 38, some 39, some 40, some 41, some 42, some 43, some 44, some 45, some 46, some 47, some 48, some 49, some 50, some 51, none] [[12], [37], [9], [12], [40], [9], [41, 42], [43], [44], [10], [10], [47], [45, 46, 48], [38, 39], [50], [51, 49]] [0, 1, 2, 3, 4, 5, 6, 7, 8, 9, 10, 11, 12, 13, 14, 15] ⟨by kernel_rfl, by kernel_rfl, by kernel_rfl⟩ (by kernel_rfl) (fun s67 p67 l67 tb67 zd67 => ?_)))
 have A76 := A64.st (Xo p65 p67) rfl
 refine mg fun hg77 => ?_
 obtain ⟨ad77, es77, he77, ce77, ia77⟩ := ix_e A76.rd rfl hg77.1 hg77.2
 obtain ⟨v77_0, v77_1, rfl, A77_0, A77_1⟩ := op57 he77
 refine Xt 12 [some 39, some 38, some 37] tb67 ((((((((((((zd67.add 0 37 (pB b62) rfl).add 1 38 v59_0 rfl).add 2 39 (iI r47.1) rfl).add 3 40 (pB b62) rfl).add 4 41 v59_0 rfl).add 5 42 (iI r47.1) rfl).add 6 43 (.pointer (some ad77)) rfl).add 7 44 (.pointer (some (ad77.add 1))) rfl).add 8 45 v77_0 rfl).add 9 46 (iI r47.2.1) rfl).add 10 47 (iI r47.2.1) rfl).add 11 48 (iI (IntKind.wrap .i64 (r47.2.1 + (1 : Int)))) rfl) (Xa (Xc rfl) rfl (Xa (Xc rfl) rfl (Xa (Xc rfl) rfl (Xa (lc_q ce77 u52 rfl rfl rfl rfl rfl rfl rfl rfl) rfl (Xa (Xl fa57_1 rfl) rfl (Xa (ix_q' A76.rd u31 z57 hg77.1 hg77.2 ia77 rfl) rfl (Xa (Xc rfl) rfl (Xa (Xm (B65.st p67 rfl) u31 rfl) rfl (Xa (Xl fa33_0 rfl) rfl (Xa (Xc rfl) rfl (Xa (Xm (B65.st p67 rfl) u31 rfl) rfl (Xa (Xl fa33_0 rfl) rfl Xh)))))))))))) (by kernel_rfl) rfl (fun l87 e87 zd87 => ?_)
 obtain ⟨s90, hw90, p90, A90, H90, ce90⟩ := take_ 51 (lg_iso (fun x : Node => (x.Leaf, x.Entries, x.Kids)) (fun x => x.Entries) (fun x y => (Node.mk x.Leaf y x.Kids)) (lg_right (lg_left lg_id)) (fun _ => rfl) (fun _ _ => rfl)) A76 hg77.1 hg77.2 ia77 ce77 rfl rfl rfl rfl
 rw [hw90]
 obtain ⟨os93, ho93, hn93, hc93⟩ := A90
 refine cl' rfl func30 rfl (slices_Delete_impl_Entry_impl_Entry.calls ((at_ r59.Nodes r47.1).Entries) r47.2.1 (IntKind.wrap .i64 (r47.2.1 + (1 : Int))) s90.w (mm [] s90) v77_0 os93 ho93 hn93 (apart_of hc93 rfl)) ?_
 rintro r93 v93_0 w93 m93 ⟨f93_0, ky93⟩
 obtain ⟨s94, rfl, p94, n94⟩ := nwm 52 hc93 ky93 rfl
 have A93_0 := f93_0.m n94
 refine Xr (L' := [2, 1, 0]) (D' := [3, 4, 5, 6, 7, 10, 8, 9, 11, 12]) zd87 rfl rfl rfl (fun zd96 => ?_)
 refine Xx [13, 14, 15] tb67 zd96 (Xa (Xc rfl) rfl (Xa (Xm (B65.st (tr3 p67 p90 p94) rfl) u31 rfl) rfl (Xa (Xl fa33_0 rfl) rfl Xh))) (by kernel_rfl) (by decide) ?_
 have A99 := H90.st p94 rfl
 refine ixh A99 u31 z57 rfl rfl rfl rfl rfl rfl rfl (fun ad98 h0_98 h1_98 ia98 => ?_)
 refine Xn fa57_1 rfl (soh (x' := r93) A99 ia98 A93_0 rfl rfl z52 rfl rfl rfl rfl rfl (oc A93_0.rd.one) (fun s100 p100 A100 => ?_))
 refine dn (sr ?_)
 refine lda' (es := [v59_0, (iI r59.Root)]) (B65.st (tr4 p67 p90 p94 p100) rfl) u33 z33 rfl (sva' (vs := [v59_0, (iI r59.Root)]) (By21_b7.st (tr8 p48 p60 p62 p65 p67 p90 p94 p100) rfl) z33 rfl (Xg A100.rd.one (Xg rfl Xu)) rfl (fun s104 p104 B104 => ?_))
 refine Xb rfl (dn ?_)
 have A106 : OwF kd33 s104 [v59_0, (iI r59.Root)] (Tree.mk (r59.Nodes.set (r47.1).toNat (Node.mk (at_ r59.Nodes r47.1).Leaf r93 (at_ r59.Nodes r47.1).Kids)) r59.Root) 49 := (ow_isoz (fun x : Tree => (x.Nodes, x.Root)) (Tree.mk (r59.Nodes.set (r47.1).toNat (Node.mk (at_ r59.Nodes r47.1).Leaf r93 (at_ r59.Nodes r47.1).Kids)) r59.Root) (ow_r (A100.st p104 rfl) (fz_int .i64 r59.Root)))
 have K109 := K57.st (tr8 p60 p62 p65 p67 p90 p94 p100 p104) rfl
 exact re rfl func9 rfl (r_b B104 u33 rfl z33 rfl (Xq rfl Xf)) rfl ⟨_, rfl, v59_0, rfl, A106.fo K109 rfl z.l, z.ky K109⟩
def laws_sameFloat.f (a0 : Nat) (a1 : Nat) : Option (Bool) :=
 (if ((fcmp .f64 a0 a0 != some .eq) || (fcmp .f64 a1 a1 != some .eq)) = true then (some ((fcmp .f64 a0 a0 != some .eq) && (fcmp .f64 a1 a1 != some .eq))) else (if ((fcmp .f64 a0 (0 : Nat) == some .eq) && (fcmp .f64 a1 (0 : Nat) == some .eq)) = true then (some ((fcmp .f64 (far .quo (4607182418800017408 : Nat) a0) (0 : Nat) == some .gt) == (fcmp .f64 (far .quo (4607182418800017408 : Nat) a1) (0 : Nat) == some .gt))) else (some (fcmp .f64 a0 a1 == some .eq))))
def laws_sameFloat.Q (w : World) (F : Nat → Prop) (r : Bool) (v : Value) (w' : World) : Prop :=
 v = (.bool r) ∧ Ky [] w w'
theorem laws_sameFloat.calls (a0 : Nat) (a1 : Nat) (w : World) (F : Nat → Prop) (w0_0 : Value) (w1_0 : Value) (h0_0 : Kd.flt.rd w [w0_0] a0 F) (h1_0 : Kd.flt.rd w [w1_0] a1 F) (r : Bool) (m : laws_sameFloat.f a0 a1 = some r) :
  Calls prog 32 #[w0_0, w1_0] w (RT (laws_sameFloat.Q w F) r) := by
 obtain ⟨s0, rfl, kp0, z⟩ := Xj w F
 have A0_0 := fl_of h0_0
 have A1_0 := fl_of h1_0
 refine Xd (args := [w0_0, w1_0]) func32 ntmps32 rfl rfl m ?_
 unfold laws_sameFloat.f
 refine sr (Xb rfl (dn (sq (sr (Xv w0_0 rfl (Xv w0_0 rfl (fq_' A0_0 A0_0 rfl (Xb rfl (jy [8, 9, 10, 11, 12] [] 12 (.bool ((fcmp .f64 a0 a0 != some .eq) || (fcmp .f64 a1 a1 != some .eq))) rfl (fun Kg1 => ?_) (fun j1 => ?_))))))))))
 ·
  rcases bft (fcmp .f64 a0 a0 != some .eq) with hb1 | hb1
  ·
   exact sbT hb1 (Xk rfl (Xk rfl (Xk rfl (Xb rfl (Kg1 _ (Ag.put ((Ag.put ((Ag.put ((Ag.put (Ag.base rfl) rfl)) rfl)) rfl)) rfl) (by rw [hb1]; rfl))))))
  exact sbT hb1 (Xv w1_0 rfl (Xv w1_0 rfl (fq_' A1_0 A1_0 rfl (Xb rfl (Kg1 _ (Ag.put ((Ag.put ((Ag.put ((Ag.put (Ag.base rfl) rfl)) rfl)) rfl)) rfl) (by rw [hb1]; rfl))))))
 refine dn (cd rfl (fun h2 => ?_) (fun h2 => ?_))
 ·
  refine sr (Xv w0_0 rfl (Xv w0_0 rfl (fq_' A0_0 A0_0 rfl (Xb rfl (jy [16, 17, 18, 19, 20] [8] 20 (.bool ((fcmp .f64 a0 a0 != some .eq) && (fcmp .f64 a1 a1 != some .eq))) rfl (fun Kg3 => ?_) (fun j3 => ?_))))))
  ·
   rcases bft (fcmp .f64 a0 a0 != some .eq) with hb3 | hb3
   ·
    exact sbT hb3 (Xv w1_0 rfl (Xv w1_0 rfl (fq_' A1_0 A1_0 rfl (Xb rfl (Kg3 _ (Ag.put ((Ag.put ((Ag.put ((Ag.put (Ag.base rfl) rfl)) rfl)) rfl)) rfl) (by rw [hb3]; rfl))))))
   exact sbT hb3 (Xk rfl (Xk rfl (Xk rfl (Xb rfl (Kg3 _ (Ag.put ((Ag.put ((Ag.put ((Ag.put (Ag.base rfl) rfl)) rfl)) rfl)) rfl) (by rw [hb3]; rfl))))))
  exact Xb rfl (dn (re rfl func32 rfl (Xq rfl Xf) rfl ⟨_, rfl, rfl, z.ky kp0⟩))
 refine sk (sq (sr (Xv w0_0 rfl (fq_' A0_0 (fl_c rfl) rfl (Xb rfl (jy [23, 24, 25, 26] [] 26 (.bool ((fcmp .f64 a0 (0 : Nat) == some .eq) && (fcmp .f64 a1 (0 : Nat) == some .eq))) rfl (fun Kg4 => ?_) (fun j4 => ?_)))))))
 ·
  rcases bft (fcmp .f64 a0 (0 : Nat) == some .eq) with hb4 | hb4
  ·
   exact sbT hb4 (Xv w1_0 rfl (fq_' A1_0 (fl_c rfl) rfl (Xb rfl (Kg4 _ (Ag.put ((Ag.put ((Ag.put (Ag.base rfl) rfl)) rfl)) rfl) (by rw [hb4]; rfl)))))
  exact sbT hb4 (Xk rfl (Xk rfl (Xb rfl (Kg4 _ (Ag.put ((Ag.put ((Ag.put (Ag.base rfl) rfl)) rfl)) rfl) (by rw [hb4]; rfl)))))
 refine dn (cd rfl (fun h5 => ?_) (fun h5 => ?_))
 ·
  refine sr (Xv w0_0 rfl (fa_ (fl_c rfl) A0_0 (by simp) rfl rfl rfl rfl rfl rfl rfl (fun v6 s6 p6 A6 => ?_)))
  refine fq_' A6 (fl_c rfl) rfl (Xv w1_0 rfl (fa_ (fl_c rfl) A1_0 (by simp) rfl rfl rfl rfl rfl rfl rfl (fun v7 s7 p7 A7 => ?_)))
  refine fq_' A7 (fl_c rfl) rfl (beq_ u4 rfl rfl rfl rfl rfl rfl rfl (Xb rfl (dn ?_)))
  exact re rfl func32 rfl (Xq rfl Xf) rfl ⟨_, rfl, rfl, z.ky (kp0.st (Xo p6 p7) rfl)⟩
 exact sk (sr (Xv w0_0 rfl (Xv w1_0 rfl (fq_' A0_0 A1_0 rfl (Xb rfl (dn (re rfl func32 rfl (Xq rfl Xf) rfl ⟨_, rfl, rfl, z.ky kp0⟩)))))))
def laws_eqByteS.b0 (a0 : (List Int)) (a1 : (List Int)) (x4 : Int) : Option (Int ⊕ Bool) :=
 (if (decide (x4 < (a0.length : Int))) = true then (if 0 ≤ x4 ∧ x4 < (a0.length : Int) then (if 0 ≤ x4 ∧ x4 < (a1.length : Int) then (if ((at_ a0 x4) != (at_ a1 x4)) = true then (some (Sum.inr false)) else (some (Sum.inl (IntKind.wrap .i64 (x4 + (1 : Int)))))) else none) else none) else ((some true).bind fun o => some (Sum.inr o)))
def laws_eqByteS.f (a0 : (List Int)) (a1 : (List Int)) : Option (Bool) :=
 (if ((a0.length : Int) != (a1.length : Int)) = true then (some false) else (iter (laws_eqByteS.b0 a0 a1) (0 : Int)))
def laws_eqByteS.Q (w : World) (F : Nat → Prop) (r : Bool) (v : Value) (w' : World) : Prop :=
 v = (.bool r) ∧ Ky [] w w'
theorem laws_eqByteS.calls (a0 : (List Int)) (a1 : (List Int)) (w : World) (F : Nat → Prop) (w0_0 : Value) (w1_0 : Value) (h0_0 : Xy.rd w [w0_0] a0 F) (h1_0 : Xy.rd w [w1_0] a1 F) (r : Bool) (m : laws_eqByteS.f a0 a1 = some r) :
  Calls prog 33 #[w0_0, w1_0] w (RT (laws_eqByteS.Q w F) r) := by
 obtain ⟨s0, rfl, kp0, z⟩ := Xj w F
 have A0_0 := z.rd h0_0
 have A1_0 := z.rd h1_0
 refine Xd (args := [w0_0, w1_0]) func33 ntmps33 rfl rfl m ?_
 unfold laws_eqByteS.f
 refine sr (Xb rfl (dn (sq (sr (Xv w0_0 rfl (ln' A0_0 u26 rfl (Xv w1_0 rfl (ln' A1_0 u26 rfl (Xb rfl (dn (cd rfl (fun h3 => ?_) (fun h3 => ?_))))))))))))
 ·
  exact sr (Xb rfl (dn (re rfl func33 rfl (Xq rfl Xf) rfl ⟨_, rfl, rfl, z.ky kp0⟩)))
 refine sk (sq (sr (Xb rfl (dn (bl (lpI (fun (x4 : Int) e w => ∃ (s : St) (e0 : Env), w = s.w ∧ e = upd (upd (upd e0 0 w0_0) 1 w1_0) 5 (iI x4) ∧ Kp s0 s) ⟨s0, _, rfl, (ue (ue (ue rfl rfl) rfl) rfl), kp0⟩ (fun g4 ih4 => ?_)))))))
 rintro x4 _ _ ⟨s5, _, rfl, rfl, Kx4⟩
 unfold laws_eqByteS.b0
 refine sq (sr (Xb rfl (Xv w0_0 rfl ?_)))
 refine ln' (A0_0.kp Kx4) u26 rfl (Xb rfl (dn (cd rfl (fun h7 => ?_) (fun h7 => ?_))))
 ·
  refine sk (sq (bl (sq (zdraw [[], [], [0, 1], [2], [], [], [4, 5], [6], [3, 7]] [some 17, some 18, some 19, some 20, some 21, some 22, some 23, some 24, some 25] [[0], [5], [17, 18], [19], [1], [5], [21, 22], [23], [20, 24]] [0, 1, 2, 3, 4, 5, 6, 7, 8] ⟨by kernel_rfl, by kernel_rfl, by kernel_rfl⟩ (by kernel_rfl) (fun s8 p8 l8 tb8 zd8 => ?_)))))
  have K11 := Kx4.st p8 rfl
  have A12 := A0_0.kp K11
  refine mg fun hg13 => ?_
  obtain ⟨ad13, es13, he13, ce13, ia13⟩ := ix_e A12 rfl hg13.1 hg13.2
  obtain rfl := he13
  have A19 := A1_0.kp K11
  refine mg fun hg20 => ?_
  obtain ⟨ad20, es20, he20, ce20, ia20⟩ := ix_e A19 rfl hg20.1 hg20.2
  obtain rfl := he20
  refine Xx [8] tb8 ((((((((zd8.add 0 17 w0_0 rfl).add 1 18 (iI x4) rfl).add 2 19 (.pointer (some ad13)) rfl).add 3 20 (.int .u8 (at_ a0 x4)) rfl).add 4 21 w1_0 rfl).add 5 22 (iI x4) rfl).add 6 23 (.pointer (some ad20)) rfl).add 7 24 (.int .u8 (at_ a1 x4)) rfl) (Xa (lc0_q ce20 u5 rfl rfl rfl rfl rfl rfl rfl rfl) rfl (Xa (ix_q' A19 u26 z5 hg20.1 hg20.2 ia20 rfl) rfl (Xa (Xc rfl) rfl (Xa (Xp w1_0 rfl) rfl (Xa (lc0_q ce13 u5 rfl rfl rfl rfl rfl rfl rfl rfl) rfl (Xa (ix_q' A12 u26 z5 hg13.1 hg13.2 ia13 rfl) rfl (Xa (Xc rfl) rfl (Xa (Xp w0_0 rfl) rfl Xh)))))))) (by kernel_rfl) (by decide) (Xb rfl (dn (cd rfl (fun h24 => ?_) (fun h24 => ?_))))
  ·
   exact sr (Xb rfl (dn (sgi (re rfl func33 rfl (Xq rfl Xf) rfl ⟨_, rfl, rfl, z.ky K11⟩))))
  exact sk (ib (rg (Xb rfl (Xb rfl (Xb rfl (dn (lb ih4 ⟨s8, _, rfl, (ue (ue (ue rfl rfl) rfl) rfl), K11⟩)))))))
 exact xt rfl (sgb (sr (Xb rfl (dn (re rfl func33 rfl (Xq rfl Xf) rfl ⟨_, rfl, rfl, z.ky Kx4⟩)))))
def laws_eqItem.f (a0 : Item) (a1 : Item) : Option (Bool) :=
 (if (a0.Kind != a1.Kind) = true then (some false) else (if (a0.N != a1.N) = true then (some false) else ((laws_sameFloat.f a0.F a1.F).bind fun r12 => (if (!r12) = true then (some false) else ((laws_eqByteS.f a0.T a1.T).bind fun r21 => (if (!r21) = true then (some false) else (some true)))))))
def laws_eqItem.Q (w : World) (F : Nat → Prop) (r : Bool) (v : Value) (w' : World) : Prop :=
 v = (.bool r) ∧ Ky [] w w'
theorem laws_eqItem.calls (a0 : Item) (a1 : Item) (w : World) (F : Nat → Prop) (w0_0 : Value) (w0_1 : Value) (w1_0 : Value) (w1_1 : Value) (h0_0 : Kd.flt.rd w [w0_0] a0.F F) (h0_1 : Xy.rd w [w0_1] a0.T F) (h1_0 : Kd.flt.rd w [w1_0] a1.F F) (h1_1 : Xy.rd w [w1_1] a1.T F) (r : Bool) (m : laws_eqItem.f a0 a1 = some r) :
  Calls prog 11 #[(.agg #[(iI a0.Kind), (iI a0.N), w0_0, w0_1]), (.agg #[(iI a1.Kind), (iI a1.N), w1_0, w1_1])] w (RT (laws_eqItem.Q w F) r) := by
 obtain ⟨s0, rfl, kp0, z⟩ := Xj w F
 refine Xd (args := [(.agg #[(iI a0.Kind), (iI a0.N), w0_0, w0_1]), (.agg #[(iI a1.Kind), (iI a1.N), w1_0, w1_1])]) func11 ntmps11 rfl rfl m ?_
 unfold laws_eqItem.f
 refine sr (bx' (cs := [(iI a0.Kind), (iI a0.N), w0_0, w0_1]) 40 rfl rfl (fun b3 s3 p3 B3 => ?_))
 refine bx' (cs := [(iI a1.Kind), (iI a1.N), w1_0, w1_1]) 41 rfl rfl (fun b5 s5 p5 B5 => ?_)
 refine Xb rfl (dn (sq (sr (Xn fa37_0 rfl ?_))))
 have A7 := B3.st p5 rfl
 refine Xw A7 u3 rfl (Xn fa37_0 rfl (Xw B5 u3 rfl (Xb rfl (dn (cd rfl (fun h8 => ?_) (fun h8 => ?_))))))
 ·
  refine sr (Xb rfl (dn ?_))
  exact re rfl func11 rfl (Xq rfl Xf) rfl ⟨_, rfl, rfl, z.ky (kp0.st (Xo p3 p5) rfl)⟩
 refine sk (sq (sr (Xn fa37_1 rfl (Xw A7 u3 rfl (Xn fa37_1 rfl (Xw B5 u3 rfl (Xb rfl (dn (cd rfl (fun h10 => ?_) (fun h10 => ?_))))))))))
 ·
  refine sr (Xb rfl (dn ?_))
  exact re rfl func11 rfl (Xq rfl Xf) rfl ⟨_, rfl, rfl, z.ky (kp0.st (Xo p3 p5) rfl)⟩
 refine sk (sq (sr (Xn fa37_2 rfl (Xw A7 u25 rfl (Xn fa37_2 rfl (Xw B5 u25 rfl (clV 42 rfl func32 rfl (laws_sameFloat.calls a0.F a1.F s5.w (mm [] s5) w0_0 w1_0 (Xi (s := s5) (fl_of h0_0)) (Xi (s := s5) (fl_of h1_0))) (fun r12 s13 p13 n13 => ?_))))))))
 refine Xb rfl (dn (cd rfl (fun h14 => ?_) (fun h14 => ?_)))
 ·
  refine sr (Xb rfl (dn ?_))
  exact re rfl func11 rfl (Xq rfl Xf) rfl ⟨_, rfl, rfl, z.ky (kp0.st (tr3 p3 p5 p13) rfl)⟩
 refine sk (sq (sr (Xn fa37_3 rfl ?_)))
 refine Xw (A7.st p13 rfl) u26 rfl (Xn fa37_3 rfl ?_)
 refine Xw (B5.st p13 rfl) u26 rfl ?_
 have K18 := kp0.st (tr3 p3 p5 p13) rfl
 refine clV 43 rfl func33 rfl (laws_eqByteS.calls a0.T a1.T s13.w (mm [0] s13) w0_1 w1_1 ((z.rd h0_1).kp K18) ((z.rd h1_1).kp K18)) (fun r21 s22 p22 n22 => ?_)
 refine Xb rfl (dn (cd rfl (fun h23 => ?_) (fun h23 => ?_)))
 ·
  refine sr (Xb rfl (dn ?_))
  exact re rfl func11 rfl (Xq rfl Xf) rfl ⟨_, rfl, rfl, z.ky (K18.st p22 rfl)⟩
 refine sk (sr (Xb rfl (dn ?_)))
 exact re rfl func11 rfl (Xq rfl Xf) rfl ⟨_, rfl, rfl, z.ky (K18.st p22 rfl)⟩
def laws_eqEntry.f (a0 : Entry) (a1 : Entry) : Option (Bool) :=
 ((laws_eqItem.f a0.Key a1.Key).bind fun r11 => (if (!r11) = true then (some false) else (if (a0.Id != a1.Id) = true then (some false) else (some true))))
def laws_eqEntry.Q (w : World) (F : Nat → Prop) (r : Bool) (v : Value) (w' : World) : Prop :=
 v = (.bool r) ∧ Ky [] w w'
theorem laws_eqEntry.calls (a0 : Entry) (a1 : Entry) (w : World) (F : Nat → Prop) (w0_0 : Value) (w0_1 : Value) (w1_0 : Value) (w1_1 : Value) (h0_0 : Kd.flt.rd w [w0_0] a0.Key.F F) (h0_1 : Xy.rd w [w0_1] a0.Key.T F) (h1_0 : Kd.flt.rd w [w1_0] a1.Key.F F) (h1_1 : Xy.rd w [w1_1] a1.Key.T F) (r : Bool) (m : laws_eqEntry.f a0 a1 = some r) :
  Calls prog 83 #[(.agg #[(iI a0.Key.Kind), (iI a0.Key.N), w0_0, w0_1, (iI a0.Id)]), (.agg #[(iI a1.Key.Kind), (iI a1.Key.N), w1_0, w1_1, (iI a1.Id)])] w (RT (laws_eqEntry.Q w F) r) := by
 obtain ⟨s0, rfl, kp0, z⟩ := Xj w F
 refine Xd (args := [(.agg #[(iI a0.Key.Kind), (iI a0.Key.N), w0_0, w0_1, (iI a0.Id)]), (.agg #[(iI a1.Key.Kind), (iI a1.Key.N), w1_0, w1_1, (iI a1.Id)])]) func83 ntmps83 rfl rfl m ?_
 unfold laws_eqEntry.f
 refine sr (bx' (cs := [(iI a0.Key.Kind), (iI a0.Key.N), w0_0, w0_1, (iI a0.Id)]) 40 rfl rfl (fun b3 s3 p3 B3 => ?_))
 refine bx' (cs := [(iI a1.Key.Kind), (iI a1.Key.N), w1_0, w1_1, (iI a1.Id)]) 41 rfl rfl (fun b5 s5 p5 B5 => ?_)
 refine Xb rfl (dn (sq (sr (Xn fa48_0 rfl ?_))))
 have A7 := B3.st p5 rfl
 refine lda' (es := [(iI a0.Key.Kind), (iI a0.Key.N), w0_0, w0_1]) A7 u37 z37 rfl (Xn fa48_0 rfl (lda' (es := [(iI a1.Key.Kind), (iI a1.Key.N), w1_0, w1_1]) B5 u37 z37 rfl ?_))
 have K8 := kp0.st (Xo p3 p5) rfl
 refine clV 42 rfl func11 rfl (laws_eqItem.calls a0.Key a1.Key s5.w (mm [0] s5) w0_0 w0_1 w1_0 w1_1 ((Xi (s := s5) (fl_of h0_0)).sub (D := [0]) rfl) ((z.rd h0_1).kp K8) ((Xi (s := s5) (fl_of h1_0)).sub (D := [0]) rfl) ((z.rd h1_1).kp K8)) (fun r11 s12 p12 n12 => ?_)
 refine Xb rfl (dn (cd rfl (fun h13 => ?_) (fun h13 => ?_)))
 ·
  refine sr (Xb rfl (dn ?_))
  exact re rfl func83 rfl (Xq rfl Xf) rfl ⟨_, rfl, rfl, z.ky (K8.st p12 rfl)⟩
 refine sk (sq (sr (Xn fa48_1 rfl ?_)))
 refine Xw (A7.st p12 rfl) u3 rfl (Xn fa48_1 rfl ?_)
 refine Xw (B5.st p12 rfl) u3 rfl (Xb rfl (dn (cd rfl (fun h17 => ?_) (fun h17 => ?_))))
 ·
  refine sr (Xb rfl (dn ?_))
  exact re rfl func83 rfl (Xq rfl Xf) rfl ⟨_, rfl, rfl, z.ky (K8.st p12 rfl)⟩
 refine sk (sr (Xb rfl (dn ?_)))
 exact re rfl func83 rfl (Xq rfl Xf) rfl ⟨_, rfl, rfl, z.ky (K8.st p12 rfl)⟩
def laws_eqEntryS.b0 (a0 : (List Entry)) (a1 : (List Entry)) (x4 : Int) : Option (Int ⊕ Bool) :=
 (if (decide (x4 < (a0.length : Int))) = true then (if 0 ≤ x4 ∧ x4 < (a0.length : Int) then (if 0 ≤ x4 ∧ x4 < (a1.length : Int) then ((laws_eqEntry.f (Entry.mk ((at_ a0 x4).Key) ((at_ a0 x4).Id)) (Entry.mk ((at_ a1 x4).Key) ((at_ a1 x4).Id))).bind fun r26 => (if (!r26) = true then (some (Sum.inr false)) else (some (Sum.inl (IntKind.wrap .i64 (x4 + (1 : Int))))))) else none) else none) else ((some true).bind fun o => some (Sum.inr o)))
def laws_eqEntryS.f (a0 : (List Entry)) (a1 : (List Entry)) : Option (Bool) :=
 (if ((a0.length : Int) != (a1.length : Int)) = true then (some false) else (iter (laws_eqEntryS.b0 a0 a1) (0 : Int)))
def laws_eqEntryS.Q (w : World) (F : Nat → Prop) (r : Bool) (v : Value) (w' : World) : Prop :=
 v = (.bool r) ∧ Ky [] w w'
theorem laws_eqEntryS.calls (a0 : (List Entry)) (a1 : (List Entry)) (w : World) (F : Nat → Prop) (w0_0 : Value) (w1_0 : Value) (h0_0 : Xz.rd w [w0_0] a0 F) (h1_0 : Xz.rd w [w1_0] a1 F) (r : Bool) (m : laws_eqEntryS.f a0 a1 = some r) :
  Calls prog 72 #[w0_0, w1_0] w (RT (laws_eqEntryS.Q w F) r) := by
 obtain ⟨s0, rfl, kp0, z⟩ := Xj w F
 have A0_0 := z.rd h0_0
 have A1_0 := z.rd h1_0
 refine Xd (args := [w0_0, w1_0]) func72 ntmps72 rfl rfl m ?_
 unfold laws_eqEntryS.f
 refine sr (Xb rfl (dn (sq (sr (Xv w0_0 rfl (ln' A0_0 u52 rfl (Xv w1_0 rfl (ln' A1_0 u52 rfl (Xb rfl (dn (cd rfl (fun h3 => ?_) (fun h3 => ?_))))))))))))
 ·
  exact sr (Xb rfl (dn (re rfl func72 rfl (Xq rfl Xf) rfl ⟨_, rfl, rfl, z.ky kp0⟩)))
 refine sk (sq (sr (Xb rfl (dn (bl (lpI (fun (x4 : Int) e w => ∃ (s : St) (e0 : Env), w = s.w ∧ e = upd (upd (upd e0 0 w0_0) 1 w1_0) 5 (iI x4) ∧ Kp s0 s) ⟨s0, _, rfl, (ue (ue (ue rfl rfl) rfl) rfl), kp0⟩ (fun g4 ih4 => ?_)))))))
 rintro x4 _ _ ⟨s5, _, rfl, rfl, Kx4⟩
 unfold laws_eqEntryS.b0
 refine sq (sr (Xb rfl (Xv w0_0 rfl ?_)))
 refine ln' (A0_0.kp Kx4) u52 rfl (Xb rfl (dn (cd rfl (fun h7 => ?_) (fun h7 => ?_))))
 ·
  refine sk (sq (bl (sq (zdraw [[], [], [0, 1], [2], [], [], [4, 5], [6], [3, 7], [8]] [some 17, some 18, some 19, some 20, some 21, some 22, some 23, some 24, some 25, some 26] [[0], [5], [17, 18], [19], [1], [5], [21, 22], [23], [20, 24], [25]] [0, 1, 2, 3, 4, 5, 6, 7, 8, 9] ⟨by kernel_rfl, by kernel_rfl, by kernel_rfl⟩ (by kernel_rfl) (fun s8 p8 l8 tb8 zd8 => ?_)))))
  have K11 := Kx4.st p8 rfl
  have A12 := A0_0.kp K11
  refine mg fun hg13 => ?_
  obtain ⟨ad13, es13, he13, ce13, ia13⟩ := ix_e A12 rfl hg13.1 hg13.2
  obtain ⟨v13_0, v13_1, rfl, A13_0, A13_1⟩ := op48 he13
  have A20 := A1_0.kp K11
  refine mg fun hg21 => ?_
  obtain ⟨ad21, es21, he21, ce21, ia21⟩ := ix_e A20 rfl hg21.1 hg21.2
  obtain ⟨v21_0, v21_1, rfl, A21_0, A21_1⟩ := op48 he21
  refine Xx [8, 9] tb8 ((((((((zd8.add 0 17 w0_0 rfl).add 1 18 (iI x4) rfl).add 2 19 (.pointer (some ad13)) rfl).add 3 20 (.agg #[(iI (((at_ a0 x4).Key).Kind)), (iI (((at_ a0 x4).Key).N)), v13_0, v13_1, (iI ((at_ a0 x4).Id))]) rfl).add 4 21 w1_0 rfl).add 5 22 (iI x4) rfl).add 6 23 (.pointer (some ad21)) rfl).add 7 24 (.agg #[(iI (((at_ a1 x4).Key).Kind)), (iI (((at_ a1 x4).Key).N)), v21_0, v21_1, (iI ((at_ a1 x4).Id))]) rfl) (Xa (lca_q' ce21 u48 z48 rfl) rfl (Xa (ix_q' A20 u52 z48 hg21.1 hg21.2 ia21 rfl) rfl (Xa (Xc rfl) rfl (Xa (Xp w1_0 rfl) rfl (Xa (lca_q' ce13 u48 z48 rfl) rfl (Xa (ix_q' A12 u52 z48 hg13.1 hg13.2 ia13 rfl) rfl (Xa (Xc rfl) rfl (Xa (Xp w0_0 rfl) rfl Xh)))))))) (by kernel_rfl) (by decide) (clV 40 rfl func83 rfl (laws_eqEntry.calls (Entry.mk ((at_ a0 x4).Key) ((at_ a0 x4).Id)) (Entry.mk ((at_ a1 x4).Key) ((at_ a1 x4).Id)) s8.w (mm [0] s8) v13_0 v13_1 v21_0 v21_1 ((Xi (s := s8) A13_0).sub (D := [0]) rfl) A13_1 ((Xi (s := s8) A21_0).sub (D := [0]) rfl) A21_1) (fun r26 s27 p27 n27 => ?_))
  refine Xb rfl (dn (cd rfl (fun h28 => ?_) (fun h28 => ?_)))
  ·
   refine sr (Xb rfl (dn (sgi ?_)))
   exact re rfl func72 rfl (Xq rfl Xf) rfl ⟨_, rfl, rfl, z.ky (K11.st p27 rfl)⟩
  refine sk (ib (rg (Xb rfl (Xb rfl (Xb rfl (dn ?_))))))
  exact lb ih4 ⟨s27, _, rfl, (ue (ue (ue rfl rfl) rfl) rfl), (K11.st p27 rfl)⟩
 exact xt rfl (sgb (sr (Xb rfl (dn (re rfl func72 rfl (Xq rfl Xf) rfl ⟨_, rfl, rfl, z.ky Kx4⟩)))))
def laws_eqIntS.b0 (a0 : (List Int)) (a1 : (List Int)) (x4 : Int) : Option (Int ⊕ Bool) :=
 (if (decide (x4 < (a0.length : Int))) = true then (if 0 ≤ x4 ∧ x4 < (a0.length : Int) then (if 0 ≤ x4 ∧ x4 < (a1.length : Int) then (if ((at_ a0 x4) != (at_ a1 x4)) = true then (some (Sum.inr false)) else (some (Sum.inl (IntKind.wrap .i64 (x4 + (1 : Int)))))) else none) else none) else ((some true).bind fun o => some (Sum.inr o)))
def laws_eqIntS.f (a0 : (List Int)) (a1 : (List Int)) : Option (Bool) :=
 (if ((a0.length : Int) != (a1.length : Int)) = true then (some false) else (iter (laws_eqIntS.b0 a0 a1) (0 : Int)))
def laws_eqIntS.Q (w : World) (F : Nat → Prop) (r : Bool) (v : Value) (w' : World) : Prop :=
 v = (.bool r) ∧ Ky [] w w'
theorem laws_eqIntS.calls (a0 : (List Int)) (a1 : (List Int)) (w : World) (F : Nat → Prop) (w0_0 : Value) (w1_0 : Value) (h0_0 : Ya.rd w [w0_0] a0 F) (h1_0 : Ya.rd w [w1_0] a1 F) (r : Bool) (m : laws_eqIntS.f a0 a1 = some r) :
  Calls prog 73 #[w0_0, w1_0] w (RT (laws_eqIntS.Q w F) r) := by
 obtain ⟨s0, rfl, kp0, z⟩ := Xj w F
 have A0_0 := z.rd h0_0
 have A1_0 := z.rd h1_0
 refine Xd (args := [w0_0, w1_0]) func73 ntmps73 rfl rfl m ?_
 unfold laws_eqIntS.f
 refine sr (Xb rfl (dn (sq (sr (Xv w0_0 rfl (ln' A0_0 u55 rfl (Xv w1_0 rfl (ln' A1_0 u55 rfl (Xb rfl (dn (cd rfl (fun h3 => ?_) (fun h3 => ?_))))))))))))
 ·
  exact sr (Xb rfl (dn (re rfl func73 rfl (Xq rfl Xf) rfl ⟨_, rfl, rfl, z.ky kp0⟩)))
 refine sk (sq (sr (Xb rfl (dn (bl (lpI (fun (x4 : Int) e w => ∃ (s : St) (e0 : Env), w = s.w ∧ e = upd (upd (upd e0 0 w0_0) 1 w1_0) 5 (iI x4) ∧ Kp s0 s) ⟨s0, _, rfl, (ue (ue (ue rfl rfl) rfl) rfl), kp0⟩ (fun g4 ih4 => ?_)))))))
 rintro x4 _ _ ⟨s5, _, rfl, rfl, Kx4⟩
 unfold laws_eqIntS.b0
 refine sq (sr (Xb rfl (Xv w0_0 rfl ?_)))
 refine ln' (A0_0.kp Kx4) u55 rfl (Xb rfl (dn (cd rfl (fun h7 => ?_) (fun h7 => ?_))))
 ·
  refine sk (sq (bl (sq (zdraw [[], [], [0, 1], [2], [], [], [4, 5], [6], [3, 7]] [some 17, some 18, some 19, some 20, some 21, some 22, some 23, some 24, some 25] [[0], [5], [17, 18], [19], [1], [5], [21, 22], [23], [20, 24]] [0, 1, 2, 3, 4, 5, 6, 7, 8] ⟨by kernel_rfl, by kernel_rfl, by kernel_rfl⟩ (by kernel_rfl) (fun s8 p8 l8 tb8 zd8 => ?_)))))
  have K11 := Kx4.st p8 rfl
  have A12 := A0_0.kp K11
  refine mg fun hg13 => ?_
  obtain ⟨ad13, es13, he13, ce13, ia13⟩ := ix_e A12 rfl hg13.1 hg13.2
  obtain rfl := he13
  have A19 := A1_0.kp K11
  refine mg fun hg20 => ?_
  obtain ⟨ad20, es20, he20, ce20, ia20⟩ := ix_e A19 rfl hg20.1 hg20.2
  obtain rfl := he20
  refine Xx [8] tb8 ((((((((zd8.add 0 17 w0_0 rfl).add 1 18 (iI x4) rfl).add 2 19 (.pointer (some ad13)) rfl).add 3 20 (iI (at_ a0 x4)) rfl).add 4 21 w1_0 rfl).add 5 22 (iI x4) rfl).add 6 23 (.pointer (some ad20)) rfl).add 7 24 (iI (at_ a1 x4)) rfl) (Xa (lc0_q ce20 u3 rfl rfl rfl rfl rfl rfl rfl rfl) rfl (Xa (ix_q' A19 u55 z3 hg20.1 hg20.2 ia20 rfl) rfl (Xa (Xc rfl) rfl (Xa (Xp w1_0 rfl) rfl (Xa (lc0_q ce13 u3 rfl rfl rfl rfl rfl rfl rfl rfl) rfl (Xa (ix_q' A12 u55 z3 hg13.1 hg13.2 ia13 rfl) rfl (Xa (Xc rfl) rfl (Xa (Xp w0_0 rfl) rfl Xh)))))))) (by kernel_rfl) (by decide) (Xb rfl (dn (cd rfl (fun h24 => ?_) (fun h24 => ?_))))
  ·
   exact sr (Xb rfl (dn (sgi (re rfl func73 rfl (Xq rfl Xf) rfl ⟨_, rfl, rfl, z.ky K11⟩))))
  exact sk (ib (rg (Xb rfl (Xb rfl (Xb rfl (dn (lb ih4 ⟨s8, _, rfl, (ue (ue (ue rfl rfl) rfl) rfl), K11⟩)))))))
 exact xt rfl (sgb (sr (Xb rfl (dn (re rfl func73 rfl (Xq rfl Xf) rfl ⟨_, rfl, rfl, z.ky Kx4⟩)))))
def laws_eqNode.f (a0 : Node) (a1 : Node) : Option (Bool) :=
 (if (!(a0.Leaf == a1.Leaf)) = true then (some false) else ((laws_eqEntryS.f a0.Entries a1.Entries).bind fun r15 => (if (!r15) = true then (some false) else ((laws_eqIntS.f a0.Kids a1.Kids).bind fun r24 => (if (!r24) = true then (some false) else (some true))))))
def laws_eqNode.Q (w : World) (F : Nat → Prop) (r : Bool) (v : Value) (w' : World) : Prop :=
 v = (.bool r) ∧ Ky [] w w'
theorem laws_eqNode.calls (a0 : Node) (a1 : Node) (w : World) (F : Nat → Prop) (w0_0 : Value) (w0_1 : Value) (w1_0 : Value) (w1_1 : Value) (h0_0 : Xz.rd w [w0_0] a0.Entries F) (h0_1 : Ya.rd w [w0_1] a0.Kids F) (h1_0 : Xz.rd w [w1_0] a1.Entries F) (h1_1 : Ya.rd w [w1_1] a1.Kids F) (r : Bool) (m : laws_eqNode.f a0 a1 = some r) :
  Calls prog 51 #[(.agg #[(.bool a0.Leaf), w0_0, w0_1]), (.agg #[(.bool a1.Leaf), w1_0, w1_1])] w (RT (laws_eqNode.Q w F) r) := by
 obtain ⟨s0, rfl, kp0, z⟩ := Xj w F
 refine Xd (args := [(.agg #[(.bool a0.Leaf), w0_0, w0_1]), (.agg #[(.bool a1.Leaf), w1_0, w1_1])]) func51 ntmps51 rfl rfl m ?_
 unfold laws_eqNode.f
 refine sr (bx' (cs := [(.bool a0.Leaf), w0_0, w0_1]) 40 rfl rfl (fun b5 s5 p5 B5 => ?_))
 refine bx' (cs := [(.bool a1.Leaf), w1_0, w1_1]) 41 rfl rfl (fun b7 s7 p7 B7 => ?_)
 refine Xb rfl (dn (sq (sr (Xn fa57_0 rfl ?_))))
 have A9 := B5.st p7 rfl
 refine Xw A9 u4 rfl (Xn fa57_0 rfl (Xw B7 u4 rfl (bne_ u4 rfl rfl rfl rfl rfl rfl rfl (dn (cd rfl (fun h10 => ?_) (fun h10 => ?_))))))
 ·
  refine sr (Xb rfl (dn ?_))
  exact re rfl func51 rfl (Xq rfl Xf) rfl ⟨_, rfl, rfl, z.ky (kp0.st (Xo p5 p7) rfl)⟩
 refine sk (sq (sr (Xn fa57_1 rfl (Xw A9 u52 rfl (Xn fa57_1 rfl (Xw B7 u52 rfl ?_))))))
 have K12 := kp0.st (Xo p5 p7) rfl
 refine clV 42 rfl func72 rfl (laws_eqEntryS.calls a0.Entries a1.Entries s7.w (mm [0] s7) w0_0 w1_0 ((z.rd h0_0).kp K12) ((z.rd h1_0).kp K12)) (fun r15 s16 p16 n16 => ?_)
 refine Xb rfl (dn (cd rfl (fun h17 => ?_) (fun h17 => ?_)))
 ·
  refine sr (Xb rfl (dn ?_))
  exact re rfl func51 rfl (Xq rfl Xf) rfl ⟨_, rfl, rfl, z.ky (K12.st p16 rfl)⟩
 refine sk (sq (sr (Xn fa57_2 rfl ?_)))
 refine Xw (A9.st p16 rfl) u55 rfl (Xn fa57_2 rfl ?_)
 refine Xw (B7.st p16 rfl) u55 rfl ?_
 have K21 := K12.st p16 rfl
 refine clV 43 rfl func73 rfl (laws_eqIntS.calls a0.Kids a1.Kids s16.w (mm [0] s16) w0_1 w1_1 ((z.rd h0_1).kp K21) ((z.rd h1_1).kp K21)) (fun r24 s25 p25 n25 => ?_)
 refine Xb rfl (dn (cd rfl (fun h26 => ?_) (fun h26 => ?_)))
 ·
  refine sr (Xb rfl (dn ?_))
  exact re rfl func51 rfl (Xq rfl Xf) rfl ⟨_, rfl, rfl, z.ky (K21.st p25 rfl)⟩
 refine sk (sr (Xb rfl (dn ?_)))
 exact re rfl func51 rfl (Xq rfl Xf) rfl ⟨_, rfl, rfl, z.ky (K21.st p25 rfl)⟩
def laws_eqNodeS.b0 (a0 : (List Node)) (a1 : (List Node)) (x4 : Int) : Option (Int ⊕ Bool) :=
 (if (decide (x4 < (a0.length : Int))) = true then (if 0 ≤ x4 ∧ x4 < (a0.length : Int) then (if 0 ≤ x4 ∧ x4 < (a1.length : Int) then ((laws_eqNode.f (at_ a0 x4) (at_ a1 x4)).bind fun r28 => (if (!r28) = true then (some (Sum.inr false)) else (some (Sum.inl (IntKind.wrap .i64 (x4 + (1 : Int))))))) else none) else none) else ((some true).bind fun o => some (Sum.inr o)))
def laws_eqNodeS.f (a0 : (List Node)) (a1 : (List Node)) : Option (Bool) :=
 (if ((a0.length : Int) != (a1.length : Int)) = true then (some false) else (iter (laws_eqNodeS.b0 a0 a1) (0 : Int)))
def laws_eqNodeS.Q (w : World) (F : Nat → Prop) (r : Bool) (v : Value) (w' : World) : Prop :=
 v = (.bool r) ∧ Ky [] w w'
theorem laws_eqNodeS.calls (a0 : (List Node)) (a1 : (List Node)) (w : World) (F : Nat → Prop) (w0_0 : Value) (w1_0 : Value) (h0_0 : Yb.rd w [w0_0] a0 F) (h1_0 : Yb.rd w [w1_0] a1 F) (r : Bool) (m : laws_eqNodeS.f a0 a1 = some r) :
  Calls prog 31 #[w0_0, w1_0] w (RT (laws_eqNodeS.Q w F) r) := by
 obtain ⟨s0, rfl, kp0, z⟩ := Xj w F
 have A0_0 := z.rd h0_0
 have A1_0 := z.rd h1_0
 refine Xd (args := [w0_0, w1_0]) func31 ntmps31 rfl rfl m ?_
 unfold laws_eqNodeS.f
 refine sr (Xb rfl (dn (sq (sr (Xv w0_0 rfl (ln' A0_0 u31 rfl (Xv w1_0 rfl (ln' A1_0 u31 rfl (Xb rfl (dn (cd rfl (fun h3 => ?_) (fun h3 => ?_))))))))))))
 ·
  exact sr (Xb rfl (dn (re rfl func31 rfl (Xq rfl Xf) rfl ⟨_, rfl, rfl, z.ky kp0⟩)))
 refine sk (sq (sr (Xb rfl (dn (bl (lpI (fun (x4 : Int) e w => ∃ (s : St) (e0 : Env), w = s.w ∧ e = upd (upd (upd e0 0 w0_0) 1 w1_0) 5 (iI x4) ∧ Kp s0 s) ⟨s0, _, rfl, (ue (ue (ue rfl rfl) rfl) rfl), kp0⟩ (fun g4 ih4 => ?_)))))))
 rintro x4 _ _ ⟨s5, _, rfl, rfl, Kx4⟩
 unfold laws_eqNodeS.b0
 refine sq (sr (Xb rfl (Xv w0_0 rfl ?_)))
 refine ln' (A0_0.kp Kx4) u31 rfl (Xb rfl (dn (cd rfl (fun h7 => ?_) (fun h7 => ?_))))
 ·
  refine sk (sq (bl (sq (zdraw [[], [], [0, 1], [2], [], [], [4, 5], [6], [3, 7], [8]] [some 17, some 18, some 19, some 20, some 21, some 22, some 23, some 24, some 25, some 26] [[0], [5], [17, 18], [19], [1], [5], [21, 22], [23], [20, 24], [25]] [0, 1, 2, 3, 4, 5, 6, 7, 8, 9] ⟨by kernel_rfl, by kernel_rfl, by kernel_rfl⟩ (by kernel_rfl) (fun s8 p8 l8 tb8 zd8 => ?_)))))
  have K11 := Kx4.st p8 rfl
  have A12 := A0_0.kp K11
  refine mg fun hg13 => ?_
  obtain ⟨ad13, es13, he13, ce13, ia13⟩ := ix_e A12 rfl hg13.1 hg13.2
  obtain ⟨v13_0, v13_1, rfl, A13_0, A13_1⟩ := op57 he13
  have A21 := A1_0.kp K11
  refine mg fun hg22 => ?_
  obtain ⟨ad22, es22, he22, ce22, ia22⟩ := ix_e A21 rfl hg22.1 hg22.2
  obtain ⟨v22_0, v22_1, rfl, A22_0, A22_1⟩ := op57 he22
  refine Xx [8, 9] tb8 ((((((((zd8.add 0 17 w0_0 rfl).add 1 18 (iI x4) rfl).add 2 19 (.pointer (some ad13)) rfl).add 3 20 (.agg #[(.bool ((at_ a0 x4).Leaf)), v13_0, v13_1]) rfl).add 4 21 w1_0 rfl).add 5 22 (iI x4) rfl).add 6 23 (.pointer (some ad22)) rfl).add 7 24 (.agg #[(.bool ((at_ a1 x4).Leaf)), v22_0, v22_1]) rfl) (Xa (lca_q' ce22 u57 z57 rfl) rfl (Xa (ix_q' A21 u31 z57 hg22.1 hg22.2 ia22 rfl) rfl (Xa (Xc rfl) rfl (Xa (Xp w1_0 rfl) rfl (Xa (lca_q' ce13 u57 z57 rfl) rfl (Xa (ix_q' A12 u31 z57 hg13.1 hg13.2 ia13 rfl) rfl (Xa (Xc rfl) rfl (Xa (Xp w0_0 rfl) rfl Xh)))))))) (by kernel_rfl) (by decide) (clV 40 rfl func51 rfl (laws_eqNode.calls (at_ a0 x4) (at_ a1 x4) s8.w (mm [0] s8) v13_0 v13_1 v22_0 v22_1 A13_0 A13_1 A22_0 A22_1) (fun r28 s29 p29 n29 => ?_))
  refine Xb rfl (dn (cd rfl (fun h30 => ?_) (fun h30 => ?_)))
  ·
   refine sr (Xb rfl (dn (sgi ?_)))
   exact re rfl func31 rfl (Xq rfl Xf) rfl ⟨_, rfl, rfl, z.ky (K11.st p29 rfl)⟩
  refine sk (ib (rg (Xb rfl (Xb rfl (Xb rfl (dn ?_))))))
  exact lb ih4 ⟨s29, _, rfl, (ue (ue (ue rfl rfl) rfl) rfl), (K11.st p29 rfl)⟩
 exact xt rfl (sgb (sr (Xb rfl (dn (re rfl func31 rfl (Xq rfl Xf) rfl ⟨_, rfl, rfl, z.ky Kx4⟩)))))
def laws_eqTree.f (a0 : Tree) (a1 : Tree) : Option (Bool) :=
 ((laws_eqNodeS.f a0.Nodes a1.Nodes).bind fun r11 => (if (!r11) = true then (some false) else (if (a0.Root != a1.Root) = true then (some false) else (some true))))
def laws_eqTree.Q (w : World) (F : Nat → Prop) (r : Bool) (v : Value) (w' : World) : Prop :=
 v = (.bool r) ∧ Ky [] w w'
theorem laws_eqTree.calls (a0 : Tree) (a1 : Tree) (w : World) (F : Nat → Prop) (w0_0 : Value) (w1_0 : Value) (h0_0 : Yb.rd w [w0_0] a0.Nodes F) (h1_0 : Yb.rd w [w1_0] a1.Nodes F) (r : Bool) (m : laws_eqTree.f a0 a1 = some r) :
  Calls prog 10 #[(.agg #[w0_0, (iI a0.Root)]), (.agg #[w1_0, (iI a1.Root)])] w (RT (laws_eqTree.Q w F) r) := by
 obtain ⟨s0, rfl, kp0, z⟩ := Xj w F
 refine Xd (args := [(.agg #[w0_0, (iI a0.Root)]), (.agg #[w1_0, (iI a1.Root)])]) func10 ntmps10 rfl rfl m ?_
 unfold laws_eqTree.f
 refine sr (bx' (cs := [w0_0, (iI a0.Root)]) 40 rfl rfl (fun b3 s3 p3 B3 => ?_))
 refine bx' (cs := [w1_0, (iI a1.Root)]) 41 rfl rfl (fun b5 s5 p5 B5 => ?_)
 refine Xb rfl (dn (sq (sr (Xn fa33_0 rfl ?_))))
 have A7 := B3.st p5 rfl
 refine Xw A7 u31 rfl (Xn fa33_0 rfl (Xw B5 u31 rfl ?_))
 have K8 := kp0.st (Xo p3 p5) rfl
 refine clV 42 rfl func31 rfl (laws_eqNodeS.calls a0.Nodes a1.Nodes s5.w (mm [0] s5) w0_0 w1_0 ((z.rd h0_0).kp K8) ((z.rd h1_0).kp K8)) (fun r11 s12 p12 n12 => ?_)
 refine Xb rfl (dn (cd rfl (fun h13 => ?_) (fun h13 => ?_)))
 ·
  refine sr (Xb rfl (dn ?_))
  exact re rfl func10 rfl (Xq rfl Xf) rfl ⟨_, rfl, rfl, z.ky (K8.st p12 rfl)⟩
 refine sk (sq (sr (Xn fa33_1 rfl ?_)))
 refine Xw (A7.st p12 rfl) u3 rfl (Xn fa33_1 rfl ?_)
 refine Xw (B5.st p12 rfl) u3 rfl (Xb rfl (dn (cd rfl (fun h17 => ?_) (fun h17 => ?_))))
 ·
  refine sr (Xb rfl (dn ?_))
  exact re rfl func10 rfl (Xq rfl Xf) rfl ⟨_, rfl, rfl, z.ky (K8.st p12 rfl)⟩
 refine sk (sr (Xb rfl (dn ?_)))
 exact re rfl func10 rfl (Xq rfl Xf) rfl ⟨_, rfl, rfl, z.ky (K8.st p12 rfl)⟩
def laws_markByteS.b0  (x2 : (List Int) × Int × Int) : Option (((List Int) × Int × Int) ⊕ (Int × (List Int))) :=
 (if (decide (x2.2.2 < (x2.1.length : Int))) = true then (if 0 ≤ x2.2.2 ∧ x2.2.2 < (x2.1.length : Int) then (some (Sum.inl ((x2.1.set (x2.2.2).toNat (IntKind.wrap .u8 x2.2.1)), (IntKind.wrap .i64 (x2.2.1 + (1 : Int))), (IntKind.wrap .i64 (x2.2.2 + (1 : Int)))))) else none) else ((some (x2.2.1, x2.1)).bind fun o => some (Sum.inr o)))
def laws_markByteS.f (a0 : (List Int)) (a1 : Int) : Option (Int × (List Int)) :=
 (iter laws_markByteS.b0 (a0, a1, (0 : Int)))
def laws_markByteS.Q (w : World) (F : Nat → Prop) (os : List Nat) (w0_0 : Value) (r : Int × (List Int)) (v : Value) (w' : World) : Prop :=
 v = (iI r.1) ∧ FW Xy os w w' [w0_0] r.2 ∧ Ky os w w'
theorem laws_markByteS.calls (a0 : (List Int)) (a1 : Int) (w : World) (F : Nat → Prop) (w0_0 : Value) (os : List Nat) (h0_0 : Xy.ow w [w0_0] a0 os) (hn : os.Nodup) (hF : ∀ b, F b → b ∉ os) (r : Int × (List Int)) (m : laws_markByteS.f a0 a1 = some r) :
  Calls prog 35 #[w0_0, (iI a1)] w (RT (laws_markByteS.Q w F os w0_0) r) := by
 obtain ⟨s0, rfl, kp0, z⟩ := start1 w F os hF
 refine Xd (args := [w0_0, (iI a1)]) func35 ntmps35 rfl rfl m ?_
 unfold laws_markByteS.f
 refine sr (Xb rfl (dn (sq (sr (Xb rfl (dn (bl (lpI (fun (x2 : (List Int) × Int × Int) e w => ∃ (s : St) (e0 : Env), w = s.w ∧ e = upd (upd (upd e0 0 w0_0) 1 (iI x2.2.1)) 5 (iI x2.2.2) ∧ Kp s0 s ∧ OwF Xy s [w0_0] x2.1 2) ⟨s0, _, rfl, (ue (ue (ue rfl rfl) rfl) rfl), kp0, (z.ow h0_0 hn)⟩ (fun g2 ih2 => ?_)))))))))
 rintro x2 _ _ ⟨s3, _, rfl, rfl, Kx2, Ax2_0⟩
 unfold laws_markByteS.b0
 refine sq (sr (Xb rfl (Xv w0_0 rfl (ln' Ax2_0.rd u26 rfl (Xb rfl (dn (cd rfl (fun h5 => ?_) (fun h5 => ?_))))))))
 ·
  refine sk (sq (bl (sr (Xv w0_0 rfl (Xb rfl (Xb rfl (cv u5 u3 rfl rfl rfl rfl rfl rfl (ix' Ax2_0.rd u26 z5 rfl (fun ad6 es6 h0_6 h1_6 he6 ce6 ia6 => ?_)))))))))
  obtain rfl := he6
  refine so (x' := (IntKind.wrap .u8 x2.2.1)) Ax2_0 ia6 h0_6 h1_6 cs_flat z5 rfl rfl rfl rfl rfl rfl (fun s8 p8 A8 => ?_)
  refine dn (rg (Xb rfl (Xb rfl (Xb rfl (dn (ib (rg (Xb rfl (Xb rfl (Xb rfl (dn ?_)))))))))))
  exact lb ih2 ⟨s8, _, rfl, (ue (ue (ue rfl rfl) rfl) rfl), (Kx2.st p8 rfl), A8⟩
 exact xt rfl (sgb (sr (Xb rfl (Xb rfl (dn (re rfl func35 rfl (Xq rfl Xf) rfl ⟨_, rfl, rfl, z.fw Kx2 Ax2_0, z.ky Kx2⟩))))))
def laws_markEntryS.b0  (x2 : (List Entry) × Int × Int) : Option (((List Entry) × Int × Int) ⊕ (Int × (List Entry))) :=
 (if (decide (x2.2.2 < (x2.1.length : Int))) = true then (if 0 ≤ x2.2.2 ∧ x2.2.2 < (x2.1.length : Int) then ((some (x2.1.set (x2.2.2).toNat (Entry.mk (Item.mk x2.2.1 ((at_ x2.1 x2.2.2).Key).N ((at_ x2.1 x2.2.2).Key).F ((at_ x2.1 x2.2.2).Key).T) (at_ x2.1 x2.2.2).Id))).bind fun y11 => (if 0 ≤ x2.2.2 ∧ x2.2.2 < (y11.length : Int) then ((some (y11.set (x2.2.2).toNat (Entry.mk (Item.mk ((at_ y11 x2.2.2).Key).Kind (IntKind.wrap .i64 (x2.2.1 + (1 : Int))) ((at_ y11 x2.2.2).Key).F ((at_ y11 x2.2.2).Key).T) (at_ y11 x2.2.2).Id))).bind fun y17 => (if 0 ≤ x2.2.2 ∧ x2.2.2 < (y17.length : Int) then ((some (y17.set (x2.2.2).toNat (Entry.mk (Item.mk ((at_ y17 x2.2.2).Key).Kind ((at_ y17 x2.2.2).Key).N (FloatKind.f64.nearest (IntKind.wrap .i64 ((IntKind.wrap .i64 (x2.2.1 + (1 : Int))) + (1 : Int)))) ((at_ y17 x2.2.2).Key).T) (at_ y17 x2.2.2).Id))).bind fun y24 => (if 0 ≤ x2.2.2 ∧ x2.2.2 < (y24.length : Int) then ((laws_markByteS.f (((at_ y24 x2.2.2).Key).T) (IntKind.wrap .i64 ((IntKind.wrap .i64 ((IntKind.wrap .i64 (x2.2.1 + (1 : Int))) + (1 : Int))) + (1 : Int)))).bind fun r28 => ((some (y24.set (x2.2.2).toNat (Entry.mk (Item.mk ((at_ y24 x2.2.2).Key).Kind ((at_ y24 x2.2.2).Key).N ((at_ y24 x2.2.2).Key).F r28.2) (at_ y24 x2.2.2).Id))).bind fun y31 => (if 0 ≤ x2.2.2 ∧ x2.2.2 < (y31.length : Int) then (some (Sum.inl ((y31.set (x2.2.2).toNat (Entry.mk (at_ y31 x2.2.2).Key r28.1)), (IntKind.wrap .i64 (r28.1 + (1 : Int))), (IntKind.wrap .i64 (x2.2.2 + (1 : Int)))))) else none))) else none)) else none)) else none)) else none) else ((some (x2.2.1, x2.1)).bind fun o => some (Sum.inr o)))
def laws_markEntryS.f (a0 : (List Entry)) (a1 : Int) : Option (Int × (List Entry)) :=
 (iter laws_markEntryS.b0 (a0, a1, (0 : Int)))
def laws_markEntryS.Q (w : World) (F : Nat → Prop) (os : List Nat) (w0_0 : Value) (r : Int × (List Entry)) (v : Value) (w' : World) : Prop :=
 v = (iI r.1) ∧ FW Xz os w w' [w0_0] r.2 ∧ Ky os w w'
theorem laws_markEntryS.calls (a0 : (List Entry)) (a1 : Int) (w : World) (F : Nat → Prop) (w0_0 : Value) (os : List Nat) (h0_0 : Xz.ow w [w0_0] a0 os) (hn : os.Nodup) (hF : ∀ b, F b → b ∉ os) (r : Int × (List Entry)) (m : laws_markEntryS.f a0 a1 = some r) :
  Calls prog 52 #[w0_0, (iI a1)] w (RT (laws_markEntryS.Q w F os w0_0) r) := by
 obtain ⟨s0, rfl, kp0, z⟩ := start1 w F os hF
 refine Xd (args := [w0_0, (iI a1)]) func52 ntmps52 rfl rfl m ?_
 unfold laws_markEntryS.f
 refine sr (Xb rfl (dn (sq (sr (Xb rfl (dn (bl (lpI (fun (x2 : (List Entry) × Int × Int) e w => ∃ (s : St) (e0 : Env), w = s.w ∧ e = upd (upd (upd e0 0 w0_0) 1 (iI x2.2.1)) 5 (iI x2.2.2) ∧ Kp s0 s ∧ OwF Xz s [w0_0] x2.1 2) ⟨s0, _, rfl, (ue (ue (ue rfl rfl) rfl) rfl), kp0, (z.ow h0_0 hn)⟩ (fun g2 ih2 => ?_)))))))))
 rintro x2 _ _ ⟨s3, _, rfl, rfl, Kx2, Ax2_0⟩
 unfold laws_markEntryS.b0
 refine sq (sr (Xb rfl (Xv w0_0 rfl (ln' Ax2_0.rd u52 rfl (Xb rfl (dn (cd rfl (fun h5 => ?_) (fun h5 => ?_))))))))
 ·
  refine sk (sq (bl (sr (Xv w0_0 rfl (Xb rfl (Xb rfl (ix' Ax2_0.rd u52 z48 rfl (fun ad6 es6 h0_6 h1_6 he6 ce6 ia6 => ?_))))))))
  obtain ⟨v6_0, v6_1, rfl, A6_0, A6_1⟩ := op48 he6
  refine Xn fa48_0 rfl (Xn fa37_0 rfl (so (x' := (Entry.mk (Item.mk x2.2.1 ((at_ x2.1 x2.2.2).Key).N ((at_ x2.1 x2.2.2).Key).F ((at_ x2.1 x2.2.2).Key).T) (at_ x2.1 x2.2.2).Id)) Ax2_0 ia6 h0_6 h1_6 (cs_iso (cs_left (cs_iso (cs_left cs_flat)))) z3 rfl rfl rfl rfl rfl rfl (fun s9 p9 A9 => ?_)))
  refine nb (fun y11 h11 => ?_)
  have A11 : OwF Xz s9 [w0_0] y11 2 := by rw [h11]; exact A9
  refine dn (sr (Xb rfl (Xb rfl (Xb rfl (dn (sr (Xv w0_0 rfl (Xb rfl (Xb rfl (ix' A11.rd u52 z48 rfl (fun ad12 es12 h0_12 h1_12 he12 ce12 ia12 => ?_)))))))))))
  obtain ⟨v12_0, v12_1, rfl, A12_0, A12_1⟩ := op48 he12
  refine Xn fa48_0 rfl (Xn fa37_1 rfl (so (x' := (Entry.mk (Item.mk ((at_ y11 x2.2.2).Key).Kind (IntKind.wrap .i64 (x2.2.1 + (1 : Int))) ((at_ y11 x2.2.2).Key).F ((at_ y11 x2.2.2).Key).T) (at_ y11 x2.2.2).Id)) A11 ia12 h0_12 h1_12 (cs_iso (cs_left (cs_iso (cs_right (cs_left cs_flat))))) z3 rfl rfl rfl rfl rfl rfl (fun s15 p15 A15 => ?_)))
  refine nb (fun y17 h17 => ?_)
  have A17 : OwF Xz s15 [w0_0] y17 2 := by rw [h17]; exact A15
  refine dn (sr (Xb rfl (Xb rfl (Xb rfl (dn (sr (Xv w0_0 rfl (Xb rfl (Xb rfl (i2f u25 u3 rfl rfl rfl rfl rfl rfl (fun v18 A18 => ?_)))))))))))
  refine ix' A17.rd u52 z48 rfl (fun ad19 es19 h0_19 h1_19 he19 ce19 ia19 => ?_)
  obtain ⟨v19_0, v19_1, rfl, A19_0, A19_1⟩ := op48 he19
  refine Xn fa48_0 rfl (Xn fa37_2 rfl (so (x' := (Entry.mk (Item.mk ((at_ y17 x2.2.2).Key).Kind ((at_ y17 x2.2.2).Key).N (FloatKind.f64.nearest (IntKind.wrap .i64 ((IntKind.wrap .i64 (x2.2.1 + (1 : Int))) + (1 : Int)))) ((at_ y17 x2.2.2).Key).T) (at_ y17 x2.2.2).Id)) A17 ia19 h0_19 h1_19 (cs_iso (cs_left (cs_iso (cs_right (cs_right (cs_left (cs_flt A18))))))) z25 rfl rfl rfl rfl rfl rfl (fun s22 p22 A22 => ?_)))
  refine nb (fun y24 h24 => ?_)
  have A24 : OwF Xz s22 [w0_0] y24 2 := by rw [h24]; exact A22
  refine dn (sr (Xb rfl (Xb rfl (Xb rfl (dn (sr (Xv w0_0 rfl (Xb rfl (ix' A24.rd u52 z48 rfl (fun ad25 es25 h0_25 h1_25 he25 ce25 ia25 => ?_))))))))))
  obtain ⟨v25_0, v25_1, rfl, A25_0, A25_1⟩ := op48 he25
  refine Xn fa48_0 rfl (Xn fa37_3 rfl (lc ce25 u26 rfl rfl rfl rfl rfl rfl rfl rfl (Xb rfl ?_)))
  obtain ⟨os28, ho28, hn28, hc28, put28⟩ := focus (ln_iso (fun x : Entry => (x.Key, x.Id)) (fun x => x.Key.T) (fun x y => (Entry.mk (Item.mk x.Key.Kind x.Key.N x.Key.F y) x.Id)) (ln_left (ln_iso (fun x : Item => (x.Kind, x.N, x.F, x.T)) (fun x => x.T) (fun x y => (Item.mk x.Kind x.N x.F y)) (ln_right (ln_right (ln_right ln_sl))) (fun _ => rfl) (fun _ _ => rfl))) (fun _ => rfl) (fun _ _ => rfl)) A24 h0_25 h1_25 ia25 ce25 rfl rfl
  refine cl' rfl func35 rfl (laws_markByteS.calls (((at_ y24 x2.2.2).Key).T) (IntKind.wrap .i64 ((IntKind.wrap .i64 ((IntKind.wrap .i64 (x2.2.1 + (1 : Int))) + (1 : Int))) + (1 : Int))) s22.w (mm [] s22) v25_1 os28 ho28 hn28 (apart_of hc28 rfl)) ?_
  rintro r28 _ w28 m28 ⟨rfl, w28_, ky28⟩
  obtain ⟨s29, rfl, p29, A29⟩ := put28 w28 _ 40 ky28 w28_
  refine nb (fun y31 h31 => ?_)
  have A31 : OwF Xz s29 [w0_0] y31 2 := by rw [h31]; exact A29
  refine Xb rfl (dn (sr (Xv w0_0 rfl (Xb rfl (Xb rfl (ix' A31.rd u52 z48 rfl (fun ad32 es32 h0_32 h1_32 he32 ce32 ia32 => ?_)))))))
  obtain ⟨v32_0, v32_1, rfl, A32_0, A32_1⟩ := op48 he32
  refine Xn fa48_1 rfl (so (x' := (Entry.mk (at_ y31 x2.2.2).Key r28.1)) A31 ia32 h0_32 h1_32 (cs_iso (cs_right cs_flat)) z3 rfl rfl rfl rfl rfl rfl (fun s35 p35 A35 => ?_))
  refine dn (rg (Xb rfl (Xb rfl (Xb rfl (dn (ib (rg (Xb rfl (Xb rfl (Xb rfl (dn ?_)))))))))))
  exact lb ih2 ⟨s35, _, rfl, (ue (ue (ue rfl rfl) rfl) rfl), (Kx2.st (tr5 p9 p15 p22 p29 p35) rfl), A35⟩
 exact xt rfl (sgb (sr (Xb rfl (Xb rfl (dn (re rfl func52 rfl (Xq rfl Xf) rfl ⟨_, rfl, rfl, z.fw Kx2 Ax2_0, z.ky Kx2⟩))))))
def laws_markIntS.b0  (x2 : (List Int) × Int × Int) : Option (((List Int) × Int × Int) ⊕ (Int × (List Int))) :=
 (if (decide (x2.2.2 < (x2.1.length : Int))) = true then (if 0 ≤ x2.2.2 ∧ x2.2.2 < (x2.1.length : Int) then (some (Sum.inl ((x2.1.set (x2.2.2).toNat x2.2.1), (IntKind.wrap .i64 (x2.2.1 + (1 : Int))), (IntKind.wrap .i64 (x2.2.2 + (1 : Int)))))) else none) else ((some (x2.2.1, x2.1)).bind fun o => some (Sum.inr o)))
def laws_markIntS.f (a0 : (List Int)) (a1 : Int) : Option (Int × (List Int)) :=
 (iter laws_markIntS.b0 (a0, a1, (0 : Int)))
def laws_markIntS.Q (w : World) (F : Nat → Prop) (os : List Nat) (w0_0 : Value) (r : Int × (List Int)) (v : Value) (w' : World) : Prop :=
 v = (iI r.1) ∧ FW Ya os w w' [w0_0] r.2 ∧ Ky os w w'
theorem laws_markIntS.calls (a0 : (List Int)) (a1 : Int) (w : World) (F : Nat → Prop) (w0_0 : Value) (os : List Nat) (h0_0 : Ya.ow w [w0_0] a0 os) (hn : os.Nodup) (hF : ∀ b, F b → b ∉ os) (r : Int × (List Int)) (m : laws_markIntS.f a0 a1 = some r) :
  Calls prog 53 #[w0_0, (iI a1)] w (RT (laws_markIntS.Q w F os w0_0) r) := by
 obtain ⟨s0, rfl, kp0, z⟩ := start1 w F os hF
 refine Xd (args := [w0_0, (iI a1)]) func53 ntmps53 rfl rfl m ?_
 unfold laws_markIntS.f
 refine sr (Xb rfl (dn (sq (sr (Xb rfl (dn (bl (lpI (fun (x2 : (List Int) × Int × Int) e w => ∃ (s : St) (e0 : Env), w = s.w ∧ e = upd (upd (upd e0 0 w0_0) 1 (iI x2.2.1)) 5 (iI x2.2.2) ∧ Kp s0 s ∧ OwF Ya s [w0_0] x2.1 2) ⟨s0, _, rfl, (ue (ue (ue rfl rfl) rfl) rfl), kp0, (z.ow h0_0 hn)⟩ (fun g2 ih2 => ?_)))))))))
 rintro x2 _ _ ⟨s3, _, rfl, rfl, Kx2, Ax2_0⟩
 unfold laws_markIntS.b0
 refine sq (sr (Xb rfl (Xv w0_0 rfl (ln' Ax2_0.rd u55 rfl (Xb rfl (dn (cd rfl (fun h5 => ?_) (fun h5 => ?_))))))))
 ·
  refine sk (sq (bl (sr (Xv w0_0 rfl (Xb rfl (Xb rfl (ix' Ax2_0.rd u55 z3 rfl (fun ad6 es6 h0_6 h1_6 he6 ce6 ia6 => ?_))))))))
  obtain rfl := he6
  refine so (x' := x2.2.1) Ax2_0 ia6 h0_6 h1_6 cs_flat z3 rfl rfl rfl rfl rfl rfl (fun s8 p8 A8 => ?_)
  refine dn (rg (Xb rfl (Xb rfl (Xb rfl (dn (ib (rg (Xb rfl (Xb rfl (Xb rfl (dn ?_)))))))))))
  exact lb ih2 ⟨s8, _, rfl, (ue (ue (ue rfl rfl) rfl) rfl), (Kx2.st p8 rfl), A8⟩
 exact xt rfl (sgb (sr (Xb rfl (Xb rfl (dn (re rfl func53 rfl (Xq rfl Xf) rfl ⟨_, rfl, rfl, z.fw Kx2 Ax2_0, z.ky Kx2⟩))))))
def laws_markNodeS.b0  (x2 : (List Node) × Int × Int) : Option (((List Node) × Int × Int) ⊕ (Int × (List Node))) :=
 (if (decide (x2.2.2 < (x2.1.length : Int))) = true then (if 0 ≤ x2.2.2 ∧ x2.2.2 < (x2.1.length : Int) then ((some (x2.1.set (x2.2.2).toNat (Node.mk ((x2.2.1.tmod (3 : Int)) == (0 : Int)) (at_ x2.1 x2.2.2).Entries (at_ x2.1 x2.2.2).Kids))).bind fun y12 => (if 0 ≤ x2.2.2 ∧ x2.2.2 < (y12.length : Int) then ((laws_markEntryS.f ((at_ y12 x2.2.2).Entries) (IntKind.wrap .i64 (x2.2.1 + (1 : Int)))).bind fun r17 => (if 0 ≤ x2.2.2 ∧ x2.2.2 < ((y12.set (x2.2.2).toNat (Node.mk (at_ y12 x2.2.2).Leaf r17.2 (at_ y12 x2.2.2).Kids)).length : Int) then ((laws_markIntS.f ((at_ (y12.set (x2.2.2).toNat (Node.mk (at_ y12 x2.2.2).Leaf r17.2 (at_ y12 x2.2.2).Kids)) x2.2.2).Kids) r17.1).bind fun r24 => ((some ((y12.set (x2.2.2).toNat (Node.mk (at_ y12 x2.2.2).Leaf r17.2 (at_ y12 x2.2.2).Kids)).set (x2.2.2).toNat (Node.mk (at_ (y12.set (x2.2.2).toNat (Node.mk (at_ y12 x2.2.2).Leaf r17.2 (at_ y12 x2.2.2).Kids)) x2.2.2).Leaf (at_ (y12.set (x2.2.2).toNat (Node.mk (at_ y12 x2.2.2).Leaf r17.2 (at_ y12 x2.2.2).Kids)) x2.2.2).Entries r24.2))).bind fun y27 => (some (Sum.inl (y27, r24.1, (IntKind.wrap .i64 (x2.2.2 + (1 : Int)))))))) else none)) else none)) else none) else ((some (x2.2.1, x2.1)).bind fun o => some (Sum.inr o)))
def laws_markNodeS.f (a0 : (List Node)) (a1 : Int) : Option (Int × (List Node)) :=
 (iter laws_markNodeS.b0 (a0, a1, (0 : Int)))
def laws_markNodeS.Q (w : World) (F : Nat → Prop) (os : List Nat) (w0_0 : Value) (r : Int × (List Node)) (v : Value) (w' : World) : Prop :=
 v = (iI r.1) ∧ FW Yb os w w' [w0_0] r.2 ∧ Ky os w w'
theorem laws_markNodeS.calls (a0 : (List Node)) (a1 : Int) (w : World) (F : Nat → Prop) (w0_0 : Value) (os : List Nat) (h0_0 : Yb.ow w [w0_0] a0 os) (hn : os.Nodup) (hF : ∀ b, F b → b ∉ os) (r : Int × (List Node)) (m : laws_markNodeS.f a0 a1 = some r) :
  Calls prog 34 #[w0_0, (iI a1)] w (RT (laws_markNodeS.Q w F os w0_0) r) := by
 obtain ⟨s0, rfl, kp0, z⟩ := start1 w F os hF
 refine Xd (args := [w0_0, (iI a1)]) func34 ntmps34 rfl rfl m ?_
 unfold laws_markNodeS.f
 refine sr (Xb rfl (dn (sq (sr (Xb rfl (dn (bl (lpI (fun (x2 : (List Node) × Int × Int) e w => ∃ (s : St) (e0 : Env), w = s.w ∧ e = upd (upd (upd e0 0 w0_0) 1 (iI x2.2.1)) 5 (iI x2.2.2) ∧ Kp s0 s ∧ OwF Yb s [w0_0] x2.1 2) ⟨s0, _, rfl, (ue (ue (ue rfl rfl) rfl) rfl), kp0, (z.ow h0_0 hn)⟩ (fun g2 ih2 => ?_)))))))))
 rintro x2 _ _ ⟨s3, _, rfl, rfl, Kx2, Ax2_0⟩
 unfold laws_markNodeS.b0
 refine sq (sr (Xb rfl (Xv w0_0 rfl (ln' Ax2_0.rd u31 rfl (Xb rfl (dn (cd rfl (fun h5 => ?_) (fun h5 => ?_))))))))
 ·
  refine sk (sq (bl (sr (Xv w0_0 rfl (Xb rfl (Xb rfl (remK rfl rfl rfl rfl rfl rfl rfl rfl (Xb rfl (ix' Ax2_0.rd u31 z57 rfl (fun ad6 es6 h0_6 h1_6 he6 ce6 ia6 => ?_))))))))))
  obtain ⟨v6_0, v6_1, rfl, A6_0, A6_1⟩ := op57 he6
  refine Xn fa57_0 rfl (so (x' := (Node.mk ((x2.2.1.tmod (3 : Int)) == (0 : Int)) (at_ x2.1 x2.2.2).Entries (at_ x2.1 x2.2.2).Kids)) Ax2_0 ia6 h0_6 h1_6 (cs_iso (cs_left cs_flat)) z4 rfl rfl rfl rfl rfl rfl (fun s10 p10 A10 => ?_))
  refine nb (fun y12 h12 => ?_)
  have A12 : OwF Yb s10 [w0_0] y12 2 := by rw [h12]; exact A10
  refine dn (sr (Xb rfl (Xb rfl (Xb rfl (dn (sr (Xv w0_0 rfl (Xb rfl (ix' A12.rd u31 z57 rfl (fun ad13 es13 h0_13 h1_13 he13 ce13 ia13 => ?_))))))))))
  obtain ⟨v13_0, v13_1, rfl, A13_0, A13_1⟩ := op57 he13
  refine Xn fa57_1 rfl (lc ce13 u52 rfl rfl rfl rfl rfl rfl rfl rfl (Xb rfl ?_))
  obtain ⟨os17, ho17, hn17, hc17, put17⟩ := focus (ln_iso (fun x : Node => (x.Leaf, x.Entries, x.Kids)) (fun x => x.Entries) (fun x y => (Node.mk x.Leaf y x.Kids)) (ln_right (ln_left ln_sl)) (fun _ => rfl) (fun _ _ => rfl)) A12 h0_13 h1_13 ia13 ce13 rfl rfl
  refine cl' rfl func52 rfl (laws_markEntryS.calls ((at_ y12 x2.2.2).Entries) (IntKind.wrap .i64 (x2.2.1 + (1 : Int))) s10.w (mm [] s10) v13_0 os17 ho17 hn17 (apart_of hc17 rfl)) ?_
  rintro r17 _ w17 m17 ⟨rfl, w17_, ky17⟩
  obtain ⟨s18, rfl, p18, A18⟩ := put17 w17 _ 40 ky17 w17_
  refine Xb rfl (dn (rg (Xv w0_0 rfl (Xb rfl (ix' A18.rd u31 z57 rfl (fun ad20 es20 h0_20 h1_20 he20 ce20 ia20 => ?_))))))
  obtain ⟨v20_0, v20_1, rfl, A20_0, A20_1⟩ := op57 he20
  refine Xn fa57_2 rfl (lc ce20 u55 rfl rfl rfl rfl rfl rfl rfl rfl (Xb rfl ?_))
  obtain ⟨os24, ho24, hn24, hc24, put24⟩ := focus (ln_iso (fun x : Node => (x.Leaf, x.Entries, x.Kids)) (fun x => x.Kids) (fun x y => (Node.mk x.Leaf x.Entries y)) (ln_right (ln_right ln_sl)) (fun _ => rfl) (fun _ _ => rfl)) A18 h0_20 h1_20 ia20 ce20 rfl rfl
  refine cl' rfl func53 rfl (laws_markIntS.calls ((at_ (y12.set (x2.2.2).toNat (Node.mk (at_ y12 x2.2.2).Leaf r17.2 (at_ y12 x2.2.2).Kids)) x2.2.2).Kids) r17.1 s18.w (mm [] s18) v20_1 os24 ho24 hn24 (apart_of hc24 rfl)) ?_
  rintro r24 _ w24 m24 ⟨rfl, w24_, ky24⟩
  obtain ⟨s25, rfl, p25, A25⟩ := put24 w24 _ 41 ky24 w24_
  refine nb (fun y27 h27 => ?_)
  have A27 : OwF Yb s25 [w0_0] y27 2 := by rw [h27]; exact A25
  refine Xb rfl (dn (ib (rg (Xb rfl (Xb rfl (Xb rfl (dn ?_)))))))
  exact lb ih2 ⟨s25, _, rfl, (ue (ue (ue rfl rfl) rfl) rfl), (Kx2.st (tr3 p10 p18 p25) rfl), A27⟩
 exact xt rfl (sgb (sr (Xb rfl (Xb rfl (dn (re rfl func34 rfl (Xq rfl Xf) rfl ⟨_, rfl, rfl, z.fw Kx2 Ax2_0, z.ky Kx2⟩))))))
def laws_markTree.f (a0 : Tree) (a1 : Int) : Option (Int × (List Node)) :=
 ((laws_markNodeS.f a0.Nodes a1).bind fun r4 => (some (r4.1, r4.2)))
def laws_markTree.Q (w : World) (F : Nat → Prop) (os : List Nat) (w0_0 : Value) (r : Int × (List Node)) (v : Value) (w' : World) : Prop :=
 v = (iI r.1) ∧ FW Yb os w w' [w0_0] r.2 ∧ Ky os w w'
theorem laws_markTree.calls (a0 : Tree) (a1 : Int) (w : World) (F : Nat → Prop) (w0_0 : Value) (os : List Nat) (h0_0 : Yb.ow w [w0_0] a0.Nodes os) (hn : os.Nodup) (hF : ∀ b, F b → b ∉ os) (r : Int × (List Node)) (m : laws_markTree.f a0 a1 = some r) :
  Calls prog 12 #[(.agg #[w0_0, (iI a0.Root)]), (iI a1)] w (RT (laws_markTree.Q w F os w0_0) r) := by
 obtain ⟨s0, rfl, kp0, z⟩ := start1 w F os hF
 refine Xd (args := [(.agg #[w0_0, (iI a0.Root)]), (iI a1)]) func12 ntmps12 rfl rfl m ?_
 unfold laws_markTree.f
 refine sr (bx' (cs := [w0_0, (iI a0.Root)]) 40 rfl rfl (fun b2 s2 p2 B2 => ?_))
 refine Xb rfl (dn (sr (Xn fa33_0 rfl (Xw B2 u31 rfl (Xb rfl ?_)))))
 obtain ⟨os4, ho4, hn4, hc4⟩ := (z.ow h0_0 hn).st p2 rfl
 refine cl' rfl func34 rfl (laws_markNodeS.calls a0.Nodes a1 s2.w (mm [] s2) w0_0 os4 ho4 hn4 (apart_of hc4 rfl)) ?_
 rintro r4 _ w4 m4 ⟨rfl, w4_, ky4⟩
 obtain ⟨s6, rfl, p6, A6⟩ := nwo 41 hc4 ky4 w4_
 refine Xb rfl (dn (sr (Xb rfl (Xb rfl (dn ?_)))))
 have K8 := kp0.st (Xo p2 p6) rfl
 exact re rfl func12 rfl (Xq rfl Xf) rfl ⟨_, rfl, rfl, z.fw K8 A6, z.ky K8⟩
def laws_markItem.f (a0 : Item) (a1 : Int) : Option (Int × (List Int)) :=
 ((laws_markByteS.f a0.T a1).bind fun r4 => (some (r4.1, r4.2)))
def laws_markItem.Q (w : World) (F : Nat → Prop) (os : List Nat) (w0_1 : Value) (r : Int × (List Int)) (v : Value) (w' : World) : Prop :=
 v = (iI r.1) ∧ FW Xy os w w' [w0_1] r.2 ∧ Ky os w w'
theorem laws_markItem.calls (a0 : Item) (a1 : Int) (w : World) (F : Nat → Prop) (w0_0 : Value) (w0_1 : Value) (h0_0 : Kd.flt.rd w [w0_0] a0.F F) (os : List Nat) (h0_1 : Xy.ow w [w0_1] a0.T os) (hn : os.Nodup) (hF : ∀ b, F b → b ∉ os) (r : Int × (List Int)) (m : laws_markItem.f a0 a1 = some r) :
  Calls prog 13 #[(.agg #[(iI a0.Kind), (iI a0.N), w0_0, w0_1]), (iI a1)] w (RT (laws_markItem.Q w F os w0_1) r) := by
 obtain ⟨s0, rfl, kp0, z⟩ := start1 w F os hF
 refine Xd (args := [(.agg #[(iI a0.Kind), (iI a0.N), w0_0, w0_1]), (iI a1)]) func13 ntmps13 rfl rfl m ?_
 unfold laws_markItem.f
 refine sr (bx' (cs := [(iI a0.Kind), (iI a0.N), w0_0, w0_1]) 40 rfl rfl (fun b2 s2 p2 B2 => ?_))
 refine Xb rfl (dn (sr (Xn fa37_3 rfl (Xw B2 u26 rfl (Xb rfl ?_)))))
 obtain ⟨os4, ho4, hn4, hc4⟩ := (z.ow h0_1 hn).st p2 rfl
 refine cl' rfl func35 rfl (laws_markByteS.calls a0.T a1 s2.w (mm [] s2) w0_1 os4 ho4 hn4 (apart_of hc4 rfl)) ?_
 rintro r4 _ w4 m4 ⟨rfl, w4_, ky4⟩
 obtain ⟨s6, rfl, p6, A6⟩ := nwo 41 hc4 ky4 w4_
 refine Xb rfl (dn (sr (Xb rfl (Xb rfl (dn ?_)))))
 have K8 := kp0.st (Xo p2 p6) rfl
 exact re rfl func13 rfl (Xq rfl Xf) rfl ⟨_, rfl, rfl, z.fw K8 A6, z.ky K8⟩
def laws_heldByteS.b0 (a0 : (List Int)) (x2 : Int × Int) : Option ((Int × Int) ⊕ Int) :=
 (if (decide (x2.2 < (a0.length : Int))) = true then (if 0 ≤ x2.2 ∧ x2.2 < (a0.length : Int) then (if ((at_ a0 x2.2) != (IntKind.wrap .u8 x2.1)) = true then (some (Sum.inr (-1 : Int))) else (some (Sum.inl ((IntKind.wrap .i64 (x2.1 + (1 : Int))), (IntKind.wrap .i64 (x2.2 + (1 : Int))))))) else none) else ((some x2.1).bind fun o => some (Sum.inr o)))
def laws_heldByteS.f (a0 : (List Int)) (a1 : Int) : Option (Int) :=
 (iter (laws_heldByteS.b0 a0) (a1, (0 : Int)))
def laws_heldByteS.Q (w : World) (F : Nat → Prop) (r : Int) (v : Value) (w' : World) : Prop :=
 v = (iI r) ∧ Ky [] w w'
theorem laws_heldByteS.calls (a0 : (List Int)) (a1 : Int) (w : World) (F : Nat → Prop) (w0_0 : Value) (h0_0 : Xy.rd w [w0_0] a0 F) (r : Int) (m : laws_heldByteS.f a0 a1 = some r) :
  Calls prog 74 #[w0_0, (iI a1)] w (RT (laws_heldByteS.Q w F) r) := by
 obtain ⟨s0, rfl, kp0, z⟩ := Xj w F
 refine Xd (args := [w0_0, (iI a1)]) func74 ntmps74 rfl rfl m ?_
 unfold laws_heldByteS.f
 refine sr (Xb rfl (dn (sq (sr (Xb rfl (dn (bl (lpI (fun (x2 : Int × Int) e w => ∃ (s : St) (e0 : Env), w = s.w ∧ e = upd (upd (upd e0 0 w0_0) 1 (iI x2.1)) 5 (iI x2.2) ∧ Kp s0 s) ⟨s0, _, rfl, (ue (ue (ue rfl rfl) rfl) rfl), kp0⟩ (fun g2 ih2 => ?_)))))))))
 rintro x2 _ _ ⟨s3, _, rfl, rfl, Kx2⟩
 unfold laws_heldByteS.b0
 refine sq (sr (Xb rfl (Xv w0_0 rfl ?_)))
 have A4 := (z.rd h0_0).kp Kx2
 refine ln' A4 u26 rfl (Xb rfl (dn (cd rfl (fun h5 => ?_) (fun h5 => ?_))))
 ·
  refine sk (sq (bl (sq (sr (Xv w0_0 rfl (Xb rfl (ix' A4 u26 z5 rfl (fun ad6 es6 h0_6 h1_6 he6 ce6 ia6 => ?_))))))))
  obtain rfl := he6
  refine lc0 ce6 u5 rfl rfl rfl rfl rfl rfl rfl rfl (Xb rfl (cv u5 u3 rfl rfl rfl rfl rfl rfl (Xb rfl (dn (cd rfl (fun h8 => ?_) (fun h8 => ?_))))))
  ·
   exact sr (Xb rfl (dn (sgi (re rfl func74 rfl (Xq rfl Xf) rfl ⟨_, rfl, rfl, z.ky Kx2⟩))))
  exact sk (rg (Xb rfl (Xb rfl (Xb rfl (dn (ib (rg (Xb rfl (Xb rfl (Xb rfl (dn (lb ih2 ⟨s3, _, rfl, (ue (ue (ue rfl rfl) rfl) rfl), Kx2⟩))))))))))))
 exact xt rfl (sgb (sr (Xb rfl (Xb rfl (dn (re rfl func74 rfl (Xq rfl Xf) rfl ⟨_, rfl, rfl, z.ky Kx2⟩))))))
def laws_heldEntryS.b0 (a0 : (List Entry)) (x2 : Int × Int) : Option ((Int × Int) ⊕ Int) :=
 (if (decide (x2.2 < (a0.length : Int))) = true then (if 0 ≤ x2.2 ∧ x2.2 < (a0.length : Int) then (if (((at_ a0 x2.2).Key).Kind != x2.1) = true then (some (Sum.inr (-1 : Int))) else (if 0 ≤ x2.2 ∧ x2.2 < (a0.length : Int) then (if (((at_ a0 x2.2).Key).N != (IntKind.wrap .i64 (x2.1 + (1 : Int)))) = true then (some (Sum.inr (-1 : Int))) else (if 0 ≤ x2.2 ∧ x2.2 < (a0.length : Int) then (if (fcmp .f64 (((at_ a0 x2.2).Key).F) (FloatKind.f64.nearest (IntKind.wrap .i64 ((IntKind.wrap .i64 (x2.1 + (1 : Int))) + (1 : Int)))) != some .eq) = true then (some (Sum.inr (-1 : Int))) else (if 0 ≤ x2.2 ∧ x2.2 < (a0.length : Int) then ((laws_heldByteS.f (((at_ a0 x2.2).Key).T) (IntKind.wrap .i64 ((IntKind.wrap .i64 ((IntKind.wrap .i64 (x2.1 + (1 : Int))) + (1 : Int))) + (1 : Int)))).bind fun r22 => (if (decide (r22 < (0 : Int))) = true then (some (Sum.inr (-1 : Int))) else (if 0 ≤ x2.2 ∧ x2.2 < (a0.length : Int) then (if ((at_ a0 x2.2).Id != r22) = true then (some (Sum.inr (-1 : Int))) else (some (Sum.inl ((IntKind.wrap .i64 (r22 + (1 : Int))), (IntKind.wrap .i64 (x2.2 + (1 : Int))))))) else none))) else none)) else none)) else none)) else none) else ((some x2.1).bind fun o => some (Sum.inr o)))
def laws_heldEntryS.f (a0 : (List Entry)) (a1 : Int) : Option (Int) :=
 (iter (laws_heldEntryS.b0 a0) (a1, (0 : Int)))
def laws_heldEntryS.Q (w : World) (F : Nat → Prop) (r : Int) (v : Value) (w' : World) : Prop :=
 v = (iI r) ∧ Ky [] w w'
theorem laws_heldEntryS.calls (a0 : (List Entry)) (a1 : Int) (w : World) (F : Nat → Prop) (w0_0 : Value) (h0_0 : Xz.rd w [w0_0] a0 F) (r : Int) (m : laws_heldEntryS.f a0 a1 = some r) :
  Calls prog 54 #[w0_0, (iI a1)] w (RT (laws_heldEntryS.Q w F) r) := by
 obtain ⟨s0, rfl, kp0, z⟩ := Xj w F
 have A0_0 := z.rd h0_0
 refine Xd (args := [w0_0, (iI a1)]) func54 ntmps54 rfl rfl m ?_
 unfold laws_heldEntryS.f
 refine sr (Xb rfl (dn (sq (sr (Xb rfl (dn (bl (lpI (fun (x2 : Int × Int) e w => ∃ (s : St) (e0 : Env), w = s.w ∧ e = upd (upd (upd e0 0 w0_0) 1 (iI x2.1)) 5 (iI x2.2) ∧ Kp s0 s) ⟨s0, _, rfl, (ue (ue (ue rfl rfl) rfl) rfl), kp0⟩ (fun g2 ih2 => ?_)))))))))
 rintro x2 _ _ ⟨s3, _, rfl, rfl, Kx2⟩
 unfold laws_heldEntryS.b0
 refine sq (sr (Xb rfl (Xv w0_0 rfl ?_)))
 have A4 := A0_0.kp Kx2
 refine ln' A4 u52 rfl (Xb rfl (dn (cd rfl (fun h5 => ?_) (fun h5 => ?_))))
 ·
  refine sk (sq (bl (sq (sr (Xv w0_0 rfl (Xb rfl (ix' A4 u52 z48 rfl (fun ad6 es6 h0_6 h1_6 he6 ce6 ia6 => ?_))))))))
  obtain ⟨v6_0, v6_1, rfl, A6_0, A6_1⟩ := op48 he6
  refine Xn fa48_0 rfl (Xn fa37_0 rfl (lc0 ce6 u3 rfl rfl rfl rfl rfl rfl rfl rfl (Xb rfl (Xb rfl (dn (cd rfl (fun h9 => ?_) (fun h9 => ?_)))))))
  ·
   exact sr (Xb rfl (dn (sgi (re rfl func54 rfl (Xq rfl Xf) rfl ⟨_, rfl, rfl, z.ky Kx2⟩))))
  refine sk (sr (Xb rfl (Xb rfl (Xb rfl (dn (sq (sr (Xv w0_0 rfl (Xb rfl (ix' A4 u52 z48 rfl (fun ad10 es10 h0_10 h1_10 he10 ce10 ia10 => ?_)))))))))))
  obtain ⟨v10_0, v10_1, rfl, A10_0, A10_1⟩ := op48 he10
  refine Xn fa48_0 rfl (Xn fa37_1 rfl (lc ce10 u3 rfl rfl rfl rfl rfl rfl rfl rfl (Xb rfl (Xb rfl (dn (cd rfl (fun h13 => ?_) (fun h13 => ?_)))))))
  ·
   exact sr (Xb rfl (dn (sgi (re rfl func54 rfl (Xq rfl Xf) rfl ⟨_, rfl, rfl, z.ky Kx2⟩))))
  refine sk (sr (Xb rfl (Xb rfl (Xb rfl (dn (sq (sr (Xv w0_0 rfl (Xb rfl (ix' A4 u52 z48 rfl (fun ad14 es14 h0_14 h1_14 he14 ce14 ia14 => ?_)))))))))))
  obtain ⟨v14_0, v14_1, rfl, A14_0, A14_1⟩ := op48 he14
  refine Xn fa48_0 rfl (Xn fa37_2 rfl (lc ce14 u25 rfl rfl rfl rfl rfl rfl rfl rfl (Xb rfl (i2f u25 u3 rfl rfl rfl rfl rfl rfl (fun v17 A17 => ?_)))))
  refine fq_' A14_0 A17 rfl (dn (cd rfl (fun h18 => ?_) (fun h18 => ?_)))
  ·
   exact sr (Xb rfl (dn (sgi (re rfl func54 rfl (Xq rfl Xf) rfl ⟨_, rfl, rfl, z.ky Kx2⟩))))
  refine sk (sr (Xb rfl (Xb rfl (Xb rfl (dn (sr (Xv w0_0 rfl (Xb rfl (ix' A4 u52 z48 rfl (fun ad19 es19 h0_19 h1_19 he19 ce19 ia19 => ?_))))))))))
  obtain ⟨v19_0, v19_1, rfl, A19_0, A19_1⟩ := op48 he19
  refine Xn fa48_0 rfl (Xn fa37_3 rfl (lc ce19 u26 rfl rfl rfl rfl rfl rfl rfl rfl (Xb rfl (clV 40 rfl func74 rfl (laws_heldByteS.calls (((at_ a0 x2.2).Key).T) (IntKind.wrap .i64 ((IntKind.wrap .i64 ((IntKind.wrap .i64 (x2.1 + (1 : Int))) + (1 : Int))) + (1 : Int))) s3.w (mm [0] s3) v19_1 A19_1) (fun r22 s23 p23 n23 => ?_)))))
  refine Xb rfl (dn (sq (sr (Xb rfl (Xb rfl (dn (cd rfl (fun h24 => ?_) (fun h24 => ?_))))))))
  ·
   refine sr (Xb rfl (dn (sgi ?_)))
   exact re rfl func54 rfl (Xq rfl Xf) rfl ⟨_, rfl, rfl, z.ky (Kx2.st p23 rfl)⟩
  refine sk (sq (sr (Xv w0_0 rfl (Xb rfl ?_))))
  have K26 := Kx2.st p23 rfl
  refine ix' (A0_0.kp K26) u52 z48 rfl (fun ad28 es28 h0_28 h1_28 he28 ce28 ia28 => ?_)
  obtain ⟨v28_0, v28_1, rfl, A28_0, A28_1⟩ := op48 he28
  refine Xn fa48_1 rfl (lc ce28 u3 rfl rfl rfl rfl rfl rfl rfl rfl (Xb rfl (Xb rfl (dn (cd rfl (fun h31 => ?_) (fun h31 => ?_))))))
  ·
   exact sr (Xb rfl (dn (sgi (re rfl func54 rfl (Xq rfl Xf) rfl ⟨_, rfl, rfl, z.ky K26⟩))))
  exact sk (rg (Xb rfl (Xb rfl (Xb rfl (dn (ib (rg (Xb rfl (Xb rfl (Xb rfl (dn (lb ih2 ⟨s23, _, rfl, (ue (ue (ue rfl rfl) rfl) rfl), K26⟩))))))))))))
 exact xt rfl (sgb (sr (Xb rfl (Xb rfl (dn (re rfl func54 rfl (Xq rfl Xf) rfl ⟨_, rfl, rfl, z.ky Kx2⟩))))))
def laws_heldIntS.b0 (a0 : (List Int)) (x2 : Int × Int) : Option ((Int × Int) ⊕ Int) :=
 (if (decide (x2.2 < (a0.length : Int))) = true then (if 0 ≤ x2.2 ∧ x2.2 < (a0.length : Int) then (if ((at_ a0 x2.2) != x2.1) = true then (some (Sum.inr (-1 : Int))) else (some (Sum.inl ((IntKind.wrap .i64 (x2.1 + (1 : Int))), (IntKind.wrap .i64 (x2.2 + (1 : Int))))))) else none) else ((some x2.1).bind fun o => some (Sum.inr o)))
def laws_heldIntS.f (a0 : (List Int)) (a1 : Int) : Option (Int) :=
 (iter (laws_heldIntS.b0 a0) (a1, (0 : Int)))
def laws_heldIntS.Q (w : World) (F : Nat → Prop) (r : Int) (v : Value) (w' : World) : Prop :=
 v = (iI r) ∧ Ky [] w w'
theorem laws_heldIntS.calls (a0 : (List Int)) (a1 : Int) (w : World) (F : Nat → Prop) (w0_0 : Value) (h0_0 : Ya.rd w [w0_0] a0 F) (r : Int) (m : laws_heldIntS.f a0 a1 = some r) :
  Calls prog 55 #[w0_0, (iI a1)] w (RT (laws_heldIntS.Q w F) r) := by
 obtain ⟨s0, rfl, kp0, z⟩ := Xj w F
 refine Xd (args := [w0_0, (iI a1)]) func55 ntmps55 rfl rfl m ?_
 unfold laws_heldIntS.f
 refine sr (Xb rfl (dn (sq (sr (Xb rfl (dn (bl (lpI (fun (x2 : Int × Int) e w => ∃ (s : St) (e0 : Env), w = s.w ∧ e = upd (upd (upd e0 0 w0_0) 1 (iI x2.1)) 5 (iI x2.2) ∧ Kp s0 s) ⟨s0, _, rfl, (ue (ue (ue rfl rfl) rfl) rfl), kp0⟩ (fun g2 ih2 => ?_)))))))))
 rintro x2 _ _ ⟨s3, _, rfl, rfl, Kx2⟩
 unfold laws_heldIntS.b0
 refine sq (sr (Xb rfl (Xv w0_0 rfl ?_)))
 have A4 := (z.rd h0_0).kp Kx2
 refine ln' A4 u55 rfl (Xb rfl (dn (cd rfl (fun h5 => ?_) (fun h5 => ?_))))
 ·
  refine sk (sq (bl (sq (sr (Xv w0_0 rfl (Xb rfl (ix' A4 u55 z3 rfl (fun ad6 es6 h0_6 h1_6 he6 ce6 ia6 => ?_))))))))
  obtain rfl := he6
  refine lc0 ce6 u3 rfl rfl rfl rfl rfl rfl rfl rfl (Xb rfl (Xb rfl (dn (cd rfl (fun h8 => ?_) (fun h8 => ?_)))))
  ·
   exact sr (Xb rfl (dn (sgi (re rfl func55 rfl (Xq rfl Xf) rfl ⟨_, rfl, rfl, z.ky Kx2⟩))))
  exact sk (rg (Xb rfl (Xb rfl (Xb rfl (dn (ib (rg (Xb rfl (Xb rfl (Xb rfl (dn (lb ih2 ⟨s3, _, rfl, (ue (ue (ue rfl rfl) rfl) rfl), Kx2⟩))))))))))))
 exact xt rfl (sgb (sr (Xb rfl (Xb rfl (dn (re rfl func55 rfl (Xq rfl Xf) rfl ⟨_, rfl, rfl, z.ky Kx2⟩))))))
def laws_heldNodeS.b0 (a0 : (List Node)) (x2 : Int × Int) : Option ((Int × Int) ⊕ Int) :=
 (if (decide (x2.2 < (a0.length : Int))) = true then (if 0 ≤ x2.2 ∧ x2.2 < (a0.length : Int) then (if (!(((at_ a0 x2.2).Leaf) == ((x2.1.tmod (3 : Int)) == (0 : Int)))) = true then (some (Sum.inr (-1 : Int))) else (if 0 ≤ x2.2 ∧ x2.2 < (a0.length : Int) then ((laws_heldEntryS.f ((at_ a0 x2.2).Entries) (IntKind.wrap .i64 (x2.1 + (1 : Int)))).bind fun r15 => (if (decide (r15 < (0 : Int))) = true then (some (Sum.inr (-1 : Int))) else (if 0 ≤ x2.2 ∧ x2.2 < (a0.length : Int) then ((laws_heldIntS.f ((at_ a0 x2.2).Kids) r15).bind fun r25 => (if (decide (r25 < (0 : Int))) = true then (some (Sum.inr (-1 : Int))) else (some (Sum.inl (r25, (IntKind.wrap .i64 (x2.2 + (1 : Int)))))))) else none))) else none)) else none) else ((some x2.1).bind fun o => some (Sum.inr o)))
def laws_heldNodeS.f (a0 : (List Node)) (a1 : Int) : Option (Int) :=
 (iter (laws_heldNodeS.b0 a0) (a1, (0 : Int)))
def laws_heldNodeS.Q (w : World) (F : Nat → Prop) (r : Int) (v : Value) (w' : World) : Prop :=
 v = (iI r) ∧ Ky [] w w'
theorem laws_heldNodeS.calls (a0 : (List Node)) (a1 : Int) (w : World) (F : Nat → Prop) (w0_0 : Value) (h0_0 : Yb.rd w [w0_0] a0 F) (r : Int) (m : laws_heldNodeS.f a0 a1 = some r) :
  Calls prog 36 #[w0_0, (iI a1)] w (RT (laws_heldNodeS.Q w F) r) := by
 obtain ⟨s0, rfl, kp0, z⟩ := Xj w F
 have A0_0 := z.rd h0_0
 refine Xd (args := [w0_0, (iI a1)]) func36 ntmps36 rfl rfl m ?_
 unfold laws_heldNodeS.f
 refine sr (Xb rfl (dn (sq (sr (Xb rfl (dn (bl (lpI (fun (x2 : Int × Int) e w => ∃ (s : St) (e0 : Env), w = s.w ∧ e = upd (upd (upd e0 0 w0_0) 1 (iI x2.1)) 5 (iI x2.2) ∧ Kp s0 s) ⟨s0, _, rfl, (ue (ue (ue rfl rfl) rfl) rfl), kp0⟩ (fun g2 ih2 => ?_)))))))))
 rintro x2 _ _ ⟨s3, _, rfl, rfl, Kx2⟩
 unfold laws_heldNodeS.b0
 refine sq (sr (Xb rfl (Xv w0_0 rfl ?_)))
 have A4 := A0_0.kp Kx2
 refine ln' A4 u31 rfl (Xb rfl (dn (cd rfl (fun h5 => ?_) (fun h5 => ?_))))
 ·
  refine sk (sq (bl (sq (sr (Xv w0_0 rfl (Xb rfl (ix' A4 u31 z57 rfl (fun ad6 es6 h0_6 h1_6 he6 ce6 ia6 => ?_))))))))
  obtain ⟨v6_0, v6_1, rfl, A6_0, A6_1⟩ := op57 he6
  refine Xn fa57_0 rfl (lc0 ce6 u4 rfl rfl rfl rfl rfl rfl rfl rfl (Xb rfl (remK rfl rfl rfl rfl rfl rfl rfl rfl (Xb rfl (bne_ u4 rfl rfl rfl rfl rfl rfl rfl (dn (cd rfl (fun h10 => ?_) (fun h10 => ?_))))))))
  ·
   exact sr (Xb rfl (dn (sgi (re rfl func36 rfl (Xq rfl Xf) rfl ⟨_, rfl, rfl, z.ky Kx2⟩))))
  refine sk (sr (Xb rfl (Xb rfl (Xb rfl (dn (sr (Xv w0_0 rfl (Xb rfl (ix' A4 u31 z57 rfl (fun ad11 es11 h0_11 h1_11 he11 ce11 ia11 => ?_))))))))))
  obtain ⟨v11_0, v11_1, rfl, A11_0, A11_1⟩ := op57 he11
  refine Xn fa57_1 rfl (lc ce11 u52 rfl rfl rfl rfl rfl rfl rfl rfl (Xb rfl (clV 40 rfl func54 rfl (laws_heldEntryS.calls ((at_ a0 x2.2).Entries) (IntKind.wrap .i64 (x2.1 + (1 : Int))) s3.w (mm [0] s3) v11_0 A11_0) (fun r15 s16 p16 n16 => ?_))))
  refine Xb rfl (dn (sq (sr (Xb rfl (Xb rfl (dn (cd rfl (fun h17 => ?_) (fun h17 => ?_))))))))
  ·
   refine sr (Xb rfl (dn (sgi ?_)))
   exact re rfl func36 rfl (Xq rfl Xf) rfl ⟨_, rfl, rfl, z.ky (Kx2.st p16 rfl)⟩
  refine sk (sr (Xv w0_0 rfl (Xb rfl ?_)))
  have K19 := Kx2.st p16 rfl
  refine ix' (A0_0.kp K19) u31 z57 rfl (fun ad21 es21 h0_21 h1_21 he21 ce21 ia21 => ?_)
  obtain ⟨v21_0, v21_1, rfl, A21_0, A21_1⟩ := op57 he21
  refine Xn fa57_2 rfl (lc ce21 u55 rfl rfl rfl rfl rfl rfl rfl rfl (Xb rfl (clV 41 rfl func55 rfl (laws_heldIntS.calls ((at_ a0 x2.2).Kids) r15 s16.w (mm [0] s16) v21_1 A21_1) (fun r25 s26 p26 n26 => ?_))))
  refine Xb rfl (dn (sr (Xb rfl (Xb rfl (dn (cd rfl (fun h27 => ?_) (fun h27 => ?_)))))))
  ·
   refine sr (Xb rfl (dn (sgi ?_)))
   exact re rfl func36 rfl (Xq rfl Xf) rfl ⟨_, rfl, rfl, z.ky (K19.st p26 rfl)⟩
  refine sk (ib (rg (Xb rfl (Xb rfl (Xb rfl (dn ?_))))))
  exact lb ih2 ⟨s26, _, rfl, (ue (ue (ue rfl rfl) rfl) rfl), (K19.st p26 rfl)⟩
 exact xt rfl (sgb (sr (Xb rfl (Xb rfl (dn (re rfl func36 rfl (Xq rfl Xf) rfl ⟨_, rfl, rfl, z.ky Kx2⟩))))))
def laws_heldTree.f (a0 : Tree) (a1 : Int) : Option (Int) :=
 ((laws_heldNodeS.f a0.Nodes a1).bind fun r6 => (if (decide (r6 < (0 : Int))) = true then (some (-1 : Int)) else (some r6)))
def laws_heldTree.Q (w : World) (F : Nat → Prop) (r : Int) (v : Value) (w' : World) : Prop :=
 v = (iI r) ∧ Ky [] w w'
theorem laws_heldTree.calls (a0 : Tree) (a1 : Int) (w : World) (F : Nat → Prop) (w0_0 : Value) (h0_0 : Yb.rd w [w0_0] a0.Nodes F) (r : Int) (m : laws_heldTree.f a0 a1 = some r) :
  Calls prog 14 #[(.agg #[w0_0, (iI a0.Root)]), (iI a1)] w (RT (laws_heldTree.Q w F) r) := by
 obtain ⟨s0, rfl, kp0, z⟩ := Xj w F
 refine Xd (args := [(.agg #[w0_0, (iI a0.Root)]), (iI a1)]) func14 ntmps14 rfl rfl m ?_
 unfold laws_heldTree.f
 refine sr (bx' (cs := [w0_0, (iI a0.Root)]) 40 rfl rfl (fun b2 s2 p2 B2 => ?_))
 refine Xb rfl (dn (sr (Xn fa33_0 rfl (Xw B2 u31 rfl (Xb rfl ?_)))))
 have K4 := kp0.st p2 rfl
 refine clV 41 rfl func36 rfl (laws_heldNodeS.calls a0.Nodes a1 s2.w (mm [0] s2) w0_0 ((z.rd h0_0).kp K4)) (fun r6 s7 p7 n7 => ?_)
 refine Xb rfl (dn (sq (sr (Xb rfl (Xb rfl (dn (cd rfl (fun h8 => ?_) (fun h8 => ?_))))))))
 ·
  refine sr (Xb rfl (dn ?_))
  exact re rfl func14 rfl (Xq rfl Xf) rfl ⟨_, rfl, rfl, z.ky (K4.st p7 rfl)⟩
 refine sk (sr (Xb rfl (Xb rfl (dn ?_))))
 exact re rfl func14 rfl (Xq rfl Xf) rfl ⟨_, rfl, rfl, z.ky (K4.st p7 rfl)⟩
def laws_FnExactTreeDrop.f (a0 : Tree) (a1 : Item) (a2 : Int) : Option (Bool) :=
 ((laws_szTree.f a0 (1048576 : Int)).bind fun r10 => (if (decide (r10 < (0 : Int))) = true then (some true) else ((laws_szItem.f a1 r10).bind fun r17 => (if (decide (r17 < (0 : Int))) = true then (some true) else (((laws_toTree.f a0).bind fun r34 => ((laws_toItem.f a1).bind fun r43 => ((spec_TreeDrop.f r34 r43 a2).bind fun r50 => (some (r50.1.Nodes, r50.1.Root, r50.2))))).bind fun y27 => ((laws_toTree.f a0).bind fun r181 => ((laws_toItem.f a1).bind fun r192 => ((impl_TreeDrop.f r181 r192 a2).bind fun r203 => ((laws_eqTree.f r203.1 (Tree.mk y27.1 y27.2.1)).bind fun r214 => (if ((!r214) || (!(r203.2 == y27.2.2))) = true then (some false) else ((laws_toTree.f a0).bind fun r229 => ((laws_eqTree.f r181 r229).bind fun r235 => (if (!r235) = true then (some false) else ((laws_toItem.f a1).bind fun r249 => ((laws_eqItem.f r192 r249).bind fun r255 => (if (!r255) = true then (some false) else ((laws_markTree.f r181 (1 : Int)).bind fun r260 => ((laws_markItem.f r192 r260.1).bind fun r265 => ((if (decide (r265.1 < (0 : Int))) = true then (some true) else ((laws_eqTree.f r203.1 (Tree.mk y27.1 y27.2.1)).bind fun r281 => (some (!r281)))).bind fun y269 => (if (y269 || (!(r203.2 == y27.2.2))) = true then (some false) else ((laws_markTree.f r203.1 (1 : Int)).bind fun r297 => ((laws_heldTree.f (Tree.mk r297.2 r203.1.Root) (1 : Int)).bind fun r301 => (if (decide (r301 < (0 : Int))) = true then (some false) else (if (r301 != r297.1) = true then (some false) else (((laws_toTree.f a0).bind fun r320 => ((laws_toItem.f a1).bind fun r329 => ((impl_TreeDrop.f r320 r329 a2).bind fun r336 => (some (r336.1.Nodes, r336.1.Root, r336.2))))).bind fun y313 => ((laws_eqTree.f (Tree.mk y313.1 y313.2.1) (Tree.mk y27.1 y27.2.1)).bind fun r474 => (if ((!r474) || (!(y313.2.2 == y27.2.2))) = true then (some false) else ((laws_heldTree.f (Tree.mk r297.2 r203.1.Root) (1 : Int)).bind fun r481 => (if (decide (r481 < (0 : Int))) = true then (some false) else (if (r481 != r297.1) = true then (some false) else (some true)))))))))))))))))))))))))))))))
def laws_FnExactTreeDrop.Q (w : World) (F : Nat → Prop) (r : Bool) (v : Value) (w' : World) : Prop :=
 v = (.bool r) ∧ Ky [] w w'
theorem laws_FnExactTreeDrop.calls (a0 : Tree) (a1 : Item) (a2 : Int) (w : World) (F : Nat → Prop) (w0_0 : Value) (w1_0 : Value) (w1_1 : Value) (h0_0 : (Kd.sl 72 kd72).rd w [w0_0] a0.Nodes F) (h1_0 : Kd.flt.rd w [w1_0] a1.F F) (h1_1 : Xy.rd w [w1_1] a1.T F) (r : Bool) (m : laws_FnExactTreeDrop.f a0 a1 a2 = some r) :
  Calls prog 3 #[(.agg #[w0_0, (iI a0.Root)]), (.agg #[(iI a1.Kind), (iI a1.N), w1_0, w1_1]), (iI a2)] w (RT (laws_FnExactTreeDrop.Q w F) r) := by
 obtain ⟨s0, rfl, kp0, z⟩ := Xj w F
 have A0_0 := z.rd h0_0
 have A1_0 := fl_of h1_0
 have A1_1 := z.rd h1_1
 refine Xd (args := [(.agg #[w0_0, (iI a0.Root)]), (.agg #[(iI a1.Kind), (iI a1.N), w1_0, w1_1]), (iI a2)]) func3 ntmps3 rfl rfl m ?_
 unfold laws_FnExactTreeDrop.f
 refine sr (bx' (cs := [w0_0, (iI a0.Root)]) 40 rfl rfl (fun b3 s3 p3 B3 => ?_))
 refine bx' (cs := [(iI a1.Kind), (iI a1.N), w1_0, w1_1]) 41 rfl rfl (fun b5 s5 p5 B5 => ?_)
 refine Xb rfl (dn (sr (Xb rfl (dn (sr ?_)))))
 have A7 := B3.st p5 rfl
 refine lda' (es := [w0_0, (iI a0.Root)]) A7 u24 z24 rfl (Xb rfl ?_)
 have K8 := kp0.st (Xo p3 p5) rfl
 refine clV 42 rfl func4 rfl (laws_szTree.calls a0 (1048576 : Int) s5.w (mm [0] s5) w0_0 (A0_0.kp K8)) (fun r10 s11 p11 n11 => ?_)
 refine Xb rfl (dn (sq (sr (Xb rfl (Xb rfl (dn (cd rfl (fun h12 => ?_) (fun h12 => ?_))))))))
 ·
  refine sr (Xb rfl (dn ?_))
  exact re rfl func3 rfl (Xq rfl Xf) rfl ⟨_, rfl, rfl, z.ky (K8.st p11 rfl)⟩
 refine sk (sr ?_)
 have A14 := B5.st p11 rfl
 refine lda' (es := [(iI a1.Kind), (iI a1.N), w1_0, w1_1]) A14 u28 z28 rfl (Xb rfl ?_)
 have K15 := K8.st p11 rfl
 refine clV 43 rfl func5 rfl (laws_szItem.calls a1 r10 s11.w (mm [0] s11) w1_0 w1_1 ((Xi (s := s11) A1_0).sub (D := [0]) rfl) (A1_1.kp K15)) (fun r17 s18 p18 n18 => ?_)
 refine Xb rfl (dn (sq (sr (Xb rfl (Xb rfl (dn (cd rfl (fun h19 => ?_) (fun h19 => ?_))))))))
 ·
  refine sr (Xb rfl (dn ?_))
  exact re rfl func3 rfl (Xq rfl Xf) rfl ⟨_, rfl, rfl, z.ky (K15.st p18 rfl)⟩
 refine sk (sq (zdraw [[], [0], [], [2, 1], [], [1, 3, 4, 3], [5], [6], [6], [], [9, 7, 5, 0, 1, 2, 3, 4, 5, 6, 7, 9], [8, 10, 0, 1, 2, 3, 4, 5, 6, 7, 8, 9, 10]] [some 30, some 31, some 32, some 33, some 34, some 35, some 29, some 36, some 37, some 8, none, some 9] [[3], [30], [4], [32], [2], [31, 33, 34], [35], [29], [29], [], [8, 36], [37]] [0, 1, 2, 3, 4, 5, 6, 7, 10, 8, 9, 11] ⟨by kernel_rfl, by kernel_rfl, by kernel_rfl⟩ (by kernel_rfl) (fun s21 p21 l21 tb21 zd21 => ?_)))
 refine ji [11] (fun (y27 : (List Node) × Int × Bool) e w => ∃ (s : St) (e0 : Env) (vy27_0 : Value) (by27_0 : Nat), w = s.w ∧ e = upd (upd (upd (upd (upd e0 2 (iI a2)) 3 (pB b3)) 4 (pB b5)) 8 (pB by27_0)) 37 (.bool y27.2.2) ∧ Kp s0 s ∧ RdF Yb s [vy27_0] y27.1 [44] ∧ BlF s b5 28 [(iI a1.Kind), (iI a1.N), w1_0, w1_1] 41 ∧ BlF s b3 24 [w0_0, (iI a0.Root)] 40 ∧ BlF s by27_0 33 [vy27_0, (iI y27.2.1)] 45) (fun Gj27 Kj27 => ?_) ?_
 ·
  refine zstep2 1 9 [some 34, some 32] [some 34, some 32, some 30] tb21 (((zd21.add 0 30 (.agg #[w0_0, (iI a0.Root)]) rfl).add 2 32 (.agg #[(iI a1.Kind), (iI a1.N), w1_0, w1_1]) rfl).add 4 34 (iI a2) rfl) (Xa (Xc rfl) rfl (Xa (Xs (es := [(iI a1.Kind), (iI a1.N), w1_0, w1_1]) (A14.st (Xo p18 p21) rfl) u28 z28 rfl) rfl (Xa (Xs (es := [w0_0, (iI a0.Root)]) (A7.st (tr3 p11 p18 p21) rfl) u24 z24 rfl) rfl Xh))) (by kernel_rfl) (by kernel_rfl) (fun l28 e28 zd28 => ?_) (fun l29 e29 zd29 => ?_)
  ·
   have K32 := K15.st (Xo p18 p21) rfl
   refine cl' rfl func7 rfl (laws_toTree.calls a0 s21.w (mm [0] s21) w0_0 (A0_0.kp K32)) ?_
   rintro r34 _ w34 m34 ⟨v34_0, rfl, f34_0, ky34⟩
   obtain ⟨s35, rfl, p35, n35⟩ := nwx s21 w34 46 ky34
   have Au34_0_0 := ap33 (f34_0.c n35)
   refine Xr (L' := [4, 2]) (D' := [0, 1]) zd28 rfl rfl rfl (fun zd37 => ?_)
   refine zstep2 3 9 [some 34] [some 34, some 32] tb21 zd37 (Xa (Xc rfl) rfl (Xa (Xs (es := [(iI a1.Kind), (iI a1.N), w1_0, w1_1]) (A14.st (tr3 p18 p21 p35) rfl) u28 z28 rfl) rfl Xh)) (by kernel_rfl) (by kernel_rfl) (fun l38 e38 zd38 => ?_) (fun l39 e39 zd39 => ?_)
   ·
    have K41 := K32.st p35 rfl
    refine cl' rfl func8 rfl (laws_toItem.calls a1 s35.w (mm [0] s35) w1_0 w1_1 ((Xi (s := s35) A1_0).sub (D := [0]) rfl) (A1_1.kp K41)) ?_
    rintro r43 _ w43 m43 ⟨v43_0, v43_1, rfl, f43_0, ky43⟩
    obtain ⟨s44, rfl, p44, n44⟩ := nwx s35 w43 47 ky43
    obtain ⟨hu43_0_0, Au43_0_1⟩ := ap37 (f43_0.c n44)
    refine Xr (L' := [4]) (D' := [2, 3, 0, 1]) zd38 rfl rfl rfl (fun zd46 => ?_)
    refine zstep2 5 9 [] [some 34] tb21 zd46 (Xa (Xc rfl) rfl Xh) (by kernel_rfl) (by kernel_rfl) (fun l47 e47 zd47 => ?_) (fun l48 e48 zd48 => ?_)
    ·
     refine cl' rfl func6 rfl (spec_TreeDrop.calls r34 r43 a2 s44.w (mm [46, 47] s44) v34_0 v43_0 v43_1 ((Au34_0_0.st p44 rfl).rd.sub (D := [46, 47]) rfl) ((Xi (s := s44) hu43_0_0).sub (D := [46, 47]) rfl) (Au43_0_1.rd.sub (D := [46, 47]) rfl)) ?_
     rintro r50 _ w50 m50 ⟨v50_0, rfl, f50_0, ky50⟩
     obtain ⟨s51, rfl, p51, n51⟩ := nwx s44 w50 48 ky50
     refine Xr (L' := []) (D' := [4, 5, 2, 3, 0, 1]) zd47 rfl rfl rfl (fun zd53 => ?_)
     refine Xt 9 [some 37, some 36, some 29] tb21 (((zd53.add 6 29 (.tuple #[(.agg #[v50_0, (iI r50.1.Root)]), (.bool r50.2)]) rfl).add 7 36 (.agg #[v50_0, (iI r50.1.Root)]) rfl).add 8 37 (.bool r50.2) rfl) (Xa (Xc (v := (.bool r50.2)) rfl) rfl (Xa (Xc (v := (.agg #[v50_0, (iI r50.1.Root)])) rfl) rfl (Xa (Xc rfl) rfl Xh))) (by kernel_rfl) rfl (fun l57 e57 zd57 => ?_)
     refine al' (cs := [(.slice none 0 0), (iI 0)]) 49 rfl o33 rfl (fun b58 s58 p58 B58 => ?_)
     refine Xr (L' := [8, 7, 6]) (D' := [9, 4, 5, 2, 3, 0, 1]) zd57 rfl rfl rfl (fun zd60 => ?_)
     refine Xt 10 [some 37] tb21 zd60 (Xa (Xc (v := (.bool r50.2)) rfl) rfl (Xa (Xc (v := (.agg #[v50_0, (iI r50.1.Root)])) rfl) rfl (Xa (Xc rfl) rfl Xh))) (by kernel_rfl) rfl (fun l61 e61 zd61 => ?_)
     have A62 := (f50_0.c n51).st p58 rfl
     refine sva' (vs := [v50_0, (iI r50.1.Root)]) B58 z33 rfl (Xg A62.one (Xg rfl Xu)) rfl (fun s63 p63 B63 => ?_)
     refine zdone0 (L' := [8]) (D' := [7, 6, 7, 10, 9, 4, 5, 2, 3, 0, 1]) zd61 rfl rfl rfl (fun zd65 => ?_)
     refine Xx [11] tb21 zd65 (Xa (Xc (v := (.bool r50.2)) rfl) rfl Xh) (by kernel_rfl) (by decide) ?_
     obtain ⟨s66, hw66, p66, D66⟩ := BlF.rc B63 45 rfl
     rw [hw66]
     obtain ⟨s69, hw69, p69, rc69⟩ := rc_all s66 [48, 46, 47] 44 rfl
     rw [hw69]
     exact Kj27 _ _ _ ⟨s69, _, v50_0, b58, rfl, (ue (ue (ue (ue (ue rfl rfl) rfl) rfl) rfl) rfl), (K41.st (tr6 p44 p51 p58 p63 p66 p69) rfl), (RdF.rc (A62.st (Xo p63 p66) rfl) rc69 rfl rfl), (A14.st (tr9 p18 p21 p35 p44 p51 p58 p63 p66 p69) rfl), (A7.st (tr10 p11 p18 p21 p35 p44 p51 p58 p63 p66 p69) rfl), (D66.st p69 rfl)⟩
    refine al' (cs := [(.slice none 0 0), (iI 0)]) 50 rfl o33 rfl (fun b74 s74 p74 B74 => ?_)
    refine Xr (L' := [4]) (D' := [9, 2, 3, 0, 1]) zd48 rfl rfl rfl (fun zd76 => ?_)
    refine Xt 5 [] tb21 zd76 (Xa (Xc rfl) rfl Xh) (by kernel_rfl) rfl (fun l77 e77 zd77 => ?_)
    refine cl' rfl func6 rfl (spec_TreeDrop.calls r34 r43 a2 s74.w (mm [46, 47] s74) v34_0 v43_0 v43_1 ((Au34_0_0.st (Xo p44 p74) rfl).rd.sub (D := [46, 47]) rfl) ((Xi (s := s74) hu43_0_0).sub (D := [46, 47]) rfl) ((Au43_0_1.st p74 rfl).rd.sub (D := [46, 47]) rfl)) ?_
    rintro r80 _ w80 m80 ⟨v80_0, rfl, f80_0, ky80⟩
    obtain ⟨s81, rfl, p81, n81⟩ := nwx s74 w80 51 ky80
    have A80_0 := f80_0.c n81
    refine Xr (L' := []) (D' := [4, 5, 9, 2, 3, 0, 1]) zd77 rfl rfl rfl (fun zd83 => ?_)
    refine Xt 10 [some 37] tb21 (((zd83.add 6 29 (.tuple #[(.agg #[v80_0, (iI r80.1.Root)]), (.bool r80.2)]) rfl).add 7 36 (.agg #[v80_0, (iI r80.1.Root)]) rfl).add 8 37 (.bool r80.2) rfl) (Xa (Xc (v := (.bool r80.2)) rfl) rfl (Xa (Xc (v := (.agg #[v80_0, (iI r80.1.Root)])) rfl) rfl (Xa (Xc rfl) rfl Xh))) (by kernel_rfl) rfl (fun l87 e87 zd87 => ?_)
    refine sva' (vs := [v80_0, (iI r80.1.Root)]) (B74.st p81 rfl) z33 rfl (Xg A80_0.one (Xg rfl Xu)) rfl (fun s89 p89 B89 => ?_)
    refine zdone0 (L' := [8]) (D' := [7, 6, 7, 10, 4, 5, 9, 2, 3, 0, 1]) zd87 rfl rfl rfl (fun zd91 => ?_)
    refine Xx [11] tb21 zd91 (Xa (Xc (v := (.bool r80.2)) rfl) rfl Xh) (by kernel_rfl) (by decide) ?_
    obtain ⟨s92, hw92, p92, D92⟩ := BlF.rc B89 45 rfl
    rw [hw92]
    obtain ⟨s95, hw95, p95, rc95⟩ := rc_all s92 [51, 46, 47] 44 rfl
    rw [hw95]
    exact Kj27 _ _ _ ⟨s95, _, v80_0, b74, rfl, (ue (ue (ue (ue (ue rfl rfl) rfl) rfl) rfl) rfl), (K41.st (tr6 p44 p74 p81 p89 p92 p95) rfl), (RdF.rc (A80_0.st (Xo p89 p92) rfl) rc95 rfl rfl), (A14.st (tr9 p18 p21 p35 p44 p74 p81 p89 p92 p95) rfl), (A7.st (tr10 p11 p18 p21 p35 p44 p74 p81 p89 p92 p95) rfl), (D92.st p95 rfl)⟩
   refine al' (cs := [(.slice none 0 0), (iI 0)]) 52 rfl o33 rfl (fun b100 s100 p100 B100 => ?_)
   refine Xr (L' := [4, 2]) (D' := [9, 0, 1]) zd39 rfl rfl rfl (fun zd102 => ?_)
   refine Xt 3 [some 34] tb21 zd102 (Xa (Xc rfl) rfl (Xa (Xs (es := [(iI a1.Kind), (iI a1.N), w1_0, w1_1]) (A14.st (tr4 p18 p21 p35 p100) rfl) u28 z28 rfl) rfl Xh)) (by kernel_rfl) rfl (fun l103 e103 zd103 => ?_)
   have K105 := K32.st (Xo p35 p100) rfl
   refine cl' rfl func8 rfl (laws_toItem.calls a1 s100.w (mm [0] s100) w1_0 w1_1 ((Xi (s := s100) A1_0).sub (D := [0]) rfl) (A1_1.kp K105)) ?_
   rintro r107 _ w107 m107 ⟨v107_0, v107_1, rfl, f107_0, ky107⟩
   obtain ⟨s108, rfl, p108, n108⟩ := nwx s100 w107 53 ky107
   obtain ⟨hu107_0_0, Au107_0_1⟩ := ap37 (f107_0.c n108)
   refine Xr (L' := [4]) (D' := [2, 3, 9, 0, 1]) zd103 rfl rfl rfl (fun zd110 => ?_)
   refine Xt 5 [] tb21 zd110 (Xa (Xc rfl) rfl Xh) (by kernel_rfl) rfl (fun l111 e111 zd111 => ?_)
   refine cl' rfl func6 rfl (spec_TreeDrop.calls r34 r107 a2 s108.w (mm [46, 53] s108) v34_0 v107_0 v107_1 ((Au34_0_0.st (Xo p100 p108) rfl).rd.sub (D := [46, 53]) rfl) ((Xi (s := s108) hu107_0_0).sub (D := [46, 53]) rfl) (Au107_0_1.rd.sub (D := [46, 53]) rfl)) ?_
   rintro r113 _ w113 m113 ⟨v113_0, rfl, f113_0, ky113⟩
   obtain ⟨s114, rfl, p114, n114⟩ := nwx s108 w113 54 ky113
   have A113_0 := f113_0.c n114
   refine Xr (L' := []) (D' := [4, 5, 2, 3, 9, 0, 1]) zd111 rfl rfl rfl (fun zd116 => ?_)
   refine Xt 10 [some 37] tb21 (((zd116.add 6 29 (.tuple #[(.agg #[v113_0, (iI r113.1.Root)]), (.bool r113.2)]) rfl).add 7 36 (.agg #[v113_0, (iI r113.1.Root)]) rfl).add 8 37 (.bool r113.2) rfl) (Xa (Xc (v := (.bool r113.2)) rfl) rfl (Xa (Xc (v := (.agg #[v113_0, (iI r113.1.Root)])) rfl) rfl (Xa (Xc rfl) rfl Xh))) (by kernel_rfl) rfl (fun l120 e120 zd120 => ?_)
   refine sva' (vs := [v113_0, (iI r113.1.Root)]) (B100.st (Xo p108 p114) rfl) z33 rfl (Xg A113_0.one (Xg rfl Xu)) rfl (fun s122 p122 B122 => ?_)
   refine zdone0 (L' := [8]) (D' := [7, 6, 7, 10, 4, 5, 2, 3, 9, 0, 1]) zd120 rfl rfl rfl (fun zd124 => ?_)
   refine Xx [11] tb21 zd124 (Xa (Xc (v := (.bool r113.2)) rfl) rfl Xh) (by kernel_rfl) (by decide) ?_
   obtain ⟨s125, hw125, p125, D125⟩ := BlF.rc B122 45 rfl
   rw [hw125]
   obtain ⟨s128, hw128, p128, rc128⟩ := rc_all s125 [54, 46, 53] 44 rfl
   rw [hw128]
   exact Kj27 _ _ _ ⟨s128, _, v113_0, b100, rfl, (ue (ue (ue (ue (ue rfl rfl) rfl) rfl) rfl) rfl), (K105.st (tr5 p108 p114 p122 p125 p128) rfl), (RdF.rc (A113_0.st (Xo p122 p125) rfl) rc128 rfl rfl), (A14.st (tr9 p18 p21 p35 p100 p108 p114 p122 p125 p128) rfl), (A7.st (tr10 p11 p18 p21 p35 p100 p108 p114 p122 p125 p128) rfl), (D125.st p128 rfl)⟩
  refine al' (cs := [(.slice none 0 0), (iI 0)]) 55 rfl o33 rfl (fun b133 s133 p133 B133 => ?_)
  refine Xr (L' := [4, 2, 0]) (D' := [9]) zd29 rfl rfl rfl (fun zd135 => ?_)
  refine Xt 1 [some 34, some 32] tb21 zd135 (Xa (Xc rfl) rfl (Xa (Xs (es := [(iI a1.Kind), (iI a1.N), w1_0, w1_1]) (A14.st (tr3 p18 p21 p133) rfl) u28 z28 rfl) rfl (Xa (Xs (es := [w0_0, (iI a0.Root)]) (A7.st (tr4 p11 p18 p21 p133) rfl) u24 z24 rfl) rfl Xh))) (by kernel_rfl) rfl (fun l136 e136 zd136 => ?_)
  have K139 := K15.st (tr3 p18 p21 p133) rfl
  refine cl' rfl func7 rfl (laws_toTree.calls a0 s133.w (mm [0] s133) w0_0 (A0_0.kp K139)) ?_
  rintro r141 _ w141 m141 ⟨v141_0, rfl, f141_0, ky141⟩
  obtain ⟨s142, rfl, p142, n142⟩ := nwx s133 w141 56 ky141
  refine Xr (L' := [4, 2]) (D' := [0, 1, 9]) zd136 rfl rfl rfl (fun zd144 => ?_)
  refine Xt 3 [some 34] tb21 zd144 (Xa (Xc rfl) rfl (Xa (Xs (es := [(iI a1.Kind), (iI a1.N), w1_0, w1_1]) (A14.st (tr4 p18 p21 p133 p142) rfl) u28 z28 rfl) rfl Xh)) (by kernel_rfl) rfl (fun l145 e145 zd145 => ?_)
  have K147 := K139.st p142 rfl
  refine cl' rfl func8 rfl (laws_toItem.calls a1 s142.w (mm [0] s142) w1_0 w1_1 ((Xi (s := s142) A1_0).sub (D := [0]) rfl) (A1_1.kp K147)) ?_
  rintro r149 _ w149 m149 ⟨v149_0, v149_1, rfl, f149_0, ky149⟩
  obtain ⟨s150, rfl, p150, n150⟩ := nwx s142 w149 57 ky149
  obtain ⟨hu149_0_0, Au149_0_1⟩ := ap37 (f149_0.c n150)
  refine Xr (L' := [4]) (D' := [2, 3, 0, 1, 9]) zd145 rfl rfl rfl (fun zd152 => ?_)
  refine Xt 5 [] tb21 zd152 (Xa (Xc rfl) rfl Xh) (by kernel_rfl) rfl (fun l153 e153 zd153 => ?_)
  refine cl' rfl func6 rfl (spec_TreeDrop.calls r141 r149 a2 s150.w (mm [56, 57] s150) v141_0 v149_0 v149_1 (((ap33 (f141_0.c n142)).st p150 rfl).rd.sub (D := [56, 57]) rfl) ((Xi (s := s150) hu149_0_0).sub (D := [56, 57]) rfl) (Au149_0_1.rd.sub (D := [56, 57]) rfl)) ?_
  rintro r155 _ w155 m155 ⟨v155_0, rfl, f155_0, ky155⟩
  obtain ⟨s156, rfl, p156, n156⟩ := nwx s150 w155 58 ky155
  have A155_0 := f155_0.c n156
  refine Xr (L' := []) (D' := [4, 5, 2, 3, 0, 1, 9]) zd153 rfl rfl rfl (fun zd158 => ?_)
  refine Xt 10 [some 37] tb21 (((zd158.add 6 29 (.tuple #[(.agg #[v155_0, (iI r155.1.Root)]), (.bool r155.2)]) rfl).add 7 36 (.agg #[v155_0, (iI r155.1.Root)]) rfl).add 8 37 (.bool r155.2) rfl) (Xa (Xc (v := (.bool r155.2)) rfl) rfl (Xa (Xc (v := (.agg #[v155_0, (iI r155.1.Root)])) rfl) rfl (Xa (Xc rfl) rfl Xh))) (by kernel_rfl) rfl (fun l162 e162 zd162 => ?_)
  refine sva' (vs := [v155_0, (iI r155.1.Root)]) (B133.st (tr3 p142 p150 p156) rfl) z33 rfl (Xg A155_0.one (Xg rfl Xu)) rfl (fun s164 p164 B164 => ?_)
  refine zdone0 (L' := [8]) (D' := [7, 6, 7, 10, 4, 5, 2, 3, 0, 1, 9]) zd162 rfl rfl rfl (fun zd166 => ?_)
  refine Xx [11] tb21 zd166 (Xa (Xc (v := (.bool r155.2)) rfl) rfl Xh) (by kernel_rfl) (by decide) ?_
  obtain ⟨s167, hw167, p167, D167⟩ := BlF.rc B164 45 rfl
  rw [hw167]
  obtain ⟨s170, hw170, p170, rc170⟩ := rc_all s167 [58, 56, 57] 44 rfl
  rw [hw170]
  exact Kj27 _ _ _ ⟨s170, _, v155_0, b133, rfl, (ue (ue (ue (ue (ue rfl rfl) rfl) rfl) rfl) rfl), (K147.st (tr5 p150 p156 p164 p167 p170) rfl), (RdF.rc (A155_0.st (Xo p164 p167) rfl) rc170 rfl rfl), (A14.st (tr9 p18 p21 p133 p142 p150 p156 p164 p167 p170) rfl), (A7.st (tr10 p11 p18 p21 p133 p142 p150 p156 p164 p167 p170) rfl), (D167.st p170 rfl)⟩
 rintro y27 _ _ ⟨s175, _, vy27_0, by27_0, rfl, rfl, Ky27, Ay27_0, By27_b5, By27_b3, Dy27_0⟩
 refine Xb rfl (dn (sr (lda' (es := [w0_0, (iI a0.Root)]) By27_b3 u24 z24 rfl ?_)))
 refine cl' rfl func7 rfl (laws_toTree.calls a0 s175.w (mm [0] s175) w0_0 (A0_0.kp Ky27)) ?_
 rintro r181 _ w181 m181 ⟨v181_0, rfl, f181_0, ky181⟩
 obtain ⟨s182, rfl, p182, n182⟩ := nwx s175 w181 59 ky181
 refine al' (cs := [(.slice none 0 0), (iI 0)]) 60 rfl o33 rfl (fun b184 s184 p184 B184 => ?_)
 have A186 := (ap33 (f181_0.c n182)).st p184 rfl
 refine sva' (vs := [v181_0, (iI r181.Root)]) B184 z33 rfl (Xg A186.rd.one (Xg rfl Xu)) rfl (fun s187 p187 B187 => ?_)
 refine dn (sr ?_)
 have A189 := By27_b5.st (tr3 p182 p184 p187) rfl
 refine lda' (es := [(iI a1.Kind), (iI a1.N), w1_0, w1_1]) A189 u28 z28 rfl ?_
 have K190 := Ky27.st (tr3 p182 p184 p187) rfl
 refine cl' rfl func8 rfl (laws_toItem.calls a1 s187.w (mm [0] s187) w1_0 w1_1 ((Xi (s := s187) A1_0).sub (D := [0]) rfl) (A1_1.kp K190)) ?_
 rintro r192 _ w192 m192 ⟨v192_0, v192_1, rfl, f192_0, ky192⟩
 obtain ⟨s193, rfl, p193, n193⟩ := nwx s187 w192 61 ky192
 obtain ⟨hu192_0_0, Au192_0_1⟩ := ap37 (f192_0.c n193)
 refine al' (cs := [(iI 0), (iI 0), (.float .f64 0), (.slice none 0 0)]) 62 rfl o37 rfl (fun b195 s195 p195 B195 => ?_)
 have A197 := Au192_0_1.st p195 rfl
 refine sva' (vs := [(iI r192.Kind), (iI r192.N), v192_0, v192_1]) B195 z37 rfl (Xg rfl (Xg rfl (Xg (FL.one hu192_0_0) (Xg A197.rd.one Xu)))) rfl (fun s198 p198 B198 => ?_)
 refine dn (sr ?_)
 have A200 := B187.st (tr3 p193 p195 p198) rfl
 refine lda' (es := [v181_0, (iI r181.Root)]) A200 u33 z33 rfl (lda' (es := [(iI r192.Kind), (iI r192.N), v192_0, v192_1]) B198 u37 z37 rfl (Xb rfl ?_))
 have A201 := A186.st (tr4 p187 p193 p195 p198) rfl
 have A202 := A197.st p198 rfl
 refine cl' rfl func9 rfl (impl_TreeDrop.calls r181 r192 a2 s198.w (mm [59, 61] s198) v181_0 v192_0 v192_1 (A201.rd.sub (D := [59, 61]) rfl) ((Xi (s := s198) hu192_0_0).sub (D := [59, 61]) rfl) (A202.rd.sub (D := [59, 61]) rfl)) ?_
 rintro r203 _ w203 m203 ⟨v203_0, rfl, f203_0, ky203⟩
 obtain ⟨s204, rfl, p204, n204⟩ := nwx s198 w203 63 ky203
 refine Xb rfl (Xb (v := (.agg #[v203_0, (iI r203.1.Root)])) rfl (Xb (v := (.bool r203.2)) rfl (al' (cs := [(.slice none 0 0), (iI 0)]) 64 rfl o33 rfl (fun b206 s206 p206 B206 => ?_))))
 have A208 := (ap33 (f203_0.c n204)).st p206 rfl
 refine sva' (vs := [v203_0, (iI r203.1.Root)]) B206 z33 rfl (Xg A208.rd.one (Xg rfl Xu)) rfl (fun s209 p209 B209 => ?_)
 refine Xb rfl (dn (sq (sr (lda' (es := [v203_0, (iI r203.1.Root)]) B209 u33 z33 rfl ?_))))
 have A211 := Dy27_0.st (tr9 p182 p184 p187 p193 p195 p198 p204 p206 p209) rfl
 refine lda' (es := [vy27_0, (iI y27.2.1)]) A211 u33 z33 rfl ?_
 have A212 := A208.st p209 rfl
 have A213 := Ay27_0.st (tr9 p182 p184 p187 p193 p195 p198 p204 p206 p209) rfl
 refine clV 65 rfl func10 rfl (laws_eqTree.calls r203.1 (Tree.mk y27.1 y27.2.1) s209.w (mm [63, 44] s209) v203_0 vy27_0 (A212.rd.sub (D := [63, 44]) rfl) (A213.sub (D := [63, 44]) rfl)) (fun r214 s215 p215 n215 => ?_)
 refine Xb rfl (Xb rfl (jy [53, 54, 55, 56, 57] [] 57 (.bool ((!r214) || (!(r203.2 == y27.2.2)))) rfl (fun Kg216 => ?_) (fun j216 => ?_)))
 ·
  rcases bft (!r214) with hb216 | hb216
  ·
   exact sbT hb216 (Xk rfl (Xk rfl (Xk rfl (Xb rfl (Kg216 _ (Ag.put ((Ag.put ((Ag.put ((Ag.put (Ag.base rfl) rfl)) rfl)) rfl)) rfl) (by rw [hb216]; rfl))))))
  exact sbT hb216 (Xb rfl (Xb rfl (bne_ u4 rfl rfl rfl rfl rfl rfl rfl (Xb rfl (Kg216 _ (Ag.put ((Ag.put ((Ag.put ((Ag.put (Ag.base rfl) rfl)) rfl)) rfl)) rfl) (by rw [hb216]; rfl))))))
 refine dn (cd rfl (fun h217 => ?_) (fun h217 => ?_))
 ·
  refine sr (Xb rfl (dn ?_))
  exact re rfl func3 rfl (Xq rfl Xf) rfl ⟨_, rfl, rfl, z.ky (K190.st (tr7 p193 p195 p198 p204 p206 p209 p215) rfl)⟩
 refine sk (sq (sq (zdraw [[], [], [1], [0, 2, 2], [3]] [some 58, some 59, some 60, some 61, some 62] [[10], [3], [59], [58, 60], [61]] [0, 1, 2, 3, 4] ⟨by kernel_rfl, by kernel_rfl, by kernel_rfl⟩ (by kernel_rfl) (fun s219 p219 l219 tb219 zd219 => ?_))))
 refine Xt 2 [some 58] tb219 ((zd219.add 0 58 (.agg #[v181_0, (iI r181.Root)]) rfl).add 1 59 (.agg #[w0_0, (iI a0.Root)]) rfl) (Xa (Xs (es := [w0_0, (iI a0.Root)]) (By27_b3.st (tr11 p182 p184 p187 p193 p195 p198 p204 p206 p209 p215 p219) rfl) u24 z24 rfl) rfl (Xa (Xs (es := [v181_0, (iI r181.Root)]) (A200.st (tr5 p204 p206 p209 p215 p219) rfl) u33 z33 rfl) rfl Xh)) (by kernel_rfl) rfl (fun l224 e224 zd224 => ?_)
 have K227 := K190.st (tr8 p193 p195 p198 p204 p206 p209 p215 p219) rfl
 refine cl' rfl func7 rfl (laws_toTree.calls a0 s219.w (mm [0] s219) w0_0 (A0_0.kp K227)) ?_
 rintro r229 _ w229 m229 ⟨v229_0, rfl, f229_0, ky229⟩
 obtain ⟨s230, rfl, p230, n230⟩ := nwx s219 w229 66 ky229
 refine Xr (L' := [0]) (D' := [1, 2]) zd224 rfl rfl rfl (fun zd232 => ?_)
 refine Xx [3, 4] tb219 zd232 (Xa (Xs (es := [v181_0, (iI r181.Root)]) (A200.st (tr6 p204 p206 p209 p215 p219 p230) rfl) u33 z33 rfl) rfl Xh) (by kernel_rfl) (by decide) ?_
 have A234 := A201.st (tr6 p204 p206 p209 p215 p219 p230) rfl
 refine clV 67 rfl func10 rfl (laws_eqTree.calls r181 r229 s230.w (mm [59, 66] s230) v181_0 v229_0 (A234.rd.sub (D := [59, 66]) rfl) ((ap33 (f229_0.c n230)).rd.sub (D := [59, 66]) rfl)) (fun r235 s236 p236 n236 => ?_)
 refine Xb rfl (dn (cd rfl (fun h237 => ?_) (fun h237 => ?_)))
 ·
  refine sr (Xb rfl (dn ?_))
  exact re rfl func3 rfl (Xq rfl Xf) rfl ⟨_, rfl, rfl, z.ky (K227.st (Xo p230 p236) rfl)⟩
 refine sk (sq (sq (zdraw [[], [], [1], [0, 2, 2], [3]] [some 63, some 64, some 65, some 66, some 67] [[11], [4], [64], [63, 65], [66]] [0, 1, 2, 3, 4] ⟨by kernel_rfl, by kernel_rfl, by kernel_rfl⟩ (by kernel_rfl) (fun s239 p239 l239 tb239 zd239 => ?_))))
 refine Xt 2 [some 63] tb239 ((zd239.add 0 63 (.agg #[(iI r192.Kind), (iI r192.N), v192_0, v192_1]) rfl).add 1 64 (.agg #[(iI a1.Kind), (iI a1.N), w1_0, w1_1]) rfl) (Xa (Xs (es := [(iI a1.Kind), (iI a1.N), w1_0, w1_1]) (A189.st (tr11 p193 p195 p198 p204 p206 p209 p215 p219 p230 p236 p239) rfl) u28 z28 rfl) rfl (Xa (Xs (es := [(iI r192.Kind), (iI r192.N), v192_0, v192_1]) (B198.st (tr8 p204 p206 p209 p215 p219 p230 p236 p239) rfl) u37 z37 rfl) rfl Xh)) (by kernel_rfl) rfl (fun l244 e244 zd244 => ?_)
 have K247 := K227.st (tr3 p230 p236 p239) rfl
 refine cl' rfl func8 rfl (laws_toItem.calls a1 s239.w (mm [0] s239) w1_0 w1_1 ((Xi (s := s239) A1_0).sub (D := [0]) rfl) (A1_1.kp K247)) ?_
 rintro r249 _ w249 m249 ⟨v249_0, v249_1, rfl, f249_0, ky249⟩
 obtain ⟨s250, rfl, p250, n250⟩ := nwx s239 w249 68 ky249
 obtain ⟨hu249_0_0, Au249_0_1⟩ := ap37 (f249_0.c n250)
 refine Xr (L' := [0]) (D' := [1, 2]) zd244 rfl rfl rfl (fun zd252 => ?_)
 refine Xx [3, 4] tb239 zd252 (Xa (Xs (es := [(iI r192.Kind), (iI r192.N), v192_0, v192_1]) (B198.st (tr9 p204 p206 p209 p215 p219 p230 p236 p239 p250) rfl) u37 z37 rfl) rfl Xh) (by kernel_rfl) (by decide) ?_
 have A254 := A202.st (tr9 p204 p206 p209 p215 p219 p230 p236 p239 p250) rfl
 refine clV 69 rfl func11 rfl (laws_eqItem.calls r192 r249 s250.w (mm [61, 68] s250) v192_0 v192_1 v249_0 v249_1 ((Xi (s := s250) hu192_0_0).sub (D := [61, 68]) rfl) (A254.rd.sub (D := [61, 68]) rfl) ((Xi (s := s250) hu249_0_0).sub (D := [61, 68]) rfl) (Au249_0_1.rd.sub (D := [61, 68]) rfl)) (fun r255 s256 p256 n256 => ?_)
 refine Xb rfl (dn (cd rfl (fun h257 => ?_) (fun h257 => ?_)))
 ·
  refine sr (Xb rfl (dn ?_))
  exact re rfl func3 rfl (Xq rfl Xf) rfl ⟨_, rfl, rfl, z.ky (K247.st (Xo p250 p256) rfl)⟩
 refine sk (sr (Xb rfl (dn (sr ?_))))
 refine lda' (es := [v181_0, (iI r181.Root)]) (A200.st (tr10 p204 p206 p209 p215 p219 p230 p236 p239 p250 p256) rfl) u33 z33 rfl (Xb rfl ?_)
 obtain ⟨os260, ho260, hn260, hc260⟩ := A234.st (tr4 p236 p239 p250 p256) rfl
 refine cl' rfl func12 rfl (laws_markTree.calls r181 (1 : Int) s256.w (mm [] s256) v181_0 os260 ho260 hn260 (apart_of hc260 rfl)) ?_
 rintro r260 _ w260 m260 ⟨rfl, w260_, ky260⟩
 obtain ⟨s262, rfl, p262, A262⟩ := nwo 70 hc260 ky260 w260_
 refine Xb rfl (dn (sr ?_))
 refine lda' (es := [(iI r192.Kind), (iI r192.N), v192_0, v192_1]) (B198.st (tr11 p204 p206 p209 p215 p219 p230 p236 p239 p250 p256 p262) rfl) u37 z37 rfl (Xb rfl ?_)
 obtain ⟨os265, ho265, hn265, hc265⟩ := A254.st (Xo p256 p262) rfl
 refine cl' rfl func13 rfl (laws_markItem.calls r192 r260.1 s262.w (mm [] s262) v192_0 v192_1 (Xi (s := s262) hu192_0_0) os265 ho265 hn265 (apart_of hc265 rfl)) ?_
 rintro r265 _ w265 m265 ⟨rfl, w265_, ky265⟩
 obtain ⟨s267, rfl, p267, A267⟩ := nwo 71 hc265 ky265 w265_
 refine Xb rfl (dn (sq (sr (Xb rfl (Xb rfl (Xb rfl (ji [8, 9, 10, 11, 12] (fun (y269 : Bool) e w => ∃ (s : St) (e0 : Env), w = s.w ∧ e = upd (upd (upd (upd (upd (upd (upd (upd e0 2 (iI a2)) 3 (pB b3)) 4 (pB b5)) 8 (pB by27_0)) 9 (.bool y27.2.2)) 12 (pB b206)) 13 (.bool r203.2)) 81 (.bool y269) ∧ Kp s0 s ∧ BlF s b206 33 [v203_0, (iI r203.1.Root)] 64 ∧ BlF s by27_0 33 [vy27_0, (iI y27.2.1)] 45 ∧ BlF s b5 28 [(iI a1.Kind), (iI a1.N), w1_0, w1_1] 41 ∧ BlF s b3 24 [w0_0, (iI a0.Root)] 40 ∧ OwF Yb s [v203_0] r203.1.Nodes 63 ∧ RdF Yb s [vy27_0] y27.1 [44]) (fun Gj269 Kj269 => ?_) ?_)))))))
 ·
  rcases bft (decide (r265.1 < (0 : Int))) with hb269 | hb269
  ·
   refine sbT hb269 ?_
   rw [if_pos hb269]
   refine Xk rfl (Xk rfl (Xk rfl (Xk rfl (Xb rfl ?_))))
   exact Kj269 _ _ _ ⟨s267, _, rfl, (ue (ue (ue (ue (ue (ue (ue (ue rfl rfl) rfl) rfl) rfl) rfl) rfl) rfl) rfl), (K247.st (tr4 p250 p256 p262 p267) rfl), (B209.st (tr9 p215 p219 p230 p236 p239 p250 p256 p262 p267) rfl), (A211.st (tr9 p215 p219 p230 p236 p239 p250 p256 p262 p267) rfl), (A189.st (tr4 (tr12 p193 p195 p198 p204 p206 p209 p215 p219 p230 p236 p239 p250) p256 p262 p267) rfl), (By27_b3.st (tr7 (tr12 p182 p184 p187 p193 p195 p198 p204 p206 p209 p215 p219 p230) p236 p239 p250 p256 p262 p267) rfl), (A212.st (tr9 p215 p219 p230 p236 p239 p250 p256 p262 p267) rfl), (A213.st (tr9 p215 p219 p230 p236 p239 p250 p256 p262 p267) rfl)⟩
  refine sbT hb269 ?_
  rw [if_neg (by rw [hb269]; decide)]
  have A277 := B209.st (tr9 p215 p219 p230 p236 p239 p250 p256 p262 p267) rfl
  refine lda' (es := [v203_0, (iI r203.1.Root)]) A277 u33 z33 rfl ?_
  have A278 := A211.st (tr9 p215 p219 p230 p236 p239 p250 p256 p262 p267) rfl
  refine lda' (es := [vy27_0, (iI y27.2.1)]) A278 u33 z33 rfl ?_
  have A279 := A212.st (tr9 p215 p219 p230 p236 p239 p250 p256 p262 p267) rfl
  have A280 := A213.st (tr9 p215 p219 p230 p236 p239 p250 p256 p262 p267) rfl
  refine clV 72 rfl func10 rfl (laws_eqTree.calls r203.1 (Tree.mk y27.1 y27.2.1) s267.w (mm [63, 44] s267) v203_0 vy27_0 (A279.rd.sub (D := [63, 44]) rfl) (A280.sub (D := [63, 44]) rfl)) (fun r281 s282 p282 n282 => ?_)
  refine Xb rfl (Xb rfl ?_)
  exact Kj269 _ _ _ ⟨s282, _, rfl, (ue (ue (ue (ue (ue (ue (ue (ue rfl rfl) rfl) rfl) rfl) rfl) rfl) rfl) rfl), (K247.st (tr5 p250 p256 p262 p267 p282) rfl), (A277.st p282 rfl), (A278.st p282 rfl), (A189.st (tr5 (tr12 p193 p195 p198 p204 p206 p209 p215 p219 p230 p236 p239 p250) p256 p262 p267 p282) rfl), (By27_b3.st (tr8 (tr12 p182 p184 p187 p193 p195 p198 p204 p206 p209 p215 p219 p230) p236 p239 p250 p256 p262 p267 p282) rfl), (A279.st p282 rfl), (A280.st p282 rfl)⟩
 rintro y269 _ _ ⟨s290, _, rfl, rfl, Ky269, By269_b206, By269_by27_0, By269_b5, By269_b3, Cy269_205, Cy269_176⟩
 refine Xb rfl (jy [82, 83, 84, 85, 86] [] 86 (.bool (y269 || (!(r203.2 == y27.2.2)))) rfl (fun Kg295 => ?_) (fun j295 => ?_))
 ·
  rcases bft y269 with hb295 | hb295
  ·
   exact sbT hb295 (Xk rfl (Xk rfl (Xk rfl (Xb rfl (Kg295 _ (Ag.put ((Ag.put ((Ag.put ((Ag.put (Ag.base rfl) rfl)) rfl)) rfl)) rfl) (by rw [hb295]; rfl))))))
  exact sbT hb295 (Xb rfl (Xb rfl (bne_ u4 rfl rfl rfl rfl rfl rfl rfl (Xb rfl (Kg295 _ (Ag.put ((Ag.put ((Ag.put ((Ag.put (Ag.base rfl) rfl)) rfl)) rfl)) rfl) (by rw [hb295]; rfl))))))
 refine dn (cd rfl (fun h296 => ?_) (fun h296 => ?_))
 ·
  exact sr (Xb rfl (dn (re rfl func3 rfl (Xq rfl Xf) rfl ⟨_, rfl, rfl, z.ky Ky269⟩)))
 refine sk (sr (Xb rfl (dn (sr (lda' (es := [v203_0, (iI r203.1.Root)]) By269_b206 u33 z33 rfl (Xb rfl ?_))))))
 obtain ⟨os297, ho297, hn297, hc297⟩ := Cy269_205
 refine cl' rfl func12 rfl (laws_markTree.calls r203.1 (1 : Int) s290.w (mm [] s290) v203_0 os297 ho297 hn297 (apart_of hc297 rfl)) ?_
 rintro r297 _ w297 m297 ⟨rfl, w297_, ky297⟩
 obtain ⟨s298, rfl, p298, A298⟩ := nwo 73 hc297 ky297 w297_
 refine Xb rfl (dn (sr (Xb rfl (dn (sr ?_)))))
 have A300 := By269_b206.st p298 rfl
 refine lda' (es := [v203_0, (iI r203.1.Root)]) A300 u33 z33 rfl (Xb rfl (clV 74 rfl func14 rfl (laws_heldTree.calls (Tree.mk r297.2 r203.1.Root) (1 : Int) s298.w (mm [63] s298) v203_0 A298.rd) (fun r301 s302 p302 n302 => ?_)))
 refine Xb rfl (dn (sq (sr (Xb rfl (Xb rfl (dn (cd rfl (fun h303 => ?_) (fun h303 => ?_))))))))
 ·
  refine sr (Xb rfl (dn ?_))
  exact re rfl func3 rfl (Xq rfl Xf) rfl ⟨_, rfl, rfl, z.ky (Ky269.st (Xo p298 p302) rfl)⟩
 refine sk (sq (sr (Xb rfl (Xb rfl (Xb rfl (dn (cd rfl (fun h305 => ?_) (fun h305 => ?_))))))))
 ·
  refine sr (Xb rfl (dn ?_))
  exact re rfl func3 rfl (Xq rfl Xf) rfl ⟨_, rfl, rfl, z.ky (Ky269.st (Xo p298 p302) rfl)⟩
 refine sk (sq (zdraw [[], [0], [], [2, 1], [], [1, 3, 4, 3], [5], [6], [6], [], [9, 7, 5, 0, 1, 2, 3, 4, 5, 6, 7, 9], [8, 10, 0, 1, 2, 3, 4, 5, 6, 7, 8, 9, 10]] [some 99, some 100, some 101, some 102, some 103, some 104, some 98, some 105, some 106, some 17, none, some 18] [[3], [99], [4], [101], [2], [100, 102, 103], [104], [98], [98], [], [17, 105], [106]] [0, 1, 2, 3, 4, 5, 6, 7, 10, 8, 9, 11] ⟨by kernel_rfl, by kernel_rfl, by kernel_rfl⟩ (by kernel_rfl) (fun s307 p307 l307 tb307 zd307 => ?_)))
 refine ji [11] (fun (y313 : (List Node) × Int × Bool) e w => ∃ (s : St) (e0 : Env) (vy313_0 : Value) (by313_0 : Nat), w = s.w ∧ e = upd (upd (upd (upd (upd (upd e0 8 (pB by27_0)) 9 (.bool y27.2.2)) 12 (pB b206)) 15 (iI r297.1)) 17 (pB by313_0)) 106 (.bool y313.2.2) ∧ Kp s0 s ∧ OwF Yb s [vy313_0] y313.1 75 ∧ BlF s b206 33 [v203_0, (iI r203.1.Root)] 64 ∧ BlF s by27_0 33 [vy27_0, (iI y27.2.1)] 45 ∧ BlF s by313_0 33 [vy313_0, (iI y313.2.1)] 76 ∧ OwF Yb s [v203_0] r297.2 63 ∧ RdF Yb s [vy27_0] y27.1 [44]) (fun Gj313 Kj313 => ?_) ?_
 ·
  refine zstep2 1 9 [some 103, some 101] [some 103, some 101, some 99] tb307 (((zd307.add 0 99 (.agg #[w0_0, (iI a0.Root)]) rfl).add 2 101 (.agg #[(iI a1.Kind), (iI a1.N), w1_0, w1_1]) rfl).add 4 103 (iI a2) rfl) (Xa (Xc rfl) rfl (Xa (Xs (es := [(iI a1.Kind), (iI a1.N), w1_0, w1_1]) (By269_b5.st (tr3 p298 p302 p307) rfl) u28 z28 rfl) rfl (Xa (Xs (es := [w0_0, (iI a0.Root)]) (By269_b3.st (tr3 p298 p302 p307) rfl) u24 z24 rfl) rfl Xh))) (by kernel_rfl) (by kernel_rfl) (fun l314 e314 zd314 => ?_) (fun l315 e315 zd315 => ?_)
  ·
   have K318 := Ky269.st (tr3 p298 p302 p307) rfl
   refine cl' rfl func7 rfl (laws_toTree.calls a0 s307.w (mm [0] s307) w0_0 (A0_0.kp K318)) ?_
   rintro r320 _ w320 m320 ⟨v320_0, rfl, f320_0, ky320⟩
   obtain ⟨s321, rfl, p321, n321⟩ := nwx s307 w320 77 ky320
   have Au320_0_0 := ap33 (f320_0.c n321)
   refine Xr (L' := [4, 2]) (D' := [0, 1]) zd314 rfl rfl rfl (fun zd323 => ?_)
   refine zstep2 3 9 [some 103] [some 103, some 101] tb307 zd323 (Xa (Xc rfl) rfl (Xa (Xs (es := [(iI a1.Kind), (iI a1.N), w1_0, w1_1]) (By269_b5.st (tr4 p298 p302 p307 p321) rfl) u28 z28 rfl) rfl Xh)) (by kernel_rfl) (by kernel_rfl) (fun l324 e324 zd324 => ?_) (fun l325 e325 zd325 => ?_)
   ·
    have K327 := K318.st p321 rfl
    refine cl' rfl func8 rfl (laws_toItem.calls a1 s321.w (mm [0] s321) w1_0 w1_1 ((Xi (s := s321) A1_0).sub (D := [0]) rfl) (A1_1.kp K327)) ?_
    rintro r329 _ w329 m329 ⟨v329_0, v329_1, rfl, f329_0, ky329⟩
    obtain ⟨s330, rfl, p330, n330⟩ := nwx s321 w329 78 ky329
    obtain ⟨hu329_0_0, Au329_0_1⟩ := ap37 (f329_0.c n330)
    refine Xr (L' := [4]) (D' := [2, 3, 0, 1]) zd324 rfl rfl rfl (fun zd332 => ?_)
    refine zstep2 5 9 [] [some 103] tb307 zd332 (Xa (Xc rfl) rfl Xh) (by kernel_rfl) (by kernel_rfl) (fun l333 e333 zd333 => ?_) (fun l334 e334 zd334 => ?_)
    ·
     refine cl' rfl func9 rfl (impl_TreeDrop.calls r320 r329 a2 s330.w (mm [77, 78] s330) v320_0 v329_0 v329_1 ((Au320_0_0.st p330 rfl).rd.sub (D := [77, 78]) rfl) ((Xi (s := s330) hu329_0_0).sub (D := [77, 78]) rfl) (Au329_0_1.rd.sub (D := [77, 78]) rfl)) ?_
     rintro r336 _ w336 m336 ⟨v336_0, rfl, f336_0, ky336⟩
     obtain ⟨s337, rfl, p337, n337⟩ := nwx s330 w336 79 ky336
     refine Xr (L' := []) (D' := [4, 5, 2, 3, 0, 1]) zd333 rfl rfl rfl (fun zd339 => ?_)
     refine Xt 9 [some 106, some 105, some 98] tb307 (((zd339.add 6 98 (.tuple #[(.agg #[v336_0, (iI r336.1.Root)]), (.bool r336.2)]) rfl).add 7 105 (.agg #[v336_0, (iI r336.1.Root)]) rfl).add 8 106 (.bool r336.2) rfl) (Xa (Xc (v := (.bool r336.2)) rfl) rfl (Xa (Xc (v := (.agg #[v336_0, (iI r336.1.Root)])) rfl) rfl (Xa (Xc rfl) rfl Xh))) (by kernel_rfl) rfl (fun l343 e343 zd343 => ?_)
     refine al' (cs := [(.slice none 0 0), (iI 0)]) 80 rfl o33 rfl (fun b344 s344 p344 B344 => ?_)
     refine Xr (L' := [8, 7, 6]) (D' := [9, 4, 5, 2, 3, 0, 1]) zd343 rfl rfl rfl (fun zd346 => ?_)
     refine Xt 10 [some 106] tb307 zd346 (Xa (Xc (v := (.bool r336.2)) rfl) rfl (Xa (Xc (v := (.agg #[v336_0, (iI r336.1.Root)])) rfl) rfl (Xa (Xc rfl) rfl Xh))) (by kernel_rfl) rfl (fun l347 e347 zd347 => ?_)
     have A348 := (ap33 (f336_0.c n337)).st p344 rfl
     refine sva' (vs := [v336_0, (iI r336.1.Root)]) B344 z33 rfl (Xg A348.rd.one (Xg rfl Xu)) rfl (fun s349 p349 B349 => ?_)
     refine zdone0 (L' := [8]) (D' := [7, 6, 7, 10, 9, 4, 5, 2, 3, 0, 1]) zd347 rfl rfl rfl (fun zd351 => ?_)
     refine Xx [11] tb307 zd351 (Xa (Xc (v := (.bool r336.2)) rfl) rfl Xh) (by kernel_rfl) (by decide) ?_
     obtain ⟨s352, hw352, p352, D352⟩ := BlF.rc B349 76 rfl
     rw [hw352]
     obtain ⟨s355, hw355, p355, A355⟩ := (A348.st (Xo p349 p352) rfl).rc 75 rfl
     rw [hw355]
     exact Kj313 _ _ _ ⟨s355, _, v336_0, b344, rfl, (ue (ue (ue (ue (ue (ue rfl rfl) rfl) rfl) rfl) rfl) rfl), (K327.st (tr6 p330 p337 p344 p349 p352 p355) rfl), A355, (A300.st (tr9 p302 p307 p321 p330 p337 p344 p349 p352 p355) rfl), (By269_by27_0.st (tr10 p298 p302 p307 p321 p330 p337 p344 p349 p352 p355) rfl), (D352.st p355 rfl), (A298.st (tr9 p302 p307 p321 p330 p337 p344 p349 p352 p355) rfl), (Cy269_176.st (tr10 p298 p302 p307 p321 p330 p337 p344 p349 p352 p355) rfl)⟩
    refine al' (cs := [(.slice none 0 0), (iI 0)]) 81 rfl o33 rfl (fun b362 s362 p362 B362 => ?_)
    refine Xr (L' := [4]) (D' := [9, 2, 3, 0, 1]) zd334 rfl rfl rfl (fun zd364 => ?_)
    refine Xt 5 [] tb307 zd364 (Xa (Xc rfl) rfl Xh) (by kernel_rfl) rfl (fun l365 e365 zd365 => ?_)
    refine cl' rfl func9 rfl (impl_TreeDrop.calls r320 r329 a2 s362.w (mm [77, 78] s362) v320_0 v329_0 v329_1 ((Au320_0_0.st (Xo p330 p362) rfl).rd.sub (D := [77, 78]) rfl) ((Xi (s := s362) hu329_0_0).sub (D := [77, 78]) rfl) ((Au329_0_1.st p362 rfl).rd.sub (D := [77, 78]) rfl)) ?_
    rintro r368 _ w368 m368 ⟨v368_0, rfl, f368_0, ky368⟩
    obtain ⟨s369, rfl, p369, n369⟩ := nwx s362 w368 82 ky368
    have Au368_0_0 := ap33 (f368_0.c n369)
    refine Xr (L' := []) (D' := [4, 5, 9, 2, 3, 0, 1]) zd365 rfl rfl rfl (fun zd371 => ?_)
    refine Xt 10 [some 106] tb307 (((zd371.add 6 98 (.tuple #[(.agg #[v368_0, (iI r368.1.Root)]), (.bool r368.2)]) rfl).add 7 105 (.agg #[v368_0, (iI r368.1.Root)]) rfl).add 8 106 (.bool r368.2) rfl) (Xa (Xc (v := (.bool r368.2)) rfl) rfl (Xa (Xc (v := (.agg #[v368_0, (iI r368.1.Root)])) rfl) rfl (Xa (Xc rfl) rfl Xh))) (by kernel_rfl) rfl (fun l375 e375 zd375 => ?_)
    refine sva' (vs := [v368_0, (iI r368.1.Root)]) (B362.st p369 rfl) z33 rfl (Xg Au368_0_0.rd.one (Xg rfl Xu)) rfl (fun s377 p377 B377 => ?_)
    refine zdone0 (L' := [8]) (D' := [7, 6, 7, 10, 4, 5, 9, 2, 3, 0, 1]) zd375 rfl rfl rfl (fun zd379 => ?_)
    refine Xx [11] tb307 zd379 (Xa (Xc (v := (.bool r368.2)) rfl) rfl Xh) (by kernel_rfl) (by decide) ?_
    obtain ⟨s380, hw380, p380, D380⟩ := BlF.rc B377 76 rfl
    rw [hw380]
    obtain ⟨s383, hw383, p383, A383⟩ := (Au368_0_0.st (Xo p377 p380) rfl).rc 75 rfl
    rw [hw383]
    exact Kj313 _ _ _ ⟨s383, _, v368_0, b362, rfl, (ue (ue (ue (ue (ue (ue rfl rfl) rfl) rfl) rfl) rfl) rfl), (K327.st (tr6 p330 p362 p369 p377 p380 p383) rfl), A383, (A300.st (tr9 p302 p307 p321 p330 p362 p369 p377 p380 p383) rfl), (By269_by27_0.st (tr10 p298 p302 p307 p321 p330 p362 p369 p377 p380 p383) rfl), (D380.st p383 rfl), (A298.st (tr9 p302 p307 p321 p330 p362 p369 p377 p380 p383) rfl), (Cy269_176.st (tr10 p298 p302 p307 p321 p330 p362 p369 p377 p380 p383) rfl)⟩
   refine al' (cs := [(.slice none 0 0), (iI 0)]) 83 rfl o33 rfl (fun b390 s390 p390 B390 => ?_)
   refine Xr (L' := [4, 2]) (D' := [9, 0, 1]) zd325 rfl rfl rfl (fun zd392 => ?_)
   refine Xt 3 [some 103] tb307 zd392 (Xa (Xc rfl) rfl (Xa (Xs (es := [(iI a1.Kind), (iI a1.N), w1_0, w1_1]) (By269_b5.st (tr5 p298 p302 p307 p321 p390) rfl) u28 z28 rfl) rfl Xh)) (by kernel_rfl) rfl (fun l393 e393 zd393 => ?_)
   have K395 := K318.st (Xo p321 p390) rfl
   refine cl' rfl func8 rfl (laws_toItem.calls a1 s390.w (mm [0] s390) w1_0 w1_1 ((Xi (s := s390) A1_0).sub (D := [0]) rfl) (A1_1.kp K395)) ?_
   rintro r397 _ w397 m397 ⟨v397_0, v397_1, rfl, f397_0, ky397⟩
   obtain ⟨s398, rfl, p398, n398⟩ := nwx s390 w397 84 ky397
   obtain ⟨hu397_0_0, Au397_0_1⟩ := ap37 (f397_0.c n398)
   refine Xr (L' := [4]) (D' := [2, 3, 9, 0, 1]) zd393 rfl rfl rfl (fun zd400 => ?_)
   refine Xt 5 [] tb307 zd400 (Xa (Xc rfl) rfl Xh) (by kernel_rfl) rfl (fun l401 e401 zd401 => ?_)
   refine cl' rfl func9 rfl (impl_TreeDrop.calls r320 r397 a2 s398.w (mm [77, 84] s398) v320_0 v397_0 v397_1 ((Au320_0_0.st (Xo p390 p398) rfl).rd.sub (D := [77, 84]) rfl) ((Xi (s := s398) hu397_0_0).sub (D := [77, 84]) rfl) (Au397_0_1.rd.sub (D := [77, 84]) rfl)) ?_
   rintro r403 _ w403 m403 ⟨v403_0, rfl, f403_0, ky403⟩
   obtain ⟨s404, rfl, p404, n404⟩ := nwx s398 w403 85 ky403
   have Au403_0_0 := ap33 (f403_0.c n404)
   refine Xr (L' := []) (D' := [4, 5, 2, 3, 9, 0, 1]) zd401 rfl rfl rfl (fun zd406 => ?_)
   refine Xt 10 [some 106] tb307 (((zd406.add 6 98 (.tuple #[(.agg #[v403_0, (iI r403.1.Root)]), (.bool r403.2)]) rfl).add 7 105 (.agg #[v403_0, (iI r403.1.Root)]) rfl).add 8 106 (.bool r403.2) rfl) (Xa (Xc (v := (.bool r403.2)) rfl) rfl (Xa (Xc (v := (.agg #[v403_0, (iI r403.1.Root)])) rfl) rfl (Xa (Xc rfl) rfl Xh))) (by kernel_rfl) rfl (fun l410 e410 zd410 => ?_)
   refine sva' (vs := [v403_0, (iI r403.1.Root)]) (B390.st (Xo p398 p404) rfl) z33 rfl (Xg Au403_0_0.rd.one (Xg rfl Xu)) rfl (fun s412 p412 B412 => ?_)
   refine zdone0 (L' := [8]) (D' := [7, 6, 7, 10, 4, 5, 2, 3, 9, 0, 1]) zd410 rfl rfl rfl (fun zd414 => ?_)
   refine Xx [11] tb307 zd414 (Xa (Xc (v := (.bool r403.2)) rfl) rfl Xh) (by kernel_rfl) (by decide) ?_
   obtain ⟨s415, hw415, p415, D415⟩ := BlF.rc B412 76 rfl
   rw [hw415]
   obtain ⟨s418, hw418, p418, A418⟩ := (Au403_0_0.st (Xo p412 p415) rfl).rc 75 rfl
   rw [hw418]
   exact Kj313 _ _ _ ⟨s418, _, v403_0, b390, rfl, (ue (ue (ue (ue (ue (ue rfl rfl) rfl) rfl) rfl) rfl) rfl), (K395.st (tr5 p398 p404 p412 p415 p418) rfl), A418, (A300.st (tr9 p302 p307 p321 p390 p398 p404 p412 p415 p418) rfl), (By269_by27_0.st (tr10 p298 p302 p307 p321 p390 p398 p404 p412 p415 p418) rfl), (D415.st p418 rfl), (A298.st (tr9 p302 p307 p321 p390 p398 p404 p412 p415 p418) rfl), (Cy269_176.st (tr10 p298 p302 p307 p321 p390 p398 p404 p412 p415 p418) rfl)⟩
  refine al' (cs := [(.slice none 0 0), (iI 0)]) 86 rfl o33 rfl (fun b425 s425 p425 B425 => ?_)
  refine Xr (L' := [4, 2, 0]) (D' := [9]) zd315 rfl rfl rfl (fun zd427 => ?_)
  refine Xt 1 [some 103, some 101] tb307 zd427 (Xa (Xc rfl) rfl (Xa (Xs (es := [(iI a1.Kind), (iI a1.N), w1_0, w1_1]) (By269_b5.st (tr4 p298 p302 p307 p425) rfl) u28 z28 rfl) rfl (Xa (Xs (es := [w0_0, (iI a0.Root)]) (By269_b3.st (tr4 p298 p302 p307 p425) rfl) u24 z24 rfl) rfl Xh))) (by kernel_rfl) rfl (fun l428 e428 zd428 => ?_)
  have K431 := Ky269.st (tr4 p298 p302 p307 p425) rfl
  refine cl' rfl func7 rfl (laws_toTree.calls a0 s425.w (mm [0] s425) w0_0 (A0_0.kp K431)) ?_
  rintro r433 _ w433 m433 ⟨v433_0, rfl, f433_0, ky433⟩
  obtain ⟨s434, rfl, p434, n434⟩ := nwx s425 w433 87 ky433
  refine Xr (L' := [4, 2]) (D' := [0, 1, 9]) zd428 rfl rfl rfl (fun zd436 => ?_)
  refine Xt 3 [some 103] tb307 zd436 (Xa (Xc rfl) rfl (Xa (Xs (es := [(iI a1.Kind), (iI a1.N), w1_0, w1_1]) (By269_b5.st (tr5 p298 p302 p307 p425 p434) rfl) u28 z28 rfl) rfl Xh)) (by kernel_rfl) rfl (fun l437 e437 zd437 => ?_)
  have K439 := K431.st p434 rfl
  refine cl' rfl func8 rfl (laws_toItem.calls a1 s434.w (mm [0] s434) w1_0 w1_1 ((Xi (s := s434) A1_0).sub (D := [0]) rfl) (A1_1.kp K439)) ?_
  rintro r441 _ w441 m441 ⟨v441_0, v441_1, rfl, f441_0, ky441⟩
  obtain ⟨s442, rfl, p442, n442⟩ := nwx s434 w441 88 ky441
  obtain ⟨hu441_0_0, Au441_0_1⟩ := ap37 (f441_0.c n442)
  refine Xr (L' := [4]) (D' := [2, 3, 0, 1, 9]) zd437 rfl rfl rfl (fun zd444 => ?_)
  refine Xt 5 [] tb307 zd444 (Xa (Xc rfl) rfl Xh) (by kernel_rfl) rfl (fun l445 e445 zd445 => ?_)
  refine cl' rfl func9 rfl (impl_TreeDrop.calls r433 r441 a2 s442.w (mm [87, 88] s442) v433_0 v441_0 v441_1 (((ap33 (f433_0.c n434)).st p442 rfl).rd.sub (D := [87, 88]) rfl) ((Xi (s := s442) hu441_0_0).sub (D := [87, 88]) rfl) (Au441_0_1.rd.sub (D := [87, 88]) rfl)) ?_
  rintro r447 _ w447 m447 ⟨v447_0, rfl, f447_0, ky447⟩
  obtain ⟨s448, rfl, p448, n448⟩ := nwx s442 w447 89 ky447
  have Au447_0_0 := ap33 (f447_0.c n448)
  refine Xr (L' := []) (D' := [4, 5, 2, 3, 0, 1, 9]) zd445 rfl rfl rfl (fun zd450 => ?_)
  refine Xt 10 [some 106] tb307 (((zd450.add 6 98 (.tuple #[(.agg #[v447_0, (iI r447.1.Root)]), (.bool r447.2)]) rfl).add 7 105 (.agg #[v447_0, (iI r447.1.Root)]) rfl).add 8 106 (.bool r447.2) rfl) (Xa (Xc (v := (.bool r447.2)) rfl) rfl (Xa (Xc (v := (.agg #[v447_0, (iI r447.1.Root)])) rfl) rfl (Xa (Xc rfl) rfl Xh))) (by kernel_rfl) rfl (fun l454 e454 zd454 => ?_)
  refine sva' (vs := [v447_0, (iI r447.1.Root)]) (B425.st (tr3 p434 p442 p448) rfl) z33 rfl (Xg Au447_0_0.rd.one (Xg rfl Xu)) rfl (fun s456 p456 B456 => ?_)
  refine zdone0 (L' := [8]) (D' := [7, 6, 7, 10, 4, 5, 2, 3, 0, 1, 9]) zd454 rfl rfl rfl (fun zd458 => ?_)
  refine Xx [11] tb307 zd458 (Xa (Xc (v := (.bool r447.2)) rfl) rfl Xh) (by kernel_rfl) (by decide) ?_
  obtain ⟨s459, hw459, p459, D459⟩ := BlF.rc B456 76 rfl
  rw [hw459]
  obtain ⟨s462, hw462, p462, A462⟩ := (Au447_0_0.st (Xo p456 p459) rfl).rc 75 rfl
  rw [hw462]
  exact Kj313 _ _ _ ⟨s462, _, v447_0, b425, rfl, (ue (ue (ue (ue (ue (ue rfl rfl) rfl) rfl) rfl) rfl) rfl), (K439.st (tr5 p442 p448 p456 p459 p462) rfl), A462, (A300.st (tr9 p302 p307 p425 p434 p442 p448 p456 p459 p462) rfl), (By269_by27_0.st (tr10 p298 p302 p307 p425 p434 p442 p448 p456 p459 p462) rfl), (D459.st p462 rfl), (A298.st (tr9 p302 p307 p425 p434 p442 p448 p456 p459 p462) rfl), (Cy269_176.st (tr10 p298 p302 p307 p425 p434 p442 p448 p456 p459 p462) rfl)⟩
 rintro y313 _ _ ⟨s469, _, vy313_0, by313_0, rfl, rfl, Ky313, Ay313_0, By313_b206, By313_by27_0, Dy313_0, Cy313_299, Cy313_176⟩
 refine Xb rfl (dn (sq (sr (lda' (es := [vy313_0, (iI y313.2.1)]) Dy313_0 u33 z33 rfl (lda' (es := [vy27_0, (iI y27.2.1)]) By313_by27_0 u33 z33 rfl (clV 90 rfl func10 rfl (laws_eqTree.calls (Tree.mk y313.1 y313.2.1) (Tree.mk y27.1 y27.2.1) s469.w (mm [75, 44] s469) vy313_0 vy27_0 (Ay313_0.rd.sub (D := [75, 44]) rfl) (Cy313_176.sub (D := [75, 44]) rfl)) (fun r474 s475 p475 n475 => ?_)))))))
 refine Xb rfl (Xb rfl (jy [111, 112, 113, 114, 115] [] 115 (.bool ((!r474) || (!(y313.2.2 == y27.2.2)))) rfl (fun Kg476 => ?_) (fun j476 => ?_)))
 ·
  rcases bft (!r474) with hb476 | hb476
  ·
   exact sbT hb476 (Xk rfl (Xk rfl (Xk rfl (Xb rfl (Kg476 _ (Ag.put ((Ag.put ((Ag.put ((Ag.put (Ag.base rfl) rfl)) rfl)) rfl)) rfl) (by rw [hb476]; rfl))))))
  exact sbT hb476 (Xb rfl (Xb rfl (bne_ u4 rfl rfl rfl rfl rfl rfl rfl (Xb rfl (Kg476 _ (Ag.put ((Ag.put ((Ag.put ((Ag.put (Ag.base rfl) rfl)) rfl)) rfl)) rfl) (by rw [hb476]; rfl))))))
 refine dn (cd rfl (fun h477 => ?_) (fun h477 => ?_))
 ·
  refine sr (Xb rfl (dn ?_))
  exact re rfl func3 rfl (Xq rfl Xf) rfl ⟨_, rfl, rfl, z.ky (Ky313.st p475 rfl)⟩
 refine sk (sr (Xb rfl (dn (sr ?_))))
 refine lda' (es := [v203_0, (iI r203.1.Root)]) (By313_b206.st p475 rfl) u33 z33 rfl (Xb rfl ?_)
 refine clV 91 rfl func14 rfl (laws_heldTree.calls (Tree.mk r297.2 r203.1.Root) (1 : Int) s475.w (mm [63] s475) v203_0 (Cy313_299.st p475 rfl).rd) (fun r481 s482 p482 n482 => ?_)
 refine Xb rfl (dn (sq (sr (Xb rfl (Xb rfl (dn (cd rfl (fun h483 => ?_) (fun h483 => ?_))))))))
 ·
  refine sr (Xb rfl (dn ?_))
  exact re rfl func3 rfl (Xq rfl Xf) rfl ⟨_, rfl, rfl, z.ky (Ky313.st (Xo p475 p482) rfl)⟩
 refine sk (sq (sr (Xb rfl (Xb rfl (Xb rfl (dn (cd rfl (fun h485 => ?_) (fun h485 => ?_))))))))
 ·
  refine sr (Xb rfl (dn ?_))
  exact re rfl func3 rfl (Xq rfl Xf) rfl ⟨_, rfl, rfl, z.ky (Ky313.st (Xo p475 p482) rfl)⟩
 refine sk (sr (Xb rfl (dn ?_)))
 exact re rfl func3 rfl (Xq rfl Xf) rfl ⟨_, rfl, rfl, z.ky (Ky313.st (Xo p475 p482) rfl)⟩
end Go.Proofs.Ytlpbggnpiogioaa
