/- The functions as models, and that the calls come to what the models tell. -/
import Derived.Test.YtegicanjlefmdaaGreatGsb
set_option linter.unusedVariables false
set_option linter.unusedSimpArgs false
set_option maxHeartbeats 4000000
set_option maxRecDepth 100000
noncomputable section
namespace Go.Proofs.YtegicanjlefmdaaGreat
open Go V Tryz
def impl_TupleBytes.f (a0 : Tuple) : Option ((List Int)) :=
 ((impl_TupleOk.f a0).bind fun r8 => (if (!r8) = true then (some ([] : (List Int))) else ((impl_KeyBytes.f a0.Key).bind fun r24 => ((impl_ValueBytes.f a0.Value).bind fun r31 => (((impl_PutNum.f a0.Xmin (4 : Int)).bind fun r59 => ((impl_PutNum.f a0.Xmax (4 : Int)).bind fun r69 => (some (r59, r69, [(IntKind.wrap .u8 (r24.length : Int))], [(IntKind.wrap .u8 (r31.length : Int))])))).bind fun y51 => ((slices_Concat_byte_byte.f ([y51.1, y51.2.1, y51.2.2.1, r24, y51.2.2.2, r31])).bind fun r428 => (some r428)))))))
def impl_TupleBytes.Q (w : World) (F : Nat → Prop) (r : (List Int)) (v : Value) (w' : World) : Prop :=
 FO Yr w w' [v] r ∧ Ky [] w w'
theorem impl_TupleBytes.calls (a0 : Tuple) (w : World) (F : Nat → Prop) (w0_0 : Value) (w0_1 : Value) (w0_2 : Value) (w0_3 : Value) (h0_0 : Kd.flt.rd w [w0_0] a0.Key.F F) (h0_1 : Yr.rd w [w0_1] a0.Key.T F) (h0_2 : Kd.flt.rd w [w0_2] a0.Value.F F) (h0_3 : Yr.rd w [w0_3] a0.Value.T F) (r : (List Int)) (m : impl_TupleBytes.f a0 = some r) :
  Calls prog 81 #[(.agg #[(iI a0.Xmin), (iI a0.Xmax), (iI a0.Key.Kind), (iI a0.Key.N), w0_0, w0_1, (iI a0.Value.Kind), (iI a0.Value.N), w0_2, w0_3])] w (RT (impl_TupleBytes.Q w F) r) := by
 obtain ⟨s0, rfl, kp0, z⟩ := Xl w F
 have A0_0 := Yq h0_0
 have A0_1 := z.rd h0_1
 have A0_2 := Yq h0_2
 have A0_3 := z.rd h0_3
 refine Xd (args := [(.agg #[(iI a0.Xmin), (iI a0.Xmax), (iI a0.Key.Kind), (iI a0.Key.N), w0_0, w0_1, (iI a0.Value.Kind), (iI a0.Value.N), w0_2, w0_3])]) func81 ntmps81 rfl m ?_
 unfold impl_TupleBytes.f
 refine sr (bx' (cs := [(iI a0.Xmin), (iI a0.Xmax), (iI a0.Key.Kind), (iI a0.Key.N), w0_0, w0_1, (iI a0.Value.Kind), (iI a0.Value.N), w0_2, w0_3]) 40 rfl rfl (fun b3 s3 p3 B3 => ?_))
 refine Xc rfl (dn (sq (sr (Ya (es := [(iI a0.Xmin), (iI a0.Xmax), (iI a0.Key.Kind), (iI a0.Key.N), w0_0, w0_1, (iI a0.Value.Kind), (iI a0.Value.N), w0_2, w0_3]) B3 u31 z31 rfl ?_))))
 have K5 := kp0.st p3 rfl
 refine Yn 41 rfl func79 rfl (impl_TupleOk.calls a0 s3.w (mm [0] s3) w0_0 w0_1 w0_2 w0_3 ((Xq (s := s3) A0_0).sub (D := [0]) rfl) (A0_1.kp K5) ((Xq (s := s3) A0_2).sub (D := [0]) rfl) (A0_3.kp K5)) (fun r8 s9 p9 n9 => ?_)
 refine Xc rfl (dn (cd rfl (fun h10 => ?_) (fun h10 => ?_)))
 ·
  refine sr (Xc rfl (dn ?_))
  have K11 := K5.st p9 rfl
  exact re rfl func81 rfl (Xu rfl Xe) rfl ⟨_, rfl, (Ym 5 (Kd.int .u8) s9 40).fo K11 rfl z.l, z.ky K11⟩
 refine sk (sq (zdraw [[], [0], [1], [], [3], [4, 2], [2, 5, 0, 1, 2], [5, 6, 0, 1, 2, 3, 4, 5, 6]] [some 8, some 9, some 10, some 11, some 12, some 13, some 3, some 4] [[1], [8], [9], [1], [11], [12], [10], [13]] [0, 1, 2, 3, 4, 5, 6, 7] ⟨by kernel_rfl, by kernel_rfl, by kernel_rfl⟩ (by kernel_rfl) (fun s12 p12 l12 tb12 zd12 => ?_)))
 refine Xt 2 [some 12, some 11] tb12 ((((zd12.add 0 8 (pO b3 2) rfl).add 1 9 (.agg #[(iI a0.Key.Kind), (iI a0.Key.N), w0_0, w0_1]) rfl).add 3 11 (pO b3 6) rfl).add 4 12 (.agg #[(iI a0.Value.Kind), (iI a0.Value.N), w0_2, w0_3]) rfl) (Xa (Yg (es := [(iI a0.Value.Kind), (iI a0.Value.N), w0_2, w0_3]) (B3.st (Xn p9 p12) rfl) u29 z29 rfl) rfl (Xa (Xo fa31_3 rfl) rfl (Xa (Yg (es := [(iI a0.Key.Kind), (iI a0.Key.N), w0_0, w0_1]) (B3.st (Xn p9 p12) rfl) u29 z29 rfl) rfl (Xa (Xo fa31_2 rfl) rfl Xg)))) (by kernel_rfl) rfl (fun l19 e19 zd19 => ?_)
 have K22 := K5.st (Xn p9 p12) rfl
 refine clO 42 rfl func172 rfl (impl_KeyBytes.calls a0.Key s12.w (mm [0] s12) w0_0 w0_1 ((Xq (s := s12) A0_0).sub (D := [0]) rfl) (A0_1.kp K22)) (fun r24 v24_0 s25 p25 A24_0 => ?_)
 refine Xm (L' := [4, 3]) (D' := [0, 1, 2]) zd19 rfl (fun zd27 => ?_)
 refine Yp [5, 6, 7] tb12 zd27 (Xa (Yg (es := [(iI a0.Value.Kind), (iI a0.Value.N), w0_2, w0_3]) (B3.st (Yi p9 p12 p25) rfl) u29 z29 rfl) rfl (Xa (Xo fa31_3 rfl) rfl Xg)) (by kernel_rfl) (by decide) ?_
 have K29 := K22.st p25 rfl
 refine clO 43 rfl func173 rfl (impl_ValueBytes.calls a0.Value s25.w (mm [0] s25) w0_2 w0_3 ((Xq (s := s25) A0_2).sub (D := [0]) rfl) (A0_3.kp K29)) (fun r31 v31_0 s32 p32 A31_0 => ?_)
 refine Yh v24_0 rfl (Yh v31_0 rfl (dn (sq (zdraw [[], [0], [1], [], [3], [4, 2], [], [6], [7], [8], [], [], [11], [12], [13], [], [2, 5, 9, 10, 14, 15], [16, 5], [17, 17, 0, 1, 2, 3, 4, 5, 6, 7, 8, 9, 10, 11, 12, 13, 14, 15, 16, 17]] [some 14, some 15, some 16, some 17, some 18, some 19, some 20, some 21, some 22, some 23, some 24, some 25, some 26, some 27, some 28, some 29, some 30, some 31, some 2] [[1], [14], [15], [1], [17], [18], [3], [20], [21], [22], [3], [4], [25], [26], [27], [4], [16, 19, 23, 24, 28, 29], [30], [31]] [0, 1, 2, 3, 4, 5, 6, 7, 8, 9, 10, 11, 12, 13, 14, 15, 16, 17, 18] ⟨by kernel_rfl, by kernel_rfl, by kernel_rfl⟩ (by kernel_rfl) (fun s34 p34 l34 tb34 zd34 => ?_)))))
 have zd35 := zd34.add 0 14 (pB b3) rfl
 refine ji [16, 17, 18] (fun (y51 : (List Int) × (List Int) × (List Int) × (List Int)) e w => ∃ (s : St) (e0 : Env) (vy51_0 vy51_1 vy51_2 vy51_3 : Value), w = s.w ∧ e = upd (upd (upd (upd (upd (upd e0 16 vy51_0) 19 vy51_1) 23 vy51_2) 24 v24_0) 28 vy51_3) 29 v31_0 ∧ Kp s0 s ∧ OwF Yr s [vy51_0] y51.1 44 ∧ OwF Yr s [vy51_1] y51.2.1 45 ∧ OwF Yr s [vy51_2] y51.2.2.1 46 ∧ OwF Yr s [vy51_3] y51.2.2.2 47 ∧ OwF Yr s [v24_0] r24 42 ∧ OwF Yr s [v31_0] r31 43) (fun Gj51 Kj51 => ?_) ?_
 ·
  refine zstep3 2 9 14 [some 29, some 27, some 26, some 25, some 24, some 22, some 21, some 20, some 18, some 17] [some 29, some 27, some 26, some 25, some 24, some 18, some 17, some 15, some 14] [some 29, some 24, some 22, some 21, some 20, some 18, some 17, some 15, some 14] tb34 (((((((((((zd35.add 1 15 (iI a0.Xmin) rfl).add 3 17 (pO b3 1) rfl).add 4 18 (iI a0.Xmax) rfl).add 6 20 v24_0 rfl).add 7 21 (iI (r24.length : Int)) rfl).add 8 22 (.int .u8 (IntKind.wrap .u8 (r24.length : Int))) rfl).add 10 24 v24_0 rfl).add 11 25 v31_0 rfl).add 12 26 (iI (r31.length : Int)) rfl).add 13 27 (.int .u8 (IntKind.wrap .u8 (r31.length : Int))) rfl).add 15 29 v31_0 rfl) (Xa (Xr v31_0 rfl) rfl (Xa (cv_q u5 u3 rfl rfl rfl rfl rfl rfl) rfl (Xa (ln_q' (A31_0.st p34 rfl).rd u22 rfl) rfl (Xa (Xr v31_0 rfl) rfl (Xa (Xr v24_0 rfl) rfl (Xa (cv_q u5 u3 rfl rfl rfl rfl rfl rfl) rfl (Xa (ln_q' (A24_0.st (Xn p32 p34) rfl).rd u22 rfl) rfl (Xa (Xr v24_0 rfl) rfl (Xa (Xp (B3.st (tr5 p9 p12 p25 p32 p34) rfl) u3 rfl) rfl (Xa (Xo fa31_1 rfl) rfl (Xa (Xp (B3.st (tr5 p9 p12 p25 p32 p34) rfl) u3 rfl) rfl (Xa (Xo fa31_0 rfl) rfl Xg)))))))))))) (by kernel_rfl) (by kernel_rfl) (fun l52 e52 zd52 => ?_) (fun l53 e53 zd53 => ?_) (fun l54 e54 zd54 => ?_)
  ·
   refine clO 48 rfl func175 rfl (impl_PutNum.calls a0.Xmin (4 : Int) s34.w (mm [] s34)) (fun r59 v59_0 s60 p60 A59_0 => ?_)
   refine Xm (L' := [15, 13, 12, 11, 10, 8, 7, 6, 4, 3]) (D' := [0, 1, 2]) zd52 rfl (fun zd62 => ?_)
   refine zstep3 5 9 14 [some 29, some 27, some 26, some 25, some 24, some 22, some 21, some 20] [some 29, some 27, some 26, some 25, some 24, some 18, some 17] [some 29, some 24, some 22, some 21, some 20, some 18, some 17] tb34 zd62 (Xa (Xr v31_0 rfl) rfl (Xa (cv_q u5 u3 rfl rfl rfl rfl rfl rfl) rfl (Xa (ln_q' (A31_0.st (Xn p34 p60) rfl).rd u22 rfl) rfl (Xa (Xr v31_0 rfl) rfl (Xa (Xr v24_0 rfl) rfl (Xa (cv_q u5 u3 rfl rfl rfl rfl rfl rfl) rfl (Xa (ln_q' (A24_0.st (Yi p32 p34 p60) rfl).rd u22 rfl) rfl (Xa (Xr v24_0 rfl) rfl (Xa (Xp (B3.st (tr6 p9 p12 p25 p32 p34 p60) rfl) u3 rfl) rfl (Xa (Xo fa31_1 rfl) rfl Xg)))))))))) (by kernel_rfl) (by kernel_rfl) (fun l63 e63 zd63 => ?_) (fun l64 e64 zd64 => ?_) (fun l65 e65 zd65 => ?_)
   ·
    refine clO 49 rfl func175 rfl (impl_PutNum.calls a0.Xmax (4 : Int) s60.w (mm [] s60)) (fun r69 v69_0 s70 p70 A69_0 => ?_)
    refine Xm (L' := [15, 13, 12, 11, 10, 8, 7, 6]) (D' := [3, 4, 5, 0, 1, 2]) zd63 rfl (fun zd72 => ?_)
    refine zstep2 9 14 [some 29, some 27, some 26, some 25, some 24] [some 29, some 24, some 22, some 21, some 20] tb34 zd72 (Xa (Xr v31_0 rfl) rfl (Xa (cv_q u5 u3 rfl rfl rfl rfl rfl rfl) rfl (Xa (ln_q' (A31_0.st (Yi p34 p60 p70) rfl).rd u22 rfl) rfl (Xa (Xr v31_0 rfl) rfl (Xa (Xr v24_0 rfl) rfl (Xa (cv_q u5 u3 rfl rfl rfl rfl rfl rfl) rfl (Xa (ln_q' (A24_0.st (Yo p32 p34 p60 p70) rfl).rd u22 rfl) rfl (Xa (Xr v24_0 rfl) rfl Xg)))))))) (by kernel_rfl) (by kernel_rfl) (fun l73 e73 zd73 => ?_) (fun l74 e74 zd74 => ?_)
    ·
     refine ltF' (K := (Kd.int .u8)) (cells := [(.int .u8 (IntKind.wrap .u8 (r24.length : Int)))]) [(IntKind.wrap .u8 (r24.length : Int))] 50 Xv u22 z5 o5 (fun w => (Yd _ _ _)) rfl (fun v77 s77 p77 A77 => ?_)
     refine Xm (L' := [15, 13, 12, 11, 10]) (D' := [6, 7, 8, 9, 3, 4, 5, 0, 1, 2]) zd73 rfl (fun zd79 => ?_)
     refine Xt 14 [some 29, some 24] tb34 zd79 (Xa (Xr v31_0 rfl) rfl (Xa (cv_q u5 u3 rfl rfl rfl rfl rfl rfl) rfl (Xa (ln_q' (A31_0.st (Yo p34 p60 p70 p77) rfl).rd u22 rfl) rfl (Xa (Xr v31_0 rfl) rfl (Xa (Xr v24_0 rfl) rfl Xg))))) (by kernel_rfl) rfl (fun l80 e80 zd80 => ?_)
     refine ltF' (K := (Kd.int .u8)) (cells := [(.int .u8 (IntKind.wrap .u8 (r31.length : Int)))]) [(IntKind.wrap .u8 (r31.length : Int))] 51 Xv u22 z5 o5 (fun w => (Yd _ _ _)) rfl (fun v82 s82 p82 A82 => ?_)
     refine Xm (L' := [15, 10]) (D' := [11, 12, 13, 14, 6, 7, 8, 9, 3, 4, 5, 0, 1, 2]) zd80 rfl (fun zd84 => ?_)
     refine Yp [16, 17, 18] tb34 zd84 (Xa (Xr v31_0 rfl) rfl (Xa (Xr v24_0 rfl) rfl Xg)) (by kernel_rfl) (by decide) ?_
     obtain ⟨s86, hw86, p86, A86⟩ := (A59_0.st (Yi p70 p77 p82) rfl).rc 44 rfl
     rw [hw86]
     obtain ⟨s88, hw88, p88, A88⟩ := (A69_0.st (Yi p77 p82 p86) rfl).rc 45 rfl
     rw [hw88]
     obtain ⟨s90, hw90, p90, A90⟩ := (A77.st (Yi p82 p86 p88) rfl).rc 46 rfl
     rw [hw90]
     obtain ⟨s92, hw92, p92, A92⟩ := (A82.st (Yi p86 p88 p90) rfl).rc 47 rfl
     rw [hw92]
     exact Kj51 _ _ _ ⟨s92, _, v59_0, v69_0, v77, v82, rfl, (ue (ue (ue (ue (ue (ue rfl rfl) rfl) rfl) rfl) rfl) rfl), (K29.st (tr10 p32 p34 p60 p70 p77 p82 p86 p88 p90 p92) rfl), (A86.st (Yi p88 p90 p92) rfl), (A88.st (Xn p90 p92) rfl), (A90.st p92 rfl), A92, (A24_0.st (tr10 p32 p34 p60 p70 p77 p82 p86 p88 p90 p92) rfl), (A31_0.st (tr9 p34 p60 p70 p77 p82 p86 p88 p90 p92) rfl)⟩
    refine ltF' (K := (Kd.int .u8)) (cells := [(.int .u8 (IntKind.wrap .u8 (r31.length : Int)))]) [(IntKind.wrap .u8 (r31.length : Int))] 52 Xv u22 z5 o5 (fun w => (Yd _ _ _)) rfl (fun v99 s99 p99 A99 => ?_)
    refine Xm (L' := [15, 10, 8, 7, 6]) (D' := [11, 12, 13, 14, 3, 4, 5, 0, 1, 2]) zd74 rfl (fun zd101 => ?_)
    refine Xt 9 [some 29, some 24] tb34 zd101 (Xa (Xr v31_0 rfl) rfl (Xa (Xr v24_0 rfl) rfl (Xa (cv_q u5 u3 rfl rfl rfl rfl rfl rfl) rfl (Xa (ln_q' (A24_0.st (tr5 p32 p34 p60 p70 p99) rfl).rd u22 rfl) rfl (Xa (Xr v24_0 rfl) rfl Xg))))) (by kernel_rfl) rfl (fun l102 e102 zd102 => ?_)
    refine ltF' (K := (Kd.int .u8)) (cells := [(.int .u8 (IntKind.wrap .u8 (r24.length : Int)))]) [(IntKind.wrap .u8 (r24.length : Int))] 53 Xv u22 z5 o5 (fun w => (Yd _ _ _)) rfl (fun v104 s104 p104 A104 => ?_)
    refine Xm (L' := [15, 10]) (D' := [6, 7, 8, 9, 11, 12, 13, 14, 3, 4, 5, 0, 1, 2]) zd102 rfl (fun zd106 => ?_)
    refine Yp [16, 17, 18] tb34 zd106 (Xa (Xr v31_0 rfl) rfl (Xa (Xr v24_0 rfl) rfl Xg)) (by kernel_rfl) (by decide) ?_
    obtain ⟨s108, hw108, p108, A108⟩ := (A59_0.st (Yi p70 p99 p104) rfl).rc 44 rfl
    rw [hw108]
    obtain ⟨s110, hw110, p110, A110⟩ := (A69_0.st (Yi p99 p104 p108) rfl).rc 45 rfl
    rw [hw110]
    obtain ⟨s112, hw112, p112, A112⟩ := (A104.st (Xn p108 p110) rfl).rc 46 rfl
    rw [hw112]
    obtain ⟨s114, hw114, p114, A114⟩ := (A99.st (Yo p104 p108 p110 p112) rfl).rc 47 rfl
    rw [hw114]
    exact Kj51 _ _ _ ⟨s114, _, v59_0, v69_0, v104, v99, rfl, (ue (ue (ue (ue (ue (ue rfl rfl) rfl) rfl) rfl) rfl) rfl), (K29.st (tr10 p32 p34 p60 p70 p99 p104 p108 p110 p112 p114) rfl), (A108.st (Yi p110 p112 p114) rfl), (A110.st (Xn p112 p114) rfl), (A112.st p114 rfl), A114, (A24_0.st (tr10 p32 p34 p60 p70 p99 p104 p108 p110 p112 p114) rfl), (A31_0.st (tr9 p34 p60 p70 p99 p104 p108 p110 p112 p114) rfl)⟩
   ·
    refine ltF' (K := (Kd.int .u8)) (cells := [(.int .u8 (IntKind.wrap .u8 (r24.length : Int)))]) [(IntKind.wrap .u8 (r24.length : Int))] 54 Xv u22 z5 o5 (fun w => (Yd _ _ _)) rfl (fun v121 s121 p121 A121 => ?_)
    refine Xm (L' := [15, 13, 12, 11, 10, 4, 3]) (D' := [6, 7, 8, 9, 0, 1, 2]) zd64 rfl (fun zd123 => ?_)
    refine zstep2 5 14 [some 29, some 27, some 26, some 25, some 24] [some 29, some 24, some 18, some 17] tb34 zd123 (Xa (Xr v31_0 rfl) rfl (Xa (cv_q u5 u3 rfl rfl rfl rfl rfl rfl) rfl (Xa (ln_q' (A31_0.st (Yi p34 p60 p121) rfl).rd u22 rfl) rfl (Xa (Xr v31_0 rfl) rfl (Xa (Xr v24_0 rfl) rfl (Xa (Xp (B3.st (tr7 p9 p12 p25 p32 p34 p60 p121) rfl) u3 rfl) rfl (Xa (Xo fa31_1 rfl) rfl Xg))))))) (by kernel_rfl) (by kernel_rfl) (fun l124 e124 zd124 => ?_) (fun l125 e125 zd125 => ?_)
    ·
     refine clO 55 rfl func175 rfl (impl_PutNum.calls a0.Xmax (4 : Int) s121.w (mm [] s121)) (fun r128 v128_0 s129 p129 A128_0 => ?_)
     refine Xm (L' := [15, 13, 12, 11, 10]) (D' := [3, 4, 5, 6, 7, 8, 9, 0, 1, 2]) zd124 rfl (fun zd131 => ?_)
     refine Xt 14 [some 29, some 24] tb34 zd131 (Xa (Xr v31_0 rfl) rfl (Xa (cv_q u5 u3 rfl rfl rfl rfl rfl rfl) rfl (Xa (ln_q' (A31_0.st (Yo p34 p60 p121 p129) rfl).rd u22 rfl) rfl (Xa (Xr v31_0 rfl) rfl (Xa (Xr v24_0 rfl) rfl Xg))))) (by kernel_rfl) rfl (fun l132 e132 zd132 => ?_)
     refine ltF' (K := (Kd.int .u8)) (cells := [(.int .u8 (IntKind.wrap .u8 (r31.length : Int)))]) [(IntKind.wrap .u8 (r31.length : Int))] 56 Xv u22 z5 o5 (fun w => (Yd _ _ _)) rfl (fun v134 s134 p134 A134 => ?_)
     refine Xm (L' := [15, 10]) (D' := [11, 12, 13, 14, 3, 4, 5, 6, 7, 8, 9, 0, 1, 2]) zd132 rfl (fun zd136 => ?_)
     refine Yp [16, 17, 18] tb34 zd136 (Xa (Xr v31_0 rfl) rfl (Xa (Xr v24_0 rfl) rfl Xg)) (by kernel_rfl) (by decide) ?_
     obtain ⟨s138, hw138, p138, A138⟩ := (A59_0.st (Yi p121 p129 p134) rfl).rc 44 rfl
     rw [hw138]
     obtain ⟨s140, hw140, p140, A140⟩ := (A128_0.st (Xn p134 p138) rfl).rc 45 rfl
     rw [hw140]
     obtain ⟨s142, hw142, p142, A142⟩ := (A121.st (Yo p129 p134 p138 p140) rfl).rc 46 rfl
     rw [hw142]
     obtain ⟨s144, hw144, p144, A144⟩ := (A134.st (Yi p138 p140 p142) rfl).rc 47 rfl
     rw [hw144]
     exact Kj51 _ _ _ ⟨s144, _, v59_0, v128_0, v121, v134, rfl, (ue (ue (ue (ue (ue (ue rfl rfl) rfl) rfl) rfl) rfl) rfl), (K29.st (tr10 p32 p34 p60 p121 p129 p134 p138 p140 p142 p144) rfl), (A138.st (Yi p140 p142 p144) rfl), (A140.st (Xn p142 p144) rfl), (A142.st p144 rfl), A144, (A24_0.st (tr10 p32 p34 p60 p121 p129 p134 p138 p140 p142 p144) rfl), (A31_0.st (tr9 p34 p60 p121 p129 p134 p138 p140 p142 p144) rfl)⟩
    refine ltF' (K := (Kd.int .u8)) (cells := [(.int .u8 (IntKind.wrap .u8 (r31.length : Int)))]) [(IntKind.wrap .u8 (r31.length : Int))] 57 Xv u22 z5 o5 (fun w => (Yd _ _ _)) rfl (fun v151 s151 p151 A151 => ?_)
    refine Xm (L' := [15, 10, 4, 3]) (D' := [11, 12, 13, 14, 6, 7, 8, 9, 0, 1, 2]) zd125 rfl (fun zd153 => ?_)
    refine Xt 5 [some 29, some 24] tb34 zd153 (Xa (Xr v31_0 rfl) rfl (Xa (Xr v24_0 rfl) rfl (Xa (Xp (B3.st (tr8 p9 p12 p25 p32 p34 p60 p121 p151) rfl) u3 rfl) rfl (Xa (Xo fa31_1 rfl) rfl Xg)))) (by kernel_rfl) rfl (fun l154 e154 zd154 => ?_)
    refine clO 58 rfl func175 rfl (impl_PutNum.calls a0.Xmax (4 : Int) s151.w (mm [] s151)) (fun r156 v156_0 s157 p157 A156_0 => ?_)
    refine Xm (L' := [15, 10]) (D' := [3, 4, 5, 11, 12, 13, 14, 6, 7, 8, 9, 0, 1, 2]) zd154 rfl (fun zd159 => ?_)
    refine Yp [16, 17, 18] tb34 zd159 (Xa (Xr v31_0 rfl) rfl (Xa (Xr v24_0 rfl) rfl Xg)) (by kernel_rfl) (by decide) ?_
    obtain ⟨s161, hw161, p161, A161⟩ := (A59_0.st (Yi p121 p151 p157) rfl).rc 44 rfl
    rw [hw161]
    obtain ⟨s163, hw163, p163, A163⟩ := (A156_0.st p161 rfl).rc 45 rfl
    rw [hw163]
    obtain ⟨s165, hw165, p165, A165⟩ := (A121.st (Yo p151 p157 p161 p163) rfl).rc 46 rfl
    rw [hw165]
    obtain ⟨s167, hw167, p167, A167⟩ := (A151.st (Yo p157 p161 p163 p165) rfl).rc 47 rfl
    rw [hw167]
    exact Kj51 _ _ _ ⟨s167, _, v59_0, v156_0, v121, v151, rfl, (ue (ue (ue (ue (ue (ue rfl rfl) rfl) rfl) rfl) rfl) rfl), (K29.st (tr10 p32 p34 p60 p121 p151 p157 p161 p163 p165 p167) rfl), (A161.st (Yi p163 p165 p167) rfl), (A163.st (Xn p165 p167) rfl), (A165.st p167 rfl), A167, (A24_0.st (tr10 p32 p34 p60 p121 p151 p157 p161 p163 p165 p167) rfl), (A31_0.st (tr9 p34 p60 p121 p151 p157 p161 p163 p165 p167) rfl)⟩
   refine ltF' (K := (Kd.int .u8)) (cells := [(.int .u8 (IntKind.wrap .u8 (r31.length : Int)))]) [(IntKind.wrap .u8 (r31.length : Int))] 59 Xv u22 z5 o5 (fun w => (Yd _ _ _)) rfl (fun v174 s174 p174 A174 => ?_)
   refine Xm (L' := [15, 10, 8, 7, 6, 4, 3]) (D' := [11, 12, 13, 14, 0, 1, 2]) zd65 rfl (fun zd176 => ?_)
   refine zstep2 5 9 [some 29, some 24, some 22, some 21, some 20] [some 29, some 24, some 18, some 17] tb34 zd176 (Xa (Xr v31_0 rfl) rfl (Xa (Xr v24_0 rfl) rfl (Xa (cv_q u5 u3 rfl rfl rfl rfl rfl rfl) rfl (Xa (ln_q' (A24_0.st (Yo p32 p34 p60 p174) rfl).rd u22 rfl) rfl (Xa (Xr v24_0 rfl) rfl (Xa (Xp (B3.st (tr7 p9 p12 p25 p32 p34 p60 p174) rfl) u3 rfl) rfl (Xa (Xo fa31_1 rfl) rfl Xg))))))) (by kernel_rfl) (by kernel_rfl) (fun l177 e177 zd177 => ?_) (fun l178 e178 zd178 => ?_)
   ·
    refine clO 60 rfl func175 rfl (impl_PutNum.calls a0.Xmax (4 : Int) s174.w (mm [] s174)) (fun r181 v181_0 s182 p182 A181_0 => ?_)
    refine Xm (L' := [15, 10, 8, 7, 6]) (D' := [3, 4, 5, 11, 12, 13, 14, 0, 1, 2]) zd177 rfl (fun zd184 => ?_)
    refine Xt 9 [some 29, some 24] tb34 zd184 (Xa (Xr v31_0 rfl) rfl (Xa (Xr v24_0 rfl) rfl (Xa (cv_q u5 u3 rfl rfl rfl rfl rfl rfl) rfl (Xa (ln_q' (A24_0.st (tr5 p32 p34 p60 p174 p182) rfl).rd u22 rfl) rfl (Xa (Xr v24_0 rfl) rfl Xg))))) (by kernel_rfl) rfl (fun l185 e185 zd185 => ?_)
    refine ltF' (K := (Kd.int .u8)) (cells := [(.int .u8 (IntKind.wrap .u8 (r24.length : Int)))]) [(IntKind.wrap .u8 (r24.length : Int))] 61 Xv u22 z5 o5 (fun w => (Yd _ _ _)) rfl (fun v187 s187 p187 A187 => ?_)
    refine Xm (L' := [15, 10]) (D' := [6, 7, 8, 9, 3, 4, 5, 11, 12, 13, 14, 0, 1, 2]) zd185 rfl (fun zd189 => ?_)
    refine Yp [16, 17, 18] tb34 zd189 (Xa (Xr v31_0 rfl) rfl (Xa (Xr v24_0 rfl) rfl Xg)) (by kernel_rfl) (by decide) ?_
    obtain ⟨s191, hw191, p191, A191⟩ := (A59_0.st (Yi p174 p182 p187) rfl).rc 44 rfl
    rw [hw191]
    obtain ⟨s193, hw193, p193, A193⟩ := (A181_0.st (Xn p187 p191) rfl).rc 45 rfl
    rw [hw193]
    obtain ⟨s195, hw195, p195, A195⟩ := (A187.st (Xn p191 p193) rfl).rc 46 rfl
    rw [hw195]
    obtain ⟨s197, hw197, p197, A197⟩ := (A174.st (tr5 p182 p187 p191 p193 p195) rfl).rc 47 rfl
    rw [hw197]
    exact Kj51 _ _ _ ⟨s197, _, v59_0, v181_0, v187, v174, rfl, (ue (ue (ue (ue (ue (ue rfl rfl) rfl) rfl) rfl) rfl) rfl), (K29.st (tr10 p32 p34 p60 p174 p182 p187 p191 p193 p195 p197) rfl), (A191.st (Yi p193 p195 p197) rfl), (A193.st (Xn p195 p197) rfl), (A195.st p197 rfl), A197, (A24_0.st (tr10 p32 p34 p60 p174 p182 p187 p191 p193 p195 p197) rfl), (A31_0.st (tr9 p34 p60 p174 p182 p187 p191 p193 p195 p197) rfl)⟩
   refine ltF' (K := (Kd.int .u8)) (cells := [(.int .u8 (IntKind.wrap .u8 (r24.length : Int)))]) [(IntKind.wrap .u8 (r24.length : Int))] 62 Xv u22 z5 o5 (fun w => (Yd _ _ _)) rfl (fun v204 s204 p204 A204 => ?_)
   refine Xm (L' := [15, 10, 4, 3]) (D' := [6, 7, 8, 9, 11, 12, 13, 14, 0, 1, 2]) zd178 rfl (fun zd206 => ?_)
   refine Xt 5 [some 29, some 24] tb34 zd206 (Xa (Xr v31_0 rfl) rfl (Xa (Xr v24_0 rfl) rfl (Xa (Xp (B3.st (tr8 p9 p12 p25 p32 p34 p60 p174 p204) rfl) u3 rfl) rfl (Xa (Xo fa31_1 rfl) rfl Xg)))) (by kernel_rfl) rfl (fun l207 e207 zd207 => ?_)
   refine clO 63 rfl func175 rfl (impl_PutNum.calls a0.Xmax (4 : Int) s204.w (mm [] s204)) (fun r209 v209_0 s210 p210 A209_0 => ?_)
   refine Xm (L' := [15, 10]) (D' := [3, 4, 5, 6, 7, 8, 9, 11, 12, 13, 14, 0, 1, 2]) zd207 rfl (fun zd212 => ?_)
   refine Yp [16, 17, 18] tb34 zd212 (Xa (Xr v31_0 rfl) rfl (Xa (Xr v24_0 rfl) rfl Xg)) (by kernel_rfl) (by decide) ?_
   obtain ⟨s214, hw214, p214, A214⟩ := (A59_0.st (Yi p174 p204 p210) rfl).rc 44 rfl
   rw [hw214]
   obtain ⟨s216, hw216, p216, A216⟩ := (A209_0.st p214 rfl).rc 45 rfl
   rw [hw216]
   obtain ⟨s218, hw218, p218, A218⟩ := (A204.st (Yi p210 p214 p216) rfl).rc 46 rfl
   rw [hw218]
   obtain ⟨s220, hw220, p220, A220⟩ := (A174.st (tr5 p204 p210 p214 p216 p218) rfl).rc 47 rfl
   rw [hw220]
   exact Kj51 _ _ _ ⟨s220, _, v59_0, v209_0, v204, v174, rfl, (ue (ue (ue (ue (ue (ue rfl rfl) rfl) rfl) rfl) rfl) rfl), (K29.st (tr10 p32 p34 p60 p174 p204 p210 p214 p216 p218 p220) rfl), (A214.st (Yi p216 p218 p220) rfl), (A216.st (Xn p218 p220) rfl), (A218.st p220 rfl), A220, (A24_0.st (tr10 p32 p34 p60 p174 p204 p210 p214 p216 p218 p220) rfl), (A31_0.st (tr9 p34 p60 p174 p204 p210 p214 p216 p218 p220) rfl)⟩
  ·
   refine ltF' (K := (Kd.int .u8)) (cells := [(.int .u8 (IntKind.wrap .u8 (r24.length : Int)))]) [(IntKind.wrap .u8 (r24.length : Int))] 64 Xv u22 z5 o5 (fun w => (Yd _ _ _)) rfl (fun v227 s227 p227 A227 => ?_)
   refine Xm (L' := [15, 13, 12, 11, 10, 4, 3, 1, 0]) (D' := [6, 7, 8, 9]) zd53 rfl (fun zd229 => ?_)
   refine zstep2 2 14 [some 29, some 27, some 26, some 25, some 24, some 18, some 17] [some 29, some 24, some 18, some 17, some 15, some 14] tb34 zd229 (Xa (Xr v31_0 rfl) rfl (Xa (cv_q u5 u3 rfl rfl rfl rfl rfl rfl) rfl (Xa (ln_q' (A31_0.st (Xn p34 p227) rfl).rd u22 rfl) rfl (Xa (Xr v31_0 rfl) rfl (Xa (Xr v24_0 rfl) rfl (Xa (Xp (B3.st (tr6 p9 p12 p25 p32 p34 p227) rfl) u3 rfl) rfl (Xa (Xo fa31_1 rfl) rfl (Xa (Xp (B3.st (tr6 p9 p12 p25 p32 p34 p227) rfl) u3 rfl) rfl (Xa (Xo fa31_0 rfl) rfl Xg))))))))) (by kernel_rfl) (by kernel_rfl) (fun l230 e230 zd230 => ?_) (fun l231 e231 zd231 => ?_)
   ·
    refine clO 65 rfl func175 rfl (impl_PutNum.calls a0.Xmin (4 : Int) s227.w (mm [] s227)) (fun r235 v235_0 s236 p236 A235_0 => ?_)
    refine Xm (L' := [15, 13, 12, 11, 10, 4, 3]) (D' := [0, 1, 2, 6, 7, 8, 9]) zd230 rfl (fun zd238 => ?_)
    refine zstep2 5 14 [some 29, some 27, some 26, some 25, some 24] [some 29, some 24, some 18, some 17] tb34 zd238 (Xa (Xr v31_0 rfl) rfl (Xa (cv_q u5 u3 rfl rfl rfl rfl rfl rfl) rfl (Xa (ln_q' (A31_0.st (Yi p34 p227 p236) rfl).rd u22 rfl) rfl (Xa (Xr v31_0 rfl) rfl (Xa (Xr v24_0 rfl) rfl (Xa (Xp (B3.st (tr7 p9 p12 p25 p32 p34 p227 p236) rfl) u3 rfl) rfl (Xa (Xo fa31_1 rfl) rfl Xg))))))) (by kernel_rfl) (by kernel_rfl) (fun l239 e239 zd239 => ?_) (fun l240 e240 zd240 => ?_)
    ·
     refine clO 66 rfl func175 rfl (impl_PutNum.calls a0.Xmax (4 : Int) s236.w (mm [] s236)) (fun r243 v243_0 s244 p244 A243_0 => ?_)
     refine Xm (L' := [15, 13, 12, 11, 10]) (D' := [3, 4, 5, 0, 1, 2, 6, 7, 8, 9]) zd239 rfl (fun zd246 => ?_)
     refine Xt 14 [some 29, some 24] tb34 zd246 (Xa (Xr v31_0 rfl) rfl (Xa (cv_q u5 u3 rfl rfl rfl rfl rfl rfl) rfl (Xa (ln_q' (A31_0.st (Yo p34 p227 p236 p244) rfl).rd u22 rfl) rfl (Xa (Xr v31_0 rfl) rfl (Xa (Xr v24_0 rfl) rfl Xg))))) (by kernel_rfl) rfl (fun l247 e247 zd247 => ?_)
     refine ltF' (K := (Kd.int .u8)) (cells := [(.int .u8 (IntKind.wrap .u8 (r31.length : Int)))]) [(IntKind.wrap .u8 (r31.length : Int))] 67 Xv u22 z5 o5 (fun w => (Yd _ _ _)) rfl (fun v249 s249 p249 A249 => ?_)
     refine Xm (L' := [15, 10]) (D' := [11, 12, 13, 14, 3, 4, 5, 0, 1, 2, 6, 7, 8, 9]) zd247 rfl (fun zd251 => ?_)
     refine Yp [16, 17, 18] tb34 zd251 (Xa (Xr v31_0 rfl) rfl (Xa (Xr v24_0 rfl) rfl Xg)) (by kernel_rfl) (by decide) ?_
     obtain ⟨s253, hw253, p253, A253⟩ := (A235_0.st (Xn p244 p249) rfl).rc 44 rfl
     rw [hw253]
     obtain ⟨s255, hw255, p255, A255⟩ := (A243_0.st (Xn p249 p253) rfl).rc 45 rfl
     rw [hw255]
     obtain ⟨s257, hw257, p257, A257⟩ := (A227.st (tr5 p236 p244 p249 p253 p255) rfl).rc 46 rfl
     rw [hw257]
     obtain ⟨s259, hw259, p259, A259⟩ := (A249.st (Yi p253 p255 p257) rfl).rc 47 rfl
     rw [hw259]
     exact Kj51 _ _ _ ⟨s259, _, v235_0, v243_0, v227, v249, rfl, (ue (ue (ue (ue (ue (ue rfl rfl) rfl) rfl) rfl) rfl) rfl), (K29.st (tr10 p32 p34 p227 p236 p244 p249 p253 p255 p257 p259) rfl), (A253.st (Yi p255 p257 p259) rfl), (A255.st (Xn p257 p259) rfl), (A257.st p259 rfl), A259, (A24_0.st (tr10 p32 p34 p227 p236 p244 p249 p253 p255 p257 p259) rfl), (A31_0.st (tr9 p34 p227 p236 p244 p249 p253 p255 p257 p259) rfl)⟩
    refine ltF' (K := (Kd.int .u8)) (cells := [(.int .u8 (IntKind.wrap .u8 (r31.length : Int)))]) [(IntKind.wrap .u8 (r31.length : Int))] 68 Xv u22 z5 o5 (fun w => (Yd _ _ _)) rfl (fun v266 s266 p266 A266 => ?_)
    refine Xm (L' := [15, 10, 4, 3]) (D' := [11, 12, 13, 14, 0, 1, 2, 6, 7, 8, 9]) zd240 rfl (fun zd268 => ?_)
    refine Xt 5 [some 29, some 24] tb34 zd268 (Xa (Xr v31_0 rfl) rfl (Xa (Xr v24_0 rfl) rfl (Xa (Xp (B3.st (tr8 p9 p12 p25 p32 p34 p227 p236 p266) rfl) u3 rfl) rfl (Xa (Xo fa31_1 rfl) rfl Xg)))) (by kernel_rfl) rfl (fun l269 e269 zd269 => ?_)
    refine clO 69 rfl func175 rfl (impl_PutNum.calls a0.Xmax (4 : Int) s266.w (mm [] s266)) (fun r271 v271_0 s272 p272 A271_0 => ?_)
    refine Xm (L' := [15, 10]) (D' := [3, 4, 5, 11, 12, 13, 14, 0, 1, 2, 6, 7, 8, 9]) zd269 rfl (fun zd274 => ?_)
    refine Yp [16, 17, 18] tb34 zd274 (Xa (Xr v31_0 rfl) rfl (Xa (Xr v24_0 rfl) rfl Xg)) (by kernel_rfl) (by decide) ?_
    obtain ⟨s276, hw276, p276, A276⟩ := (A235_0.st (Xn p266 p272) rfl).rc 44 rfl
    rw [hw276]
    obtain ⟨s278, hw278, p278, A278⟩ := (A271_0.st p276 rfl).rc 45 rfl
    rw [hw278]
    obtain ⟨s280, hw280, p280, A280⟩ := (A227.st (tr5 p236 p266 p272 p276 p278) rfl).rc 46 rfl
    rw [hw280]
    obtain ⟨s282, hw282, p282, A282⟩ := (A266.st (Yo p272 p276 p278 p280) rfl).rc 47 rfl
    rw [hw282]
    exact Kj51 _ _ _ ⟨s282, _, v235_0, v271_0, v227, v266, rfl, (ue (ue (ue (ue (ue (ue rfl rfl) rfl) rfl) rfl) rfl) rfl), (K29.st (tr10 p32 p34 p227 p236 p266 p272 p276 p278 p280 p282) rfl), (A276.st (Yi p278 p280 p282) rfl), (A278.st (Xn p280 p282) rfl), (A280.st p282 rfl), A282, (A24_0.st (tr10 p32 p34 p227 p236 p266 p272 p276 p278 p280 p282) rfl), (A31_0.st (tr9 p34 p227 p236 p266 p272 p276 p278 p280 p282) rfl)⟩
   refine ltF' (K := (Kd.int .u8)) (cells := [(.int .u8 (IntKind.wrap .u8 (r31.length : Int)))]) [(IntKind.wrap .u8 (r31.length : Int))] 70 Xv u22 z5 o5 (fun w => (Yd _ _ _)) rfl (fun v289 s289 p289 A289 => ?_)
   refine Xm (L' := [15, 10, 4, 3, 1, 0]) (D' := [11, 12, 13, 14, 6, 7, 8, 9]) zd231 rfl (fun zd291 => ?_)
   refine Xt 2 [some 29, some 24, some 18, some 17] tb34 zd291 (Xa (Xr v31_0 rfl) rfl (Xa (Xr v24_0 rfl) rfl (Xa (Xp (B3.st (tr7 p9 p12 p25 p32 p34 p227 p289) rfl) u3 rfl) rfl (Xa (Xo fa31_1 rfl) rfl (Xa (Xp (B3.st (tr7 p9 p12 p25 p32 p34 p227 p289) rfl) u3 rfl) rfl (Xa (Xo fa31_0 rfl) rfl Xg)))))) (by kernel_rfl) rfl (fun l292 e292 zd292 => ?_)
   refine clO 71 rfl func175 rfl (impl_PutNum.calls a0.Xmin (4 : Int) s289.w (mm [] s289)) (fun r295 v295_0 s296 p296 A295_0 => ?_)
   refine Xm (L' := [15, 10, 4, 3]) (D' := [0, 1, 2, 11, 12, 13, 14, 6, 7, 8, 9]) zd292 rfl (fun zd298 => ?_)
   refine Xt 5 [some 29, some 24] tb34 zd298 (Xa (Xr v31_0 rfl) rfl (Xa (Xr v24_0 rfl) rfl (Xa (Xp (B3.st (tr8 p9 p12 p25 p32 p34 p227 p289 p296) rfl) u3 rfl) rfl (Xa (Xo fa31_1 rfl) rfl Xg)))) (by kernel_rfl) rfl (fun l299 e299 zd299 => ?_)
   refine clO 72 rfl func175 rfl (impl_PutNum.calls a0.Xmax (4 : Int) s296.w (mm [] s296)) (fun r301 v301_0 s302 p302 A301_0 => ?_)
   refine Xm (L' := [15, 10]) (D' := [3, 4, 5, 0, 1, 2, 11, 12, 13, 14, 6, 7, 8, 9]) zd299 rfl (fun zd304 => ?_)
   refine Yp [16, 17, 18] tb34 zd304 (Xa (Xr v31_0 rfl) rfl (Xa (Xr v24_0 rfl) rfl Xg)) (by kernel_rfl) (by decide) ?_
   obtain ⟨s306, hw306, p306, A306⟩ := (A295_0.st p302 rfl).rc 44 rfl
   rw [hw306]
   obtain ⟨s308, hw308, p308, A308⟩ := (A301_0.st p306 rfl).rc 45 rfl
   rw [hw308]
   obtain ⟨s310, hw310, p310, A310⟩ := (A227.st (tr5 p289 p296 p302 p306 p308) rfl).rc 46 rfl
   rw [hw310]
   obtain ⟨s312, hw312, p312, A312⟩ := (A289.st (tr5 p296 p302 p306 p308 p310) rfl).rc 47 rfl
   rw [hw312]
   exact Kj51 _ _ _ ⟨s312, _, v295_0, v301_0, v227, v289, rfl, (ue (ue (ue (ue (ue (ue rfl rfl) rfl) rfl) rfl) rfl) rfl), (K29.st (tr10 p32 p34 p227 p289 p296 p302 p306 p308 p310 p312) rfl), (A306.st (Yi p308 p310 p312) rfl), (A308.st (Xn p310 p312) rfl), (A310.st p312 rfl), A312, (A24_0.st (tr10 p32 p34 p227 p289 p296 p302 p306 p308 p310 p312) rfl), (A31_0.st (tr9 p34 p227 p289 p296 p302 p306 p308 p310 p312) rfl)⟩
  refine ltF' (K := (Kd.int .u8)) (cells := [(.int .u8 (IntKind.wrap .u8 (r31.length : Int)))]) [(IntKind.wrap .u8 (r31.length : Int))] 73 Xv u22 z5 o5 (fun w => (Yd _ _ _)) rfl (fun v319 s319 p319 A319 => ?_)
  refine Xm (L' := [15, 10, 8, 7, 6, 4, 3, 1, 0]) (D' := [11, 12, 13, 14]) zd54 rfl (fun zd321 => ?_)
  refine zstep2 2 9 [some 29, some 24, some 22, some 21, some 20, some 18, some 17] [some 29, some 24, some 18, some 17, some 15, some 14] tb34 zd321 (Xa (Xr v31_0 rfl) rfl (Xa (Xr v24_0 rfl) rfl (Xa (cv_q u5 u3 rfl rfl rfl rfl rfl rfl) rfl (Xa (ln_q' (A24_0.st (Yi p32 p34 p319) rfl).rd u22 rfl) rfl (Xa (Xr v24_0 rfl) rfl (Xa (Xp (B3.st (tr6 p9 p12 p25 p32 p34 p319) rfl) u3 rfl) rfl (Xa (Xo fa31_1 rfl) rfl (Xa (Xp (B3.st (tr6 p9 p12 p25 p32 p34 p319) rfl) u3 rfl) rfl (Xa (Xo fa31_0 rfl) rfl Xg))))))))) (by kernel_rfl) (by kernel_rfl) (fun l322 e322 zd322 => ?_) (fun l323 e323 zd323 => ?_)
  ·
   refine clO 74 rfl func175 rfl (impl_PutNum.calls a0.Xmin (4 : Int) s319.w (mm [] s319)) (fun r327 v327_0 s328 p328 A327_0 => ?_)
   refine Xm (L' := [15, 10, 8, 7, 6, 4, 3]) (D' := [0, 1, 2, 11, 12, 13, 14]) zd322 rfl (fun zd330 => ?_)
   refine zstep2 5 9 [some 29, some 24, some 22, some 21, some 20] [some 29, some 24, some 18, some 17] tb34 zd330 (Xa (Xr v31_0 rfl) rfl (Xa (Xr v24_0 rfl) rfl (Xa (cv_q u5 u3 rfl rfl rfl rfl rfl rfl) rfl (Xa (ln_q' (A24_0.st (Yo p32 p34 p319 p328) rfl).rd u22 rfl) rfl (Xa (Xr v24_0 rfl) rfl (Xa (Xp (B3.st (tr7 p9 p12 p25 p32 p34 p319 p328) rfl) u3 rfl) rfl (Xa (Xo fa31_1 rfl) rfl Xg))))))) (by kernel_rfl) (by kernel_rfl) (fun l331 e331 zd331 => ?_) (fun l332 e332 zd332 => ?_)
   ·
    refine clO 75 rfl func175 rfl (impl_PutNum.calls a0.Xmax (4 : Int) s328.w (mm [] s328)) (fun r335 v335_0 s336 p336 A335_0 => ?_)
    refine Xm (L' := [15, 10, 8, 7, 6]) (D' := [3, 4, 5, 0, 1, 2, 11, 12, 13, 14]) zd331 rfl (fun zd338 => ?_)
    refine Xt 9 [some 29, some 24] tb34 zd338 (Xa (Xr v31_0 rfl) rfl (Xa (Xr v24_0 rfl) rfl (Xa (cv_q u5 u3 rfl rfl rfl rfl rfl rfl) rfl (Xa (ln_q' (A24_0.st (tr5 p32 p34 p319 p328 p336) rfl).rd u22 rfl) rfl (Xa (Xr v24_0 rfl) rfl Xg))))) (by kernel_rfl) rfl (fun l339 e339 zd339 => ?_)
    refine ltF' (K := (Kd.int .u8)) (cells := [(.int .u8 (IntKind.wrap .u8 (r24.length : Int)))]) [(IntKind.wrap .u8 (r24.length : Int))] 76 Xv u22 z5 o5 (fun w => (Yd _ _ _)) rfl (fun v341 s341 p341 A341 => ?_)
    refine Xm (L' := [15, 10]) (D' := [6, 7, 8, 9, 3, 4, 5, 0, 1, 2, 11, 12, 13, 14]) zd339 rfl (fun zd343 => ?_)
    refine Yp [16, 17, 18] tb34 zd343 (Xa (Xr v31_0 rfl) rfl (Xa (Xr v24_0 rfl) rfl Xg)) (by kernel_rfl) (by decide) ?_
    obtain ⟨s345, hw345, p345, A345⟩ := (A327_0.st (Xn p336 p341) rfl).rc 44 rfl
    rw [hw345]
    obtain ⟨s347, hw347, p347, A347⟩ := (A335_0.st (Xn p341 p345) rfl).rc 45 rfl
    rw [hw347]
    obtain ⟨s349, hw349, p349, A349⟩ := (A341.st (Xn p345 p347) rfl).rc 46 rfl
    rw [hw349]
    obtain ⟨s351, hw351, p351, A351⟩ := (A319.st (tr6 p328 p336 p341 p345 p347 p349) rfl).rc 47 rfl
    rw [hw351]
    exact Kj51 _ _ _ ⟨s351, _, v327_0, v335_0, v341, v319, rfl, (ue (ue (ue (ue (ue (ue rfl rfl) rfl) rfl) rfl) rfl) rfl), (K29.st (tr10 p32 p34 p319 p328 p336 p341 p345 p347 p349 p351) rfl), (A345.st (Yi p347 p349 p351) rfl), (A347.st (Xn p349 p351) rfl), (A349.st p351 rfl), A351, (A24_0.st (tr10 p32 p34 p319 p328 p336 p341 p345 p347 p349 p351) rfl), (A31_0.st (tr9 p34 p319 p328 p336 p341 p345 p347 p349 p351) rfl)⟩
   refine ltF' (K := (Kd.int .u8)) (cells := [(.int .u8 (IntKind.wrap .u8 (r24.length : Int)))]) [(IntKind.wrap .u8 (r24.length : Int))] 77 Xv u22 z5 o5 (fun w => (Yd _ _ _)) rfl (fun v358 s358 p358 A358 => ?_)
   refine Xm (L' := [15, 10, 4, 3]) (D' := [6, 7, 8, 9, 0, 1, 2, 11, 12, 13, 14]) zd332 rfl (fun zd360 => ?_)
   refine Xt 5 [some 29, some 24] tb34 zd360 (Xa (Xr v31_0 rfl) rfl (Xa (Xr v24_0 rfl) rfl (Xa (Xp (B3.st (tr8 p9 p12 p25 p32 p34 p319 p328 p358) rfl) u3 rfl) rfl (Xa (Xo fa31_1 rfl) rfl Xg)))) (by kernel_rfl) rfl (fun l361 e361 zd361 => ?_)
   refine clO 78 rfl func175 rfl (impl_PutNum.calls a0.Xmax (4 : Int) s358.w (mm [] s358)) (fun r363 v363_0 s364 p364 A363_0 => ?_)
   refine Xm (L' := [15, 10]) (D' := [3, 4, 5, 6, 7, 8, 9, 0, 1, 2, 11, 12, 13, 14]) zd361 rfl (fun zd366 => ?_)
   refine Yp [16, 17, 18] tb34 zd366 (Xa (Xr v31_0 rfl) rfl (Xa (Xr v24_0 rfl) rfl Xg)) (by kernel_rfl) (by decide) ?_
   obtain ⟨s368, hw368, p368, A368⟩ := (A327_0.st (Xn p358 p364) rfl).rc 44 rfl
   rw [hw368]
   obtain ⟨s370, hw370, p370, A370⟩ := (A363_0.st p368 rfl).rc 45 rfl
   rw [hw370]
   obtain ⟨s372, hw372, p372, A372⟩ := (A358.st (Yi p364 p368 p370) rfl).rc 46 rfl
   rw [hw372]
   obtain ⟨s374, hw374, p374, A374⟩ := (A319.st (tr6 p328 p358 p364 p368 p370 p372) rfl).rc 47 rfl
   rw [hw374]
   exact Kj51 _ _ _ ⟨s374, _, v327_0, v363_0, v358, v319, rfl, (ue (ue (ue (ue (ue (ue rfl rfl) rfl) rfl) rfl) rfl) rfl), (K29.st (tr10 p32 p34 p319 p328 p358 p364 p368 p370 p372 p374) rfl), (A368.st (Yi p370 p372 p374) rfl), (A370.st (Xn p372 p374) rfl), (A372.st p374 rfl), A374, (A24_0.st (tr10 p32 p34 p319 p328 p358 p364 p368 p370 p372 p374) rfl), (A31_0.st (tr9 p34 p319 p328 p358 p364 p368 p370 p372 p374) rfl)⟩
  refine ltF' (K := (Kd.int .u8)) (cells := [(.int .u8 (IntKind.wrap .u8 (r24.length : Int)))]) [(IntKind.wrap .u8 (r24.length : Int))] 79 Xv u22 z5 o5 (fun w => (Yd _ _ _)) rfl (fun v381 s381 p381 A381 => ?_)
  refine Xm (L' := [15, 10, 4, 3, 1, 0]) (D' := [6, 7, 8, 9, 11, 12, 13, 14]) zd323 rfl (fun zd383 => ?_)
  refine Xt 2 [some 29, some 24, some 18, some 17] tb34 zd383 (Xa (Xr v31_0 rfl) rfl (Xa (Xr v24_0 rfl) rfl (Xa (Xp (B3.st (tr7 p9 p12 p25 p32 p34 p319 p381) rfl) u3 rfl) rfl (Xa (Xo fa31_1 rfl) rfl (Xa (Xp (B3.st (tr7 p9 p12 p25 p32 p34 p319 p381) rfl) u3 rfl) rfl (Xa (Xo fa31_0 rfl) rfl Xg)))))) (by kernel_rfl) rfl (fun l384 e384 zd384 => ?_)
  refine clO 80 rfl func175 rfl (impl_PutNum.calls a0.Xmin (4 : Int) s381.w (mm [] s381)) (fun r387 v387_0 s388 p388 A387_0 => ?_)
  refine Xm (L' := [15, 10, 4, 3]) (D' := [0, 1, 2, 6, 7, 8, 9, 11, 12, 13, 14]) zd384 rfl (fun zd390 => ?_)
  refine Xt 5 [some 29, some 24] tb34 zd390 (Xa (Xr v31_0 rfl) rfl (Xa (Xr v24_0 rfl) rfl (Xa (Xp (B3.st (tr8 p9 p12 p25 p32 p34 p319 p381 p388) rfl) u3 rfl) rfl (Xa (Xo fa31_1 rfl) rfl Xg)))) (by kernel_rfl) rfl (fun l391 e391 zd391 => ?_)
  refine clO 81 rfl func175 rfl (impl_PutNum.calls a0.Xmax (4 : Int) s388.w (mm [] s388)) (fun r393 v393_0 s394 p394 A393_0 => ?_)
  refine Xm (L' := [15, 10]) (D' := [3, 4, 5, 0, 1, 2, 6, 7, 8, 9, 11, 12, 13, 14]) zd391 rfl (fun zd396 => ?_)
  refine Yp [16, 17, 18] tb34 zd396 (Xa (Xr v31_0 rfl) rfl (Xa (Xr v24_0 rfl) rfl Xg)) (by kernel_rfl) (by decide) ?_
  obtain ⟨s398, hw398, p398, A398⟩ := (A387_0.st p394 rfl).rc 44 rfl
  rw [hw398]
  obtain ⟨s400, hw400, p400, A400⟩ := (A393_0.st p398 rfl).rc 45 rfl
  rw [hw400]
  obtain ⟨s402, hw402, p402, A402⟩ := (A381.st (Yo p388 p394 p398 p400) rfl).rc 46 rfl
  rw [hw402]
  obtain ⟨s404, hw404, p404, A404⟩ := (A319.st (tr6 p381 p388 p394 p398 p400 p402) rfl).rc 47 rfl
  rw [hw404]
  exact Kj51 _ _ _ ⟨s404, _, v387_0, v393_0, v381, v319, rfl, (ue (ue (ue (ue (ue (ue rfl rfl) rfl) rfl) rfl) rfl) rfl), (K29.st (tr10 p32 p34 p319 p381 p388 p394 p398 p400 p402 p404) rfl), (A398.st (Yi p400 p402 p404) rfl), (A400.st (Xn p402 p404) rfl), (A402.st p404 rfl), A404, (A24_0.st (tr10 p32 p34 p319 p381 p388 p394 p398 p400 p402 p404) rfl), (A31_0.st (tr9 p34 p319 p381 p388 p394 p398 p400 p402 p404) rfl)⟩
 rintro y51 _ _ ⟨s411, _, vy51_0, vy51_1, vy51_2, vy51_3, rfl, rfl, Ky51, Ay51_0, Ay51_1, Ay51_2, Ay51_3, Cy51_26, Cy51_33⟩
 obtain ⟨s417, hw417, p417, L417⟩ := lo_cons Ay51_3 (lo_one Cy51_33) rfl rfl
 rw [hw417]
 obtain ⟨s419, hw419, p419, L419⟩ := lo_cons (Cy51_26.st p417 rfl) L417 rfl rfl
 rw [hw419]
 obtain ⟨s421, hw421, p421, L421⟩ := lo_cons (Ay51_2.st (Xn p417 p419) rfl) L419 rfl rfl
 rw [hw421]
 obtain ⟨s423, hw423, p423, L423⟩ := lo_cons (Ay51_1.st (Yi p417 p419 p421) rfl) L421 rfl rfl
 rw [hw423]
 obtain ⟨s425, hw425, p425, L425⟩ := lo_cons (Ay51_0.st (Yo p417 p419 p421 p423) rfl) L423 rfl rfl
 rw [hw425]
 refine ltO' (K := Yr) (cells := [vy51_0, vy51_1, vy51_2, v24_0, vy51_3, v31_0]) [y51.1, y51.2.1, y51.2.2.1, r24, y51.2.2.2, r31] 44 u114 z22 o22 L425 rfl (lfill_pc (pc_c (oc Ay51_0.rd.one) (pc_c (oc Ay51_1.rd.one) (pc_c (oc Ay51_2.rd.one) (pc_c (oc Cy51_26.rd.one) (pc_c (oc Ay51_3.rd.one) (pc_c (oc Cy51_33.rd.one) pc_n)))))) rfl) (fun v426 s426 p426 A426 => ?_)
 refine clO 83 rfl func174 rfl (slices_Concat_byte_byte.calls ([y51.1, y51.2.1, y51.2.2.1, r24, y51.2.2.2, r31]) s426.w (mm [44] s426) v426 A426.rd) (fun r428 v428_0 s429 p429 A428_0 => ?_)
 refine Yh v428_0 rfl (dn ?_)
 have K431 := Ky51.st (tr7 p417 p419 p421 p423 p425 p426 p429) rfl
 exact re rfl func81 rfl (Xu rfl Xe) rfl ⟨_, rfl, A428_0.fo K431 rfl z.l, z.ky K431⟩
def impl_TupleRead.f (a0 : (List Int)) : Option (Tuple × Bool) :=
 ((impl_GetNum.f a0 (0 : Int) (4 : Int)).bind fun r6 => ((impl_GetNum.f a0 (4 : Int) (4 : Int)).bind fun r10 => ((if (((!r6.2) || (!r10.2)) || (decide ((a0.length : Int) < (9 : Int)))) = true then (some true) else (if 0 ≤ (8 : Int) ∧ (8 : Int) < (a0.length : Int) then (some (decide ((a0.length : Int) < (IntKind.wrap .i64 ((10 : Int) + (IntKind.wrap .i64 (at_ a0 (8 : Int)))))))) else none)).bind fun y16 => (if y16 = true then (some ((Tuple.mk (0 : Int) (0 : Int) (Item.mk (0 : Int) (0 : Int) (0 : Nat) ([] : (List Int))) (Item.mk (0 : Int) (0 : Int) (0 : Nat) ([] : (List Int)))), false)) else (if 0 ≤ (8 : Int) ∧ (8 : Int) < (a0.length : Int) then (if 0 ≤ (9 : Int) ∧ (9 : Int) ≤ (IntKind.wrap .i64 ((9 : Int) + (IntKind.wrap .i64 (at_ a0 (8 : Int))))) ∧ (IntKind.wrap .i64 ((9 : Int) + (IntKind.wrap .i64 (at_ a0 (8 : Int))))) ≤ (a0.length : Int) then ((impl_KeyRead.f ((a0.take ((IntKind.wrap .i64 ((9 : Int) + (IntKind.wrap .i64 (at_ a0 (8 : Int)))))).toNat).drop ((9 : Int)).toNat)).bind fun r37 => (if 0 ≤ (IntKind.wrap .i64 ((IntKind.wrap .i64 ((9 : Int) + (IntKind.wrap .i64 (at_ a0 (8 : Int))))) + (1 : Int))) ∧ (IntKind.wrap .i64 ((IntKind.wrap .i64 ((9 : Int) + (IntKind.wrap .i64 (at_ a0 (8 : Int))))) + (1 : Int))) ≤ (a0.length : Int) then ((impl_ValueRead.f (a0.drop ((IntKind.wrap .i64 ((IntKind.wrap .i64 ((9 : Int) + (IntKind.wrap .i64 (at_ a0 (8 : Int))))) + (1 : Int)))).toNat)).bind fun r49 => ((if ((!r37.2) || (!r49.2)) = true then (some true) else ((impl_TupleOk.f (Tuple.mk r6.1 r10.1 r37.1 r49.1)).bind fun r72 => (some (!r72)))).bind fun y65 => ((if y65 = true then (some true) else ((impl_TupleBytes.f (Tuple.mk r6.1 r10.1 r37.1 r49.1)).bind fun r83 => ((bytes_Equal.f r83 a0).bind fun r88 => (some (!r88))))).bind fun y82 => (if y82 = true then (some ((Tuple.mk (0 : Int) (0 : Int) (Item.mk (0 : Int) (0 : Int) (0 : Nat) ([] : (List Int))) (Item.mk (0 : Int) (0 : Int) (0 : Nat) ([] : (List Int)))), false)) else (some ((Tuple.mk r6.1 r10.1 r37.1 r49.1), true)))))) else none)) else none) else none)))))
def impl_TupleRead.Q (w : World) (F : Nat → Prop) (r : Tuple × Bool) (v : Value) (w' : World) : Prop :=
 ∃ (v0 : Value) (v1 : Value) (v2 : Value) (v3 : Value), v = .tuple #[(.agg #[(iI r.1.Xmin), (iI r.1.Xmax), (iI r.1.Key.Kind), (iI r.1.Key.N), v0, v1, (iI r.1.Value.Kind), (iI r.1.Value.N), v2, v3]), (.bool r.2)] ∧ FO kd31 w w' [(iI r.1.Xmin), (iI r.1.Xmax), (iI r.1.Key.Kind), (iI r.1.Key.N), v0, v1, (iI r.1.Value.Kind), (iI r.1.Value.N), v2, v3] r.1 ∧ Ky [] w w'
theorem impl_TupleRead.calls (a0 : (List Int)) (w : World) (F : Nat → Prop) (w0_0 : Value) (h0_0 : Yr.rd w [w0_0] a0 F) (r : Tuple × Bool) (m : impl_TupleRead.f a0 = some r) :
  Calls prog 93 #[w0_0] w (RT (impl_TupleRead.Q w F) r) := by
 obtain ⟨s0, rfl, kp0, z⟩ := Xl w F
 have A0_0 := z.rd h0_0
 refine Xd (args := [w0_0]) func93 ntmps93 rfl m ?_
 unfold impl_TupleRead.f
 refine sr (al' (cs := [(iI 0), (iI 0), (iI 0), (iI 0), (.float .f64 0), (.slice none 0 0), (iI 0), (iI 0), (.float .f64 0), (.slice none 0 0)]) 40 rfl o31 rfl (fun b2 s2 p2 B2 => ?_))
 refine Xc rfl (dn (sr (Yc w0_0 rfl ?_)))
 have K4 := kp0.st p2 rfl
 refine Yn 41 rfl func184 rfl (impl_GetNum.calls a0 (0 : Int) (4 : Int) s2.w (mm [0] s2) w0_0 (A0_0.kp K4)) (fun r6 s7 p7 n7 => ?_)
 refine Xc rfl (Xc (v := (iI r6.1)) rfl (Xc (v := (.bool r6.2)) rfl (Xc rfl (Xc rfl (dn (sr (Yc w0_0 rfl ?_)))))))
 have K8 := K4.st p7 rfl
 refine Yn 42 rfl func184 rfl (impl_GetNum.calls a0 (4 : Int) (4 : Int) s7.w (mm [0] s7) w0_0 (A0_0.kp K8)) (fun r10 s11 p11 n11 => ?_)
 refine Xc rfl (Xc (v := (iI r10.1)) rfl (Xc (v := (.bool r10.2)) rfl (Xc rfl (Xc rfl (dn (sq (sr (Xc rfl (Xc rfl (Xc rfl (jy [26, 27, 28, 29] [6, 7, 8, 9, 10, 11, 12, 13, 14, 15, 16, 17, 18, 19, 20] 29 (.bool ((!r6.2) || (!r10.2))) rfl (fun Kg12 => ?_) (fun j12 => ?_))))))))))))
 ·
  rcases bft (!r6.2) with hb12 | hb12
  ·
   exact Yb hb12 (Xk rfl (Xk rfl (Xc rfl (Kg12 _ (Ag.put ((Ag.put ((Ag.put (Ag.base rfl) rfl)) rfl)) rfl) (by rw [hb12]; rfl)))))
  exact Yb hb12 (Xc rfl (Xc rfl (Xc rfl (Kg12 _ (Ag.put ((Ag.put ((Ag.put (Ag.base rfl) rfl)) rfl)) rfl) (by rw [hb12]; rfl)))))
 refine Xc rfl (jy [30, 31, 32, 33, 34] [11, 12, 13, 14, 15, 16, 17, 18, 19, 20] 34 (.bool (((!r6.2) || (!r10.2)) || (decide ((a0.length : Int) < (9 : Int))))) rfl (fun Kg13 => ?_) (fun j13 => ?_))
 ·
  rcases bft ((!r6.2) || (!r10.2)) with hb13 | hb13
  ·
   exact Yb hb13 (Xk rfl (Xk rfl (Xk rfl (Xc rfl (Kg13 _ (Ag.put ((Ag.put ((Ag.put ((Ag.put (Ag.base rfl) rfl)) rfl)) rfl)) rfl) (by rw [hb13]; rfl))))))
  refine Yb hb13 (Yc w0_0 rfl ?_)
  exact ln' (A0_0.kp (K8.st p11 rfl)) u22 rfl (Xc rfl (Xc rfl (Kg13 _ (Ag.put ((Ag.put ((Ag.put ((Ag.put (Ag.base rfl) rfl)) rfl)) rfl)) rfl) (by rw [hb13]; rfl))))
 refine Xc rfl (ji [] (fun (y16 : Bool) e w => ∃ (s : St) (e0 : Env), w = s.w ∧ e = upd (upd (upd (upd (upd e0 0 w0_0) 2 (pB b2)) 4 (iI r6.1)) 6 (iI r10.1)) 44 (.bool y16) ∧ Kp s0 s ∧ BlF s b2 31 [(iI 0), (iI 0), (iI 0), (iI 0), (.float .f64 0), (.slice none 0 0), (iI 0), (iI 0), (.float .f64 0), (.slice none 0 0)] 40) (fun Gj16 Kj16 => ?_) ?_)
 ·
  rcases bft (((!r6.2) || (!r10.2)) || (decide ((a0.length : Int) < (9 : Int)))) with hb16 | hb16
  ·
   refine Yb hb16 ?_
   rw [if_pos hb16]
   refine Xk rfl (Xk rfl (Xk rfl (Xk rfl (Xk rfl (Xk rfl (Xk rfl (Xk rfl (Xc rfl ?_))))))))
   exact Kj16 _ _ _ ⟨s11, _, rfl, (ue (ue (ue (ue (ue rfl rfl) rfl) rfl) rfl) rfl), (K8.st p11 rfl), (B2.st (Xn p7 p11) rfl)⟩
  refine Yb hb16 ?_
  rw [if_neg (by rw [hb16]; decide)]
  refine Yc w0_0 rfl ?_
  have K19 := K8.st p11 rfl
  have A20 := A0_0.kp K19
  refine ln' A20 u22 rfl (Yc w0_0 rfl (ix' A20 u22 z5 rfl (fun ad21 es21 h0_21 h1_21 he21 ce21 ia21 => ?_)))
  obtain rfl := he21
  refine lc0' ce21 u5 rfl (cv' u3 u5 rfl (Xc rfl (Xc rfl (Xc rfl ?_))))
  exact Kj16 _ _ _ ⟨s11, _, rfl, (ue (ue (ue (ue (ue rfl rfl) rfl) rfl) rfl) rfl), K19, (B2.st (Xn p7 p11) rfl)⟩
 rintro y16 _ _ ⟨s24, _, rfl, rfl, Ky16, By16_b2⟩
 refine dn (cd rfl (fun h26 => ?_) (fun h26 => ?_))
 ·
  refine sr (bd' (cells := [(iI 0), (iI 0), (iI 0), (iI 0), (.float .f64 0), (.slice none 0 0), (iI 0), (iI 0), (.float .f64 0), (.slice none 0 0)]) pl31 o31 rfl rfl (Xx (vs := [(iI 0), (iI 0), (iI 0), (iI 0), (.float .f64 0), (.slice none 0 0), (iI 0), (iI 0), (.float .f64 0), (.slice none 0 0)]) By16_b2 z31 rfl (Xb rfl (Xb rfl (Xb rfl (Xb rfl (Xb (FL.one (Yf rfl)) (Xb rfl (Xb rfl (Xb rfl (Xb (FL.one (Yf rfl)) (Xb rfl Xj)))))))))) rfl (fun s27 p27 B27 => ?_)))
  refine Xc rfl (dn ?_)
  have A29 : OwF kd31 s27 [(iI 0), (iI 0), (iI 0), (iI 0), (.float .f64 0), (.slice none 0 0), (iI 0), (iI 0), (.float .f64 0), (.slice none 0 0)] (Tuple.mk (0 : Int) (0 : Int) (Item.mk (0 : Int) (0 : Int) (0 : Nat) ([] : (List Int))) (Item.mk (0 : Int) (0 : Int) (0 : Nat) ([] : (List Int)))) 43 := ow_z _ _ (Yj (fun x : Tuple => (x.Xmin, x.Xmax, x.Key, x.Value)) (Tuple.mk (0 : Int) (0 : Int) (Item.mk (0 : Int) (0 : Int) (0 : Nat) ([] : (List Int))) (Item.mk (0 : Int) (0 : Int) (0 : Nat) ([] : (List Int)))) (Xi (Xf .i64 (0 : Int)) (Xi (Xf .i64 (0 : Int)) (Xi (Yj (fun x : Item => (x.Kind, x.N, x.F, x.T)) (Item.mk (0 : Int) (0 : Int) (0 : Nat) ([] : (List Int))) (Xi (Xf .i64 (0 : Int)) (Xi (Xf .i64 (0 : Int)) (Xi (Xz (Yf rfl)) (Yk 5 (Kd.int .u8)))))) (Yj (fun x : Item => (x.Kind, x.N, x.F, x.T)) (Item.mk (0 : Int) (0 : Int) (0 : Nat) ([] : (List Int))) (Xi (Xf .i64 (0 : Int)) (Xi (Xf .i64 (0 : Int)) (Xi (Xz (Yf rfl)) (Yk 5 (Kd.int .u8))))))))))
  have K31 := Ky16.st p27 rfl
  exact re rfl func93 rfl (r_b B27 u31 rfl z31 rfl (Xu rfl Xe)) rfl ⟨_, rfl, (.float .f64 0), (.slice none 0 0), (.float .f64 0), (.slice none 0 0), rfl, A29.fo K31 rfl z.l, z.ky K31⟩
 refine sk (sr (Yc w0_0 rfl ?_))
 have A32 := A0_0.kp Ky16
 refine ix' A32 u22 z5 rfl (fun ad33 es33 h0_33 h1_33 he33 ce33 ia33 => ?_)
 obtain rfl := he33
 refine lc0' ce33 u5 rfl (cv' u3 u5 rfl (Xc rfl (Xc rfl (dn (sr (Yc w0_0 rfl (Xc rfl (slb A32 u22 z5 rfl rfl rfl rfl rfl rfl rfl rfl (fun v35 A35 => ?_)))))))))
 refine cl' rfl func185 rfl (impl_KeyRead.calls ((a0.take ((IntKind.wrap .i64 ((9 : Int) + (IntKind.wrap .i64 (at_ a0 (8 : Int)))))).toNat).drop ((9 : Int)).toNat) s24.w (mm [0] s24) v35 A35) ?_
 rintro r37 _ w37 m37 ⟨v37_0, v37_1, rfl, f37_0, ky37⟩
 obtain ⟨s38, rfl, p38, n38⟩ := nwx s24 w37 44 ky37
 obtain ⟨hu37_0_0, Au37_0_1⟩ := ap29 (f37_0.c n38)
 refine Xc rfl (Xc (v := (.agg #[(iI r37.1.Kind), (iI r37.1.N), v37_0, v37_1])) rfl (Xc (v := (.bool r37.2)) rfl (al' (cs := [(iI 0), (iI 0), (.float .f64 0), (.slice none 0 0)]) 45 rfl o29 rfl (fun b40 s40 p40 B40 => ?_))))
 have A42 := Au37_0_1.st p40 rfl
 refine Xx (vs := [(iI r37.1.Kind), (iI r37.1.N), v37_0, v37_1]) B40 z29 rfl (Xb rfl (Xb rfl (Xb (FL.one hu37_0_0) (Xb A42.rd.one Xj)))) rfl (fun s43 p43 B43 => ?_)
 refine Xc rfl (dn (sr (Yc w0_0 rfl (Xc rfl (Xc rfl ?_)))))
 have K45 := Ky16.st (Yi p38 p40 p43) rfl
 refine sla (A0_0.kp K45) u22 z5 rfl rfl rfl rfl rfl rfl rfl (fun v47 A47 => ?_)
 refine cl' rfl func186 rfl (impl_ValueRead.calls (a0.drop ((IntKind.wrap .i64 ((IntKind.wrap .i64 ((9 : Int) + (IntKind.wrap .i64 (at_ a0 (8 : Int))))) + (1 : Int)))).toNat) s43.w (mm [0] s43) v47 A47) ?_
 rintro r49 _ w49 m49 ⟨v49_0, v49_1, rfl, f49_0, ky49⟩
 obtain ⟨s50, rfl, p50, n50⟩ := nwx s43 w49 46 ky49
 obtain ⟨hu49_0_0, Au49_0_1⟩ := ap29 (f49_0.c n50)
 refine Xc rfl (Xc (v := (.agg #[(iI r49.1.Kind), (iI r49.1.N), v49_0, v49_1])) rfl (Xc (v := (.bool r49.2)) rfl (al' (cs := [(iI 0), (iI 0), (.float .f64 0), (.slice none 0 0)]) 47 rfl o29 rfl (fun b52 s52 p52 B52 => ?_))))
 have A54 := Au49_0_1.st p52 rfl
 refine Xx (vs := [(iI r49.1.Kind), (iI r49.1.N), v49_0, v49_1]) B52 z29 rfl (Xb rfl (Xb rfl (Xb (FL.one hu49_0_0) (Xb A54.rd.one Xj)))) rfl (fun s55 p55 B55 => ?_)
 refine Xc rfl (dn (sr (Xc rfl (Xc rfl ?_))))
 refine Ya (es := [(iI r37.1.Kind), (iI r37.1.N), v37_0, v37_1]) (B43.st (Yi p50 p52 p55) rfl) u29 z29 rfl (Ya (es := [(iI r49.1.Kind), (iI r49.1.N), v49_0, v49_1]) B55 u29 z29 rfl (bd' (cells := [(iI r6.1), (iI r10.1), (iI r37.1.Kind), (iI r37.1.N), v37_0, v37_1, (iI r49.1.Kind), (iI r49.1.N), v49_0, v49_1]) pl31 o31 rfl rfl (al' (cs := [(iI 0), (iI 0), (iI 0), (iI 0), (.float .f64 0), (.slice none 0 0), (iI 0), (iI 0), (.float .f64 0), (.slice none 0 0)]) 48 rfl o31 rfl (fun b58 s58 p58 B58 => ?_))))
 have A60 := A54.st (Xn p55 p58) rfl
 have A61 := A42.st (tr5 p43 p50 p52 p55 p58) rfl
 refine Xx (vs := [(iI r6.1), (iI r10.1), (iI r37.1.Kind), (iI r37.1.N), v37_0, v37_1, (iI r49.1.Kind), (iI r49.1.N), v49_0, v49_1]) B58 z31 rfl (Xb rfl (Xb rfl (Xb rfl (Xb rfl (Xb (FL.one hu37_0_0) (Xb A61.rd.one (Xb rfl (Xb rfl (Xb (FL.one hu49_0_0) (Xb A60.rd.one Xj)))))))))) rfl (fun s62 p62 B62 => ?_)
 refine dn (sq (sr (Xc rfl (Xc rfl (Xc rfl (jy [73, 74, 75, 76] [6, 7, 8, 9, 10, 11, 12, 13, 14, 15, 16, 17] 76 (.bool ((!r37.2) || (!r49.2))) rfl (fun Kg64 => ?_) (fun j64 => ?_)))))))
 ·
  rcases bft (!r37.2) with hb64 | hb64
  ·
   exact Yb hb64 (Xk rfl (Xk rfl (Xc rfl (Kg64 _ (Ag.put ((Ag.put ((Ag.put (Ag.base rfl) rfl)) rfl)) rfl) (by rw [hb64]; rfl)))))
  exact Yb hb64 (Xc rfl (Xc rfl (Xc rfl (Kg64 _ (Ag.put ((Ag.put ((Ag.put (Ag.base rfl) rfl)) rfl)) rfl) (by rw [hb64]; rfl)))))
 refine Xc rfl (ji [11, 12, 13, 14, 15, 16, 17] (fun (y65 : Bool) e w => ∃ (s : St) (e0 : Env), w = s.w ∧ e = upd (upd (upd (upd e0 0 w0_0) 2 (pB b2)) 13 (pB b58)) 81 (.bool y65) ∧ Kp s0 s ∧ BlF s b58 31 [(iI r6.1), (iI r10.1), (iI r37.1.Kind), (iI r37.1.N), v37_0, v37_1, (iI r49.1.Kind), (iI r49.1.N), v49_0, v49_1] 48 ∧ BlF s b2 31 [(iI 0), (iI 0), (iI 0), (iI 0), (.float .f64 0), (.slice none 0 0), (iI 0), (iI 0), (.float .f64 0), (.slice none 0 0)] 40 ∧ OwF Yr s [v37_1] r37.1.T 44 ∧ OwF Yr s [v49_1] r49.1.T 46) (fun Gj65 Kj65 => ?_) ?_)
 ·
  rcases bft ((!r37.2) || (!r49.2)) with hb65 | hb65
  ·
   refine Yb hb65 ?_
   rw [if_pos hb65]
   refine Xk rfl (Xk rfl (Xk rfl (Xc rfl ?_)))
   exact Kj65 _ _ _ ⟨s62, _, rfl, (ue (ue (ue (ue rfl rfl) rfl) rfl) rfl), (K45.st (tr5 p50 p52 p55 p58 p62) rfl), B62, (By16_b2.st (tr8 p38 p40 p43 p50 p52 p55 p58 p62) rfl), (A61.st p62 rfl), (A60.st p62 rfl)⟩
  refine Yb hb65 ?_
  rw [if_neg (by rw [hb65]; decide)]
  refine Ya (es := [(iI r6.1), (iI r10.1), (iI r37.1.Kind), (iI r37.1.N), v37_0, v37_1, (iI r49.1.Kind), (iI r49.1.N), v49_0, v49_1]) B62 u31 z31 rfl ?_
  have A70 := A61.st p62 rfl
  have A71 := A60.st p62 rfl
  refine Yn 49 rfl func79 rfl (impl_TupleOk.calls (Tuple.mk r6.1 r10.1 r37.1 r49.1) s62.w (mm [44, 46] s62) v37_0 v37_1 v49_0 v49_1 ((Xq (s := s62) hu37_0_0).sub (D := [44, 46]) rfl) (A70.rd.sub (D := [44, 46]) rfl) ((Xq (s := s62) hu49_0_0).sub (D := [44, 46]) rfl) (A71.rd.sub (D := [44, 46]) rfl)) (fun r72 s73 p73 n73 => ?_)
  refine Xc rfl (Xc rfl ?_)
  exact Kj65 _ _ _ ⟨s73, _, rfl, (ue (ue (ue (ue rfl rfl) rfl) rfl) rfl), (K45.st (tr6 p50 p52 p55 p58 p62 p73) rfl), (B62.st p73 rfl), (By16_b2.st (tr9 p38 p40 p43 p50 p52 p55 p58 p62 p73) rfl), (A70.st p73 rfl), (A71.st p73 rfl)⟩
 rintro y65 _ _ ⟨s79, _, rfl, rfl, Ky65, By65_b58, By65_b2, Cy65_39, Cy65_51⟩
 refine Xc rfl (ji [] (fun (y82 : Bool) e w => ∃ (s : St) (e0 : Env), w = s.w ∧ e = upd (upd (upd e0 2 (pB b2)) 13 (pB b58)) 88 (.bool y82) ∧ Kp s0 s ∧ BlF s b58 31 [(iI r6.1), (iI r10.1), (iI r37.1.Kind), (iI r37.1.N), v37_0, v37_1, (iI r49.1.Kind), (iI r49.1.N), v49_0, v49_1] 48 ∧ BlF s b2 31 [(iI 0), (iI 0), (iI 0), (iI 0), (.float .f64 0), (.slice none 0 0), (iI 0), (iI 0), (.float .f64 0), (.slice none 0 0)] 40 ∧ OwF Yr s [v37_1] r37.1.T 44 ∧ OwF Yr s [v49_1] r49.1.T 46) (fun Gj82 Kj82 => ?_) ?_)
 ·
  rcases bft y65 with hb82 | hb82
  ·
   refine Yb hb82 ?_
   rw [if_pos hb82]
   exact Xk rfl (Xk rfl (Xk rfl (Xk rfl (Xk rfl (Xc rfl (Kj82 _ _ _ ⟨s79, _, rfl, (ue (ue (ue rfl rfl) rfl) rfl), Ky65, By65_b58, By65_b2, Cy65_39, Cy65_51⟩))))))
  refine Yb hb82 ?_
  rw [if_neg (by rw [hb82]; decide)]
  refine Ya (es := [(iI r6.1), (iI r10.1), (iI r37.1.Kind), (iI r37.1.N), v37_0, v37_1, (iI r49.1.Kind), (iI r49.1.N), v49_0, v49_1]) By65_b58 u31 z31 rfl (clO 50 rfl func81 rfl (impl_TupleBytes.calls (Tuple.mk r6.1 r10.1 r37.1 r49.1) s79.w (mm [44, 46] s79) v37_0 v37_1 v49_0 v49_1 ((Xq (s := s79) hu37_0_0).sub (D := [44, 46]) rfl) (Cy65_39.rd.sub (D := [44, 46]) rfl) ((Xq (s := s79) hu49_0_0).sub (D := [44, 46]) rfl) (Cy65_51.rd.sub (D := [44, 46]) rfl)) (fun r83 v83_0 s84 p84 A83_0 => ?_))
  refine Yc w0_0 rfl ?_
  have K86 := Ky65.st p84 rfl
  refine Yn 51 rfl func187 rfl (bytes_Equal.calls r83 a0 s84.w (mm [50, 0] s84) v83_0 w0_0 (A83_0.rd.sub (D := [50, 0]) rfl) ((A0_0.kp K86).sub (D := [50, 0]) rfl)) (fun r88 s89 p89 n89 => ?_)
  refine Xc rfl (Xc rfl ?_)
  exact Kj82 _ _ _ ⟨s89, _, rfl, (ue (ue (ue rfl rfl) rfl) rfl), (K86.st p89 rfl), (By65_b58.st (Xn p84 p89) rfl), (By65_b2.st (Xn p84 p89) rfl), (Cy65_39.st (Xn p84 p89) rfl), (Cy65_51.st (Xn p84 p89) rfl)⟩
 rintro y82 _ _ ⟨s95, _, rfl, rfl, Ky82, By82_b58, By82_b2, Cy82_39, Cy82_51⟩
 refine dn (cd rfl (fun h98 => ?_) (fun h98 => ?_))
 ·
  refine sr (bd' (cells := [(iI 0), (iI 0), (iI 0), (iI 0), (.float .f64 0), (.slice none 0 0), (iI 0), (iI 0), (.float .f64 0), (.slice none 0 0)]) pl31 o31 rfl rfl (Xx (vs := [(iI 0), (iI 0), (iI 0), (iI 0), (.float .f64 0), (.slice none 0 0), (iI 0), (iI 0), (.float .f64 0), (.slice none 0 0)]) By82_b2 z31 rfl (Xb rfl (Xb rfl (Xb rfl (Xb rfl (Xb (FL.one (Yf rfl)) (Xb rfl (Xb rfl (Xb rfl (Xb (FL.one (Yf rfl)) (Xb rfl Xj)))))))))) rfl (fun s99 p99 B99 => ?_)))
  refine Xc rfl (dn ?_)
  have A101 : OwF kd31 s99 [(iI 0), (iI 0), (iI 0), (iI 0), (.float .f64 0), (.slice none 0 0), (iI 0), (iI 0), (.float .f64 0), (.slice none 0 0)] (Tuple.mk (0 : Int) (0 : Int) (Item.mk (0 : Int) (0 : Int) (0 : Nat) ([] : (List Int))) (Item.mk (0 : Int) (0 : Int) (0 : Nat) ([] : (List Int)))) 52 := ow_z _ _ (Yj (fun x : Tuple => (x.Xmin, x.Xmax, x.Key, x.Value)) (Tuple.mk (0 : Int) (0 : Int) (Item.mk (0 : Int) (0 : Int) (0 : Nat) ([] : (List Int))) (Item.mk (0 : Int) (0 : Int) (0 : Nat) ([] : (List Int)))) (Xi (Xf .i64 (0 : Int)) (Xi (Xf .i64 (0 : Int)) (Xi (Yj (fun x : Item => (x.Kind, x.N, x.F, x.T)) (Item.mk (0 : Int) (0 : Int) (0 : Nat) ([] : (List Int))) (Xi (Xf .i64 (0 : Int)) (Xi (Xf .i64 (0 : Int)) (Xi (Xz (Yf rfl)) (Yk 5 (Kd.int .u8)))))) (Yj (fun x : Item => (x.Kind, x.N, x.F, x.T)) (Item.mk (0 : Int) (0 : Int) (0 : Nat) ([] : (List Int))) (Xi (Xf .i64 (0 : Int)) (Xi (Xf .i64 (0 : Int)) (Xi (Xz (Yf rfl)) (Yk 5 (Kd.int .u8))))))))))
  have K103 := Ky82.st p99 rfl
  exact re rfl func93 rfl (r_b B99 u31 rfl z31 rfl (Xu rfl Xe)) rfl ⟨_, rfl, (.float .f64 0), (.slice none 0 0), (.float .f64 0), (.slice none 0 0), rfl, A101.fo K103 rfl z.l, z.ky K103⟩
 refine sk (sr (Ya (es := [(iI r6.1), (iI r10.1), (iI r37.1.Kind), (iI r37.1.N), v37_0, v37_1, (iI r49.1.Kind), (iI r49.1.N), v49_0, v49_1]) By82_b58 u31 z31 rfl (Xx (vs := [(iI r6.1), (iI r10.1), (iI r37.1.Kind), (iI r37.1.N), v37_0, v37_1, (iI r49.1.Kind), (iI r49.1.N), v49_0, v49_1]) By82_b2 z31 rfl (Xb rfl (Xb rfl (Xb rfl (Xb rfl (Xb (FL.one hu37_0_0) (Xb Cy82_39.rd.one (Xb rfl (Xb rfl (Xb (FL.one hu49_0_0) (Xb Cy82_51.rd.one Xj)))))))))) rfl (fun s104 p104 B104 => ?_))))
 refine Xc rfl (dn ?_)
 obtain ⟨s108, hw108, p108, A108⟩ := ow_2 (Xs (fun x : Item => (x.Kind, x.N, x.F, x.T)) r37.1 (Xy (Xf .i64 r37.1.Kind) (Xy (Xf .i64 r37.1.N) (Xy (Xz hu37_0_0) (Cy82_39.st p104 rfl))))) (Xs (fun x : Item => (x.Kind, x.N, x.F, x.T)) r49.1 (Xy (Xf .i64 r49.1.Kind) (Xy (Xf .i64 r49.1.N) (Xy (Xz hu49_0_0) (Cy82_51.st p104 rfl))))) rfl rfl
 rw [hw108]
 have A110 : OwF kd31 s108 [(iI r6.1), (iI r10.1), (iI r37.1.Kind), (iI r37.1.N), v37_0, v37_1, (iI r49.1.Kind), (iI r49.1.N), v49_0, v49_1] (Tuple.mk r6.1 r10.1 r37.1 r49.1) 44 := (Xs (fun x : Tuple => (x.Xmin, x.Xmax, x.Key, x.Value)) (Tuple.mk r6.1 r10.1 r37.1 r49.1) (Xy (Xf .i64 r6.1) (Xy (Xf .i64 r10.1) A108)))
 have K113 := Ky82.st (Xn p104 p108) rfl
 exact re rfl func93 rfl (r_b (B104.st p108 rfl) u31 rfl z31 rfl (Xu rfl Xe)) rfl ⟨_, rfl, v37_0, v37_1, v49_0, v49_1, rfl, A110.fo K113 rfl z.l, z.ky K113⟩
def impl_Heap_at.f (a0 : Heap) (a1 : Int) (a2 : Int) : Option (Tuple × Bool) :=
 ((impl_within.f a1 (0 : Int) (IntKind.wrap .i64 ((a0.Pages.length : Int) - (1 : Int)))).bind fun r9 => ((if (!r9) = true then (some true) else (if 0 ≤ a1 ∧ a1 < (a0.Pages.length : Int) then ((impl_within.f a2 (0 : Int) (IntKind.wrap .i64 ((((at_ a0.Pages a1).Slots).length : Int) - (1 : Int)))).bind fun r21 => (some (!r21))) else none)).bind fun y11 => (if y11 = true then (some ((Tuple.mk (0 : Int) (0 : Int) (Item.mk (0 : Int) (0 : Int) (0 : Nat) ([] : (List Int))) (Item.mk (0 : Int) (0 : Int) (0 : Nat) ([] : (List Int)))), false)) else (if 0 ≤ a1 ∧ a1 < (a0.Pages.length : Int) then (if 0 ≤ a2 ∧ a2 < (((at_ a0.Pages a1).Slots).length : Int) then ((impl_TupleRead.f (at_ ((at_ a0.Pages a1).Slots) a2)).bind fun r42 => (some (r42.1, r42.2))) else none) else none))))
def impl_Heap_at.Q (w : World) (F : Nat → Prop) (r : Tuple × Bool) (v : Value) (w' : World) : Prop :=
 ∃ (v0 : Value) (v1 : Value) (v2 : Value) (v3 : Value), v = .tuple #[(.agg #[(iI r.1.Xmin), (iI r.1.Xmax), (iI r.1.Key.Kind), (iI r.1.Key.N), v0, v1, (iI r.1.Value.Kind), (iI r.1.Value.N), v2, v3]), (.bool r.2)] ∧ FO kd31 w w' [(iI r.1.Xmin), (iI r.1.Xmax), (iI r.1.Key.Kind), (iI r.1.Key.N), v0, v1, (iI r.1.Value.Kind), (iI r.1.Value.N), v2, v3] r.1 ∧ Ky [] w w'
theorem impl_Heap_at.calls (a0 : Heap) (a1 : Int) (a2 : Int) (w : World) (F : Nat → Prop) (w0_0 : Value) (h0_0 : Yt.rd w [w0_0] a0.Pages F) (r : Tuple × Bool) (m : impl_Heap_at.f a0 a1 a2 = some r) :
  Calls prog 78 #[(.agg #[w0_0]), (iI a1), (iI a2)] w (RT (impl_Heap_at.Q w F) r) := by
 obtain ⟨s0, rfl, kp0, z⟩ := Xl w F
 have A0_0 := z.rd h0_0
 refine Xd (args := [(.agg #[w0_0]), (iI a1), (iI a2)]) func78 ntmps78 rfl m ?_
 unfold impl_Heap_at.f
 refine sr (bx' (cs := [w0_0]) 40 rfl rfl (fun b2 s2 p2 B2 => ?_))
 refine al' (cs := [(iI 0), (iI 0), (iI 0), (iI 0), (.float .f64 0), (.slice none 0 0), (iI 0), (iI 0), (.float .f64 0), (.slice none 0 0)]) 41 rfl o31 rfl (fun b4 s4 p4 B4 => ?_)
 refine Xc rfl (dn (sq (sr (Xc rfl (Ye fa26_0 rfl ?_)))))
 have A6 := B2.st p4 rfl
 refine Yl A6 u24 rfl ?_
 have K7 := kp0.st (Xn p2 p4) rfl
 refine ln' (A0_0.kp K7) u24 rfl (Xc rfl (Yn 42 rfl func94 rfl (impl_within.calls a1 (0 : Int) (IntKind.wrap .i64 ((a0.Pages.length : Int) - (1 : Int))) s4.w (mm [] s4)) (fun r9 s10 p10 n10 => ?_)))
 refine Xc rfl (Xc rfl (ji [] (fun (y11 : Bool) e w => ∃ (s : St) (e0 : Env), w = s.w ∧ e = upd (upd (upd (upd (upd e0 1 (iI a1)) 2 (iI a2)) 3 (pB b2)) 6 (pB b4)) 27 (.bool y11) ∧ Kp s0 s ∧ BlF s b4 31 [(iI 0), (iI 0), (iI 0), (iI 0), (.float .f64 0), (.slice none 0 0), (iI 0), (iI 0), (.float .f64 0), (.slice none 0 0)] 41 ∧ BlF s b2 26 [w0_0] 40) (fun Gj11 Kj11 => ?_) ?_))
 ·
  rcases bft (!r9) with hb11 | hb11
  ·
   refine Yb hb11 ?_
   rw [if_pos hb11]
   refine Xk rfl (Xk rfl (Xk rfl (Xk rfl (Xk rfl (Xk rfl (Xk rfl (Xk rfl (Xk rfl (Xk rfl (Xk rfl (Xc rfl ?_)))))))))))
   exact Kj11 _ _ _ ⟨s10, _, rfl, (ue (ue (ue (ue (ue rfl rfl) rfl) rfl) rfl) rfl), (K7.st p10 rfl), (B4.st p10 rfl), (A6.st p10 rfl)⟩
  refine Yb hb11 ?_
  rw [if_neg (by rw [hb11]; decide)]
  refine Xc rfl (Ye fa26_0 rfl ?_)
  have A15 := A6.st p10 rfl
  refine Yl A15 u24 rfl (Xc rfl ?_)
  have K16 := K7.st p10 rfl
  refine ix' (A0_0.kp K16) u24 z116 rfl (fun ad18 es18 h0_18 h1_18 he18 ce18 ia18 => ?_)
  obtain ⟨v18_0, rfl, A18_0⟩ := op116 he18
  refine Ye fa116_1 rfl (lc ce18 u114 rfl rfl rfl rfl rfl rfl rfl rfl (ln' A18_0 u114 rfl (Xc rfl (Yn 43 rfl func94 rfl (impl_within.calls a2 (0 : Int) (IntKind.wrap .i64 ((((at_ a0.Pages a1).Slots).length : Int) - (1 : Int))) s10.w (mm [] s10)) (fun r21 s22 p22 n22 => ?_)))))
  refine Xc rfl (Xc rfl ?_)
  exact Kj11 _ _ _ ⟨s22, _, rfl, (ue (ue (ue (ue (ue rfl rfl) rfl) rfl) rfl) rfl), (K16.st p22 rfl), (B4.st (Xn p10 p22) rfl), (A15.st p22 rfl)⟩
 rintro y11 _ _ ⟨s26, _, rfl, rfl, Ky11, By11_b4, By11_b2⟩
 refine dn (cd rfl (fun h29 => ?_) (fun h29 => ?_))
 ·
  refine sr (bd' (cells := [(iI 0), (iI 0), (iI 0), (iI 0), (.float .f64 0), (.slice none 0 0), (iI 0), (iI 0), (.float .f64 0), (.slice none 0 0)]) pl31 o31 rfl rfl (Xx (vs := [(iI 0), (iI 0), (iI 0), (iI 0), (.float .f64 0), (.slice none 0 0), (iI 0), (iI 0), (.float .f64 0), (.slice none 0 0)]) By11_b4 z31 rfl (Xb rfl (Xb rfl (Xb rfl (Xb rfl (Xb (FL.one (Yf rfl)) (Xb rfl (Xb rfl (Xb rfl (Xb (FL.one (Yf rfl)) (Xb rfl Xj)))))))))) rfl (fun s30 p30 B30 => ?_)))
  refine Xc rfl (dn ?_)
  have A32 : OwF kd31 s30 [(iI 0), (iI 0), (iI 0), (iI 0), (.float .f64 0), (.slice none 0 0), (iI 0), (iI 0), (.float .f64 0), (.slice none 0 0)] (Tuple.mk (0 : Int) (0 : Int) (Item.mk (0 : Int) (0 : Int) (0 : Nat) ([] : (List Int))) (Item.mk (0 : Int) (0 : Int) (0 : Nat) ([] : (List Int)))) 44 := ow_z _ _ (Yj (fun x : Tuple => (x.Xmin, x.Xmax, x.Key, x.Value)) (Tuple.mk (0 : Int) (0 : Int) (Item.mk (0 : Int) (0 : Int) (0 : Nat) ([] : (List Int))) (Item.mk (0 : Int) (0 : Int) (0 : Nat) ([] : (List Int)))) (Xi (Xf .i64 (0 : Int)) (Xi (Xf .i64 (0 : Int)) (Xi (Yj (fun x : Item => (x.Kind, x.N, x.F, x.T)) (Item.mk (0 : Int) (0 : Int) (0 : Nat) ([] : (List Int))) (Xi (Xf .i64 (0 : Int)) (Xi (Xf .i64 (0 : Int)) (Xi (Xz (Yf rfl)) (Yk 5 (Kd.int .u8)))))) (Yj (fun x : Item => (x.Kind, x.N, x.F, x.T)) (Item.mk (0 : Int) (0 : Int) (0 : Nat) ([] : (List Int))) (Xi (Xf .i64 (0 : Int)) (Xi (Xf .i64 (0 : Int)) (Xi (Xz (Yf rfl)) (Yk 5 (Kd.int .u8))))))))))
  have K34 := Ky11.st p30 rfl
  exact re rfl func78 rfl (r_b B30 u31 rfl z31 rfl (Xu rfl Xe)) rfl ⟨_, rfl, (.float .f64 0), (.slice none 0 0), (.float .f64 0), (.slice none 0 0), rfl, A32.fo K34 rfl z.l, z.ky K34⟩
 refine sk (sr (Ye fa26_0 rfl (Yl By11_b2 u24 rfl (Xc rfl ?_))))
 refine ix' (A0_0.kp Ky11) u24 z116 rfl (fun ad36 es36 h0_36 h1_36 he36 ce36 ia36 => ?_)
 obtain ⟨v36_0, rfl, A36_0⟩ := op116 he36
 refine Ye fa116_1 rfl (lc ce36 u114 rfl rfl rfl rfl rfl rfl rfl rfl (Xc rfl (ix' A36_0 u114 z22 rfl (fun ad39 es39 h0_39 h1_39 he39 ce39 ia39 => ?_))))
 obtain ⟨v39, rfl, he39'⟩ := he39
 have A39 : RdF Yr s26 [v39] (at_ ((at_ a0.Pages a1).Slots) a2) [0] := ⟨v39, rfl, he39'⟩
 refine lc0' ce39 u22 rfl (cl' rfl func93 rfl (impl_TupleRead.calls (at_ ((at_ a0.Pages a1).Slots) a2) s26.w (mm [0] s26) v39 A39) ?_)
 rintro r42 _ w42 m42 ⟨v42_0, v42_1, v42_2, v42_3, rfl, f42_0, ky42⟩
 obtain ⟨s43, rfl, p43, n43⟩ := nwx s26 w42 45 ky42
 obtain ⟨s44, hw44, p44, hu42_0_0, Au42_0_1, hu42_0_2, Au42_0_3⟩ := ap31 46 (f42_0.c n43) rfl
 rw [hw44]
 refine Xc (v := (.agg #[(iI r42.1.Xmin), (iI r42.1.Xmax), (iI r42.1.Key.Kind), (iI r42.1.Key.N), v42_0, v42_1, (iI r42.1.Value.Kind), (iI r42.1.Value.N), v42_2, v42_3])) rfl (Xc (v := (.bool r42.2)) rfl ?_)
 refine Xx (vs := [(iI r42.1.Xmin), (iI r42.1.Xmax), (iI r42.1.Key.Kind), (iI r42.1.Key.N), v42_0, v42_1, (iI r42.1.Value.Kind), (iI r42.1.Value.N), v42_2, v42_3]) (By11_b4.st (Xn p43 p44) rfl) z31 rfl (Xb rfl (Xb rfl (Xb rfl (Xb rfl (Xb (FL.one hu42_0_0) (Xb Au42_0_1.rd.one (Xb rfl (Xb rfl (Xb (FL.one hu42_0_2) (Xb Au42_0_3.rd.one Xj)))))))))) rfl (fun s48 p48 B48 => ?_)
 refine Xc rfl (dn ?_)
 obtain ⟨s52, hw52, p52, A52⟩ := ow_2 (Xs (fun x : Item => (x.Kind, x.N, x.F, x.T)) r42.1.Key (Xy (Xf .i64 r42.1.Key.Kind) (Xy (Xf .i64 r42.1.Key.N) (Xy (Xz hu42_0_0) (Au42_0_1.st p48 rfl))))) (Xs (fun x : Item => (x.Kind, x.N, x.F, x.T)) r42.1.Value (Xy (Xf .i64 r42.1.Value.Kind) (Xy (Xf .i64 r42.1.Value.N) (Xy (Xz hu42_0_2) (Au42_0_3.st p48 rfl))))) rfl rfl
 rw [hw52]
 have A54 : OwF kd31 s52 [(iI r42.1.Xmin), (iI r42.1.Xmax), (iI r42.1.Key.Kind), (iI r42.1.Key.N), v42_0, v42_1, (iI r42.1.Value.Kind), (iI r42.1.Value.N), v42_2, v42_3] r42.1 45 := (Xs (fun x : Tuple => (x.Xmin, x.Xmax, x.Key, x.Value)) r42.1 (Xy (Xf .i64 r42.1.Xmin) (Xy (Xf .i64 r42.1.Xmax) A52)))
 have K57 := Ky11.st (Yo p43 p44 p48 p52) rfl
 exact re rfl func78 rfl (r_b (B48.st p52 rfl) u31 rfl z31 rfl (Xu rfl Xe)) rfl ⟨_, rfl, v42_0, v42_1, v42_2, v42_3, rfl, A54.fo K57 rfl z.l, z.ky K57⟩
def impl_areAll_impl_Page_1.f (a0 : Page) (a1 : (Page → Option Bool)) : Option (Bool) :=
 ((a1 a0).bind fun r8 => (some (!r8)))
def impl_areAll_impl_Page_1.Q (w : World) (F : Nat → Prop) (r : Bool) (v : Value) (w' : World) : Prop :=
 v = (.bool r) ∧ Ky [] w w'
theorem impl_areAll_impl_Page_1.calls (a0 : Page) (a1 : (Page → Option Bool)) (w : World) (F : Nat → Prop) (w0_0 : Value) (c1 : Nat) (f1 : Value) (h0_0 : (Kd.sl 22 Yr).rd w [w0_0] a0.Slots F) (hf1 : ∀ (x0 : Page) (u0_0 : Value) (w' : World), Ky [] w w' → (Kd.sl 22 Yr).rd w' [u0_0] x0.Slots (fun _ => True) → ∀ r, a1 x0 = some r → CallV prog f1 [(.agg #[(iI x0.Lsn), u0_0])] w' fun en w'' => ∃ v, en = .returned v ∧ v = (.bool r) ∧ Ky [] w' w'') (ho1 : f1.cells = #[f1]) (hb1 : BlW w c1 128 [f1]) (hp1 : F c1) (r : Bool) (m : impl_areAll_impl_Page_1.f a0 a1 = some r) :
  Calls prog 181 #[(.agg #[(iI a0.Lsn), w0_0]), (pB c1)] w (RT (impl_areAll_impl_Page_1.Q w F) r) := by
 obtain ⟨s0, rfl, kp0, z⟩ := Xl w F
 refine Xd (args := [(.agg #[(iI a0.Lsn), w0_0]), (pB c1)]) func181 ntmps181 rfl m ?_
 unfold impl_areAll_impl_Page_1.f
 refine sr (bx' (cs := [(iI a0.Lsn), w0_0]) 40 rfl rfl (fun b3 s3 p3 B3 => ?_))
 refine Xc rfl (dn (sr ?_))
 refine Yl (BlF.st (z.b0 hb1 hp1) p3 rfl) u128 rfl (Ya (es := [(iI a0.Lsn), w0_0]) B3 u116 z116 rfl ?_)
 have K6 := kp0.st p3 rfl
 refine clv rfl rfl rfl rfl rfl rfl rfl (fun r8 m8 => hf1 a0 w0_0 s3.w (z.ky K6) (RdF.top ((z.rd h0_0).kp K6)) r8 m8) ?_
 rintro r8 _ w8 m8 ⟨rfl, ky8⟩
 obtain ⟨s9, rfl, p9, n9⟩ := nwx s3 w8 41 ky8
 refine Xc rfl (Xc rfl (dn ?_))
 exact re rfl func181 rfl (Xu rfl Xe) rfl ⟨_, rfl, rfl, z.ky (K6.st p9 rfl)⟩
def slices_IndexFunc_impl_Page_impl_Page.b0 (a0 : (List Page)) (a1 : (Page → Option Bool)) (x2 : Int) : Option (Int ⊕ Int) :=
 (if (decide (x2 < (a0.length : Int))) = true then (if 0 ≤ x2 ∧ x2 < (a0.length : Int) then ((a1 (at_ a0 x2)).bind fun r9 => (if r9 = true then (some (Sum.inr x2)) else (some (Sum.inl (IntKind.wrap .i64 (x2 + (1 : Int))))))) else none) else ((some (-1 : Int)).bind fun o => some (Sum.inr o)))
def slices_IndexFunc_impl_Page_impl_Page.f (a0 : (List Page)) (a1 : (Page → Option Bool)) : Option (Int) :=
 (iter (slices_IndexFunc_impl_Page_impl_Page.b0 a0 a1) (0 : Int))
def slices_IndexFunc_impl_Page_impl_Page.Q (w : World) (F : Nat → Prop) (r : Int) (v : Value) (w' : World) : Prop :=
 v = (iI r) ∧ Ky [] w w'
theorem slices_IndexFunc_impl_Page_impl_Page.calls (a0 : (List Page)) (a1 : (Page → Option Bool)) (w : World) (F : Nat → Prop) (w0_0 : Value) (f1 : Value) (h0_0 : Yt.rd w [w0_0] a0 F) (hf1 : ∀ (x0 : Page) (u0_0 : Value) (w' : World), Ky [] w w' → (Kd.sl 22 Yr).rd w' [u0_0] x0.Slots (fun _ => True) → ∀ r, a1 x0 = some r → CallV prog f1 [(.agg #[(iI x0.Lsn), u0_0])] w' fun en w'' => ∃ v, en = .returned v ∧ v = (.bool r) ∧ Ky [] w' w'') (ho1 : f1.cells = #[f1]) (r : Int) (m : slices_IndexFunc_impl_Page_impl_Page.f a0 a1 = some r) :
  Calls prog 240 #[w0_0, f1] w (RT (slices_IndexFunc_impl_Page_impl_Page.Q w F) r) := by
 obtain ⟨s0, rfl, kp0, z⟩ := Xl w F
 have A0_0 := z.rd h0_0
 refine Xd (args := [w0_0, f1]) func240 ntmps240 rfl m ?_
 unfold slices_IndexFunc_impl_Page_impl_Page.f
 refine sr (Xc rfl (dn (sq (sr (Yc w0_0 rfl (ln' A0_0 u24 rfl (Xc rfl (dn (bl (lpI (fun (x2 : Int) e w => ∃ (s : St) (e0 : Env), w = s.w ∧ e = upd (upd (upd (upd e0 0 w0_0) 1 f1) 7 (iI (a0.length : Int))) 8 (iI x2) ∧ Kp s0 s) ⟨s0, _, rfl, (ue (ue (ue (ue rfl rfl) rfl) rfl) rfl), kp0⟩ (fun g2 ih2 => ?_)))))))))))
 rintro x2 _ _ ⟨s3, _, rfl, rfl, Kx2⟩
 unfold slices_IndexFunc_impl_Page_impl_Page.b0
 refine sr (Xc rfl (dn (sq (cd rfl (fun h4 => ?_) (fun h4 => ?_)))))
 ·
  refine sk (sq (bl (sr (Xc rfl (Xc rfl (dn (sr (Yc f1 rfl (Yc w0_0 rfl (Xc rfl ?_))))))))))
  refine ix' (A0_0.kp Kx2) u24 z116 rfl (fun ad6 es6 h0_6 h1_6 he6 ce6 ia6 => ?_)
  obtain ⟨v6_0, rfl, A6_0⟩ := op116 he6
  refine lca ce6 u116 z116 rfl rfl rfl rfl rfl rfl rfl (clv rfl rfl rfl rfl rfl rfl rfl (fun r9 m9 => hf1 (at_ a0 x2) v6_0 s3.w (z.ky Kx2) (RdF.top A6_0) r9 m9) ?_)
  rintro r9 _ w9 m9 ⟨rfl, ky9⟩
  obtain ⟨s10, rfl, p10, n10⟩ := nwx s3 w9 40 ky9
  refine dn (cd rfl (fun h11 => ?_) (fun h11 => ?_))
  ·
   refine sr (Xc rfl (Xc rfl (dn (sgi ?_))))
   exact re rfl func240 rfl (Xu rfl Xe) rfl ⟨_, rfl, rfl, z.ky (Kx2.st p10 rfl)⟩
  refine sk (ib (rg (Xc rfl (Xc rfl (dn ?_)))))
  exact lb ih2 ⟨s10, _, rfl, (ue (ue (ue (ue rfl rfl) rfl) rfl) rfl), (Kx2.st p10 rfl)⟩
 exact xt rfl (sgb (sr (Xc rfl (dn (re rfl func240 rfl (Xu rfl Xe) rfl ⟨_, rfl, rfl, z.ky Kx2⟩)))))
def slices_ContainsFunc_impl_Page_impl_Page.f (a0 : (List Page)) (a1 : (Page → Option Bool)) : Option (Bool) :=
 ((slices_IndexFunc_impl_Page_impl_Page.f a0 a1).bind fun r2 => (some (decide (r2 ≥ (0 : Int)))))
def slices_ContainsFunc_impl_Page_impl_Page.Q (w : World) (F : Nat → Prop) (r : Bool) (v : Value) (w' : World) : Prop :=
 v = (.bool r) ∧ Ky [] w w'
theorem slices_ContainsFunc_impl_Page_impl_Page.calls (a0 : (List Page)) (a1 : (Page → Option Bool)) (w : World) (F : Nat → Prop) (w0_0 : Value) (f1 : Value) (h0_0 : Yt.rd w [w0_0] a0 F) (hf1 : ∀ (x0 : Page) (u0_0 : Value) (w' : World), Ky [] w w' → (Kd.sl 22 Yr).rd w' [u0_0] x0.Slots (fun _ => True) → ∀ r, a1 x0 = some r → CallV prog f1 [(.agg #[(iI x0.Lsn), u0_0])] w' fun en w'' => ∃ v, en = .returned v ∧ v = (.bool r) ∧ Ky [] w' w'') (ho1 : f1.cells = #[f1]) (r : Bool) (m : slices_ContainsFunc_impl_Page_impl_Page.f a0 a1 = some r) :
  Calls prog 180 #[w0_0, f1] w (RT (slices_ContainsFunc_impl_Page_impl_Page.Q w F) r) := by
 obtain ⟨s0, rfl, kp0, z⟩ := Xl w F
 refine Xd (args := [w0_0, f1]) func180 ntmps180 rfl m ?_
 unfold slices_ContainsFunc_impl_Page_impl_Page.f
 refine sr (Xc rfl (dn (sr (Yc w0_0 rfl (Yc f1 rfl (Yn 40 rfl func240 rfl (slices_IndexFunc_impl_Page_impl_Page.calls a0 a1 s0.w (mm [0] s0) w0_0 f1 (z.rd h0_0) (fun x0 u0_0 w' k h0 r m =>  hf1 x0 u0_0 w' (Ky.trans (z.ky kp0) k) h0 r m) ho1) (fun r2 s3 p3 n3 => ?_)))))))
 refine Xc rfl (Xc rfl (dn ?_))
 exact re rfl func180 rfl (Xu rfl Xe) rfl ⟨_, rfl, rfl, z.ky (kp0.st p3 rfl)⟩
def impl_areAll_impl_Page.f (a0 : (List Page)) (a1 : (Page → Option Bool)) : Option (Bool) :=
 ((slices_ContainsFunc_impl_Page_impl_Page.f a0 (fun x0 => impl_areAll_impl_Page_1.f x0 a1)).bind fun r6 => (some (!r6)))
def impl_areAll_impl_Page.Q (w : World) (F : Nat → Prop) (r : Bool) (v : Value) (w' : World) : Prop :=
 v = (.bool r) ∧ Ky [] w w'
theorem impl_areAll_impl_Page.calls (a0 : (List Page)) (a1 : (Page → Option Bool)) (w : World) (F : Nat → Prop) (w0_0 : Value) (f1 : Value) (h0_0 : Yt.rd w [w0_0] a0 F) (hf1 : ∀ (x0 : Page) (u0_0 : Value) (w' : World), Ky [] w w' → (Kd.sl 22 Yr).rd w' [u0_0] x0.Slots (fun _ => True) → ∀ r, a1 x0 = some r → CallV prog f1 [(.agg #[(iI x0.Lsn), u0_0])] w' fun en w'' => ∃ v, en = .returned v ∧ v = (.bool r) ∧ Ky [] w' w'') (ho1 : f1.cells = #[f1]) (r : Bool) (m : impl_areAll_impl_Page.f a0 a1 = some r) :
  Calls prog 88 #[w0_0, f1] w (RT (impl_areAll_impl_Page.Q w F) r) := by
 obtain ⟨s0, rfl, kp0, z⟩ := Xl w F
 refine Xd (args := [w0_0, f1]) func88 ntmps88 rfl m ?_
 unfold impl_areAll_impl_Page.f
 refine sr (bx' (cs := [f1]) 40 rfl ho1 (fun b2 s2 p2 B2 => ?_))
 refine Xc rfl (dn (sr (Yc w0_0 rfl (mkf (fs := []) (cs := [(pB b2)]) rfl rfl rfl rfl rfl rfl rfl ?_))))
 have K4 := kp0.st p2 rfl
 refine Yn 41 rfl func180 rfl (slices_ContainsFunc_impl_Page_impl_Page.calls a0 (fun x0 => impl_areAll_impl_Page_1.f x0 a1) s2.w (mm [0] s2) w0_0 (.func (.func 181) (List.toArray []) (List.toArray [(pB b2)])) ((z.rd h0_0).kp K4) (fun x0 u0_0 w' k h0 r m =>  ⟨181, _, _, [], [(pB b2)], rfl, func181, rfl, rfl, (impl_areAll_impl_Page_1.calls x0 a1 w' (fun _ => True) u0_0 b2 f1 h0 (fun x0c u0_0c w'c kc h0c r m =>  hf1 x0c u0_0c w'c (Ky.trans (z.ky K4) (Ky.trans k kc)) h0c r m) ho1 (B2.ky k) trivial r m).mono fun en w2 hq => by obtain ⟨v, e, q⟩ := hq; exact ⟨v, e, q⟩⟩) rfl) (fun r6 s7 p7 n7 => ?_)
 refine Xc rfl (Xc rfl (dn ?_))
 exact re rfl func88 rfl (Xu rfl Xe) rfl ⟨_, rfl, rfl, z.ky (K4.st p7 rfl)⟩
def impl_PageUsed.b0 (a0 : Page) (x15 : Int × Int) : Option ((Int × Int) ⊕ Int) :=
 (if (decide (x15.2 < (a0.Slots.length : Int))) = true then (if 0 ≤ x15.2 ∧ x15.2 < (a0.Slots.length : Int) then (if (decide (((at_ a0.Slots x15.2).length : Int) > (92 : Int))) = true then (some (Sum.inr (-1 : Int))) else (some (Sum.inl ((IntKind.wrap .i64 (x15.1 + ((at_ a0.Slots x15.2).length : Int))), (IntKind.wrap .i64 (x15.2 + (1 : Int))))))) else none) else (((if (decide (x15.1 > (240 : Int))) = true then (some true) else ((if (decide ((a0.Slots.length : Int) > (0 : Int))) = true then (if 0 ≤ (IntKind.wrap .i64 ((a0.Slots.length : Int) - (1 : Int))) ∧ (IntKind.wrap .i64 ((a0.Slots.length : Int) - (1 : Int))) < (a0.Slots.length : Int) then (some (((at_ a0.Slots (IntKind.wrap .i64 ((a0.Slots.length : Int) - (1 : Int)))).length : Int) == (0 : Int))) else none) else (some false)).bind fun y26 => (some y26))).bind fun y24 => (if y24 = true then (some (-1 : Int)) else (some x15.1))).bind fun o => some (Sum.inr o)))
def impl_PageUsed.f (a0 : Page) : Option (Int) :=
 ((impl_within.f a0.Lsn (0 : Int) (1000000 : Int)).bind fun r4 => (if ((!r4) || (decide ((a0.Slots.length : Int) > (16 : Int)))) = true then (some (-1 : Int)) else (iter (impl_PageUsed.b0 a0) ((IntKind.wrap .i64 ((1 : Int) + (a0.Slots.length : Int))), (0 : Int)))))
def impl_PageUsed.Q (w : World) (F : Nat → Prop) (r : Int) (v : Value) (w' : World) : Prop :=
 v = (iI r) ∧ Ky [] w w'
theorem impl_PageUsed.calls (a0 : Page) (w : World) (F : Nat → Prop) (w0_0 : Value) (h0_0 : (Kd.sl 22 Yr).rd w [w0_0] a0.Slots F) (r : Int) (m : impl_PageUsed.f a0 = some r) :
  Calls prog 90 #[(.agg #[(iI a0.Lsn), w0_0])] w (RT (impl_PageUsed.Q w F) r) := by
 obtain ⟨s0, rfl, kp0, z⟩ := Xl w F
 have A0_0 := z.rd h0_0
 refine Xd (args := [(.agg #[(iI a0.Lsn), w0_0])]) func90 ntmps90 rfl m ?_
 unfold impl_PageUsed.f
 refine sr (bx' (cs := [(iI a0.Lsn), w0_0]) 40 rfl rfl (fun b2 s2 p2 B2 => ?_))
 refine Xc rfl (dn (sq (sr (Ye fa116_0 rfl (Yl B2 u3 rfl (Yn 41 rfl func94 rfl (impl_within.calls a0.Lsn (0 : Int) (1000000 : Int) s2.w (mm [] s2)) (fun r4 s5 p5 n5 => ?_)))))))
 refine Xc rfl (Xc rfl (jy [10, 11, 12, 13, 14, 15] [] 15 (.bool ((!r4) || (decide ((a0.Slots.length : Int) > (16 : Int))))) rfl (fun Kg6 => ?_) (fun j6 => ?_)))
 ·
  rcases bft (!r4) with hb6 | hb6
  ·
   exact Yb hb6 (Xk rfl (Xk rfl (Xk rfl (Xk rfl (Xc rfl (Kg6 _ (Ag.put ((Ag.put ((Ag.put ((Ag.put ((Ag.put (Ag.base rfl) rfl)) rfl)) rfl)) rfl)) rfl) (by rw [hb6]; rfl)))))))
  refine Yb hb6 (Ye fa116_1 rfl ?_)
  exact Yl (B2.st p5 rfl) u114 rfl (ln' (A0_0.kp (kp0.st (Xn p2 p5) rfl)) u114 rfl (Xc rfl (Xc rfl (Kg6 _ (Ag.put ((Ag.put ((Ag.put ((Ag.put ((Ag.put (Ag.base rfl) rfl)) rfl)) rfl)) rfl)) rfl) (by rw [hb6]; rfl)))))
 refine dn (cd rfl (fun h10 => ?_) (fun h10 => ?_))
 ·
  refine sr (Xc rfl (dn ?_))
  exact re rfl func90 rfl (Xu rfl Xe) rfl ⟨_, rfl, rfl, z.ky (kp0.st (Xn p2 p5) rfl)⟩
 refine sk (sr (Ye fa116_1 rfl ?_))
 have A12 := B2.st p5 rfl
 refine Yl A12 u114 rfl ?_
 have K13 := kp0.st (Xn p2 p5) rfl
 have A14 := A0_0.kp K13
 refine ln' A14 u114 rfl (Xc rfl (Xc rfl (dn (sq (sr (Ye fa116_1 rfl (Yl A12 u114 rfl (ln' A14 u114 rfl (Xc rfl (dn (bl (lpI (fun (x15 : Int × Int) e w => ∃ (s : St) (e0 : Env), w = s.w ∧ e = upd (upd (upd (upd (upd e0 1 (pB b2)) 3 (iI x15.1)) 21 w0_0) 22 (iI (a0.Slots.length : Int))) 23 (iI x15.2) ∧ Kp s0 s ∧ BlF s b2 116 [(iI a0.Lsn), w0_0] 40) ⟨s5, _, rfl, (ue (ue (ue (ue (ue rfl rfl) rfl) rfl) rfl) rfl), K13, A12⟩ (fun g15 ih15 => ?_)))))))))))))
 rintro x15 _ _ ⟨s16, _, rfl, rfl, Kx15, Bx15_b2⟩
 unfold impl_PageUsed.b0
 refine sr (Xc rfl (dn (sq (cd rfl (fun h18 => ?_) (fun h18 => ?_)))))
 ·
  refine sk (sq (bl (sr ?_)))
  refine ix' (A0_0.kp Kx15) u114 z22 rfl (fun ad20 es20 h0_20 h1_20 he20 ce20 ia20 => ?_)
  obtain ⟨v20, rfl, he20'⟩ := he20
  have A20 : RdF Yr s16 [v20] (at_ a0.Slots x15.2) [0] := ⟨v20, rfl, he20'⟩
  refine lc0' ce20 u22 rfl (Yh v20 rfl (dn (sq (sr (Yc v20 rfl (ln' A20 u22 rfl (Xc rfl (dn (cd rfl (fun h23 => ?_) (fun h23 => ?_))))))))))
  ·
   exact sr (Xc rfl (dn (sgi (re rfl func90 rfl (Xu rfl Xe) rfl ⟨_, rfl, rfl, z.ky Kx15⟩))))
  exact sk (rg (Xc rfl (Yc v20 rfl (ln' A20 u22 rfl (Xc rfl (Xc rfl (dn (ib (rg (Xc rfl (Xc rfl (dn (lb ih15 ⟨s16, _, rfl, (ue (ue (ue (ue (ue rfl rfl) rfl) rfl) rfl) rfl), Kx15, Bx15_b2⟩)))))))))))))
 refine xt rfl (sgb (sq (sr (Xc rfl (Xc rfl (Xc rfl (ji [] (fun (y24 : Bool) e w => ∃ (s : St) (e0 : Env), w = s.w ∧ e = upd (upd e0 3 (iI x15.1)) 54 (.bool y24) ∧ Kp s0 s) (fun Gj24 Kj24 => ?_) ?_)))))))
 ·
  rcases bft (decide (x15.1 > (240 : Int))) with hb24 | hb24
  ·
   refine Yb hb24 ?_
   rw [if_pos hb24]
   refine Xk rfl (Xk rfl (Xk rfl (Xk rfl (Xk rfl (Xk rfl (Xk rfl (Xk rfl (Xk rfl (Xk rfl (Xk rfl (Xk rfl (Xk rfl (Xk rfl (Xk rfl ?_))))))))))))))
   exact Xk rfl (Xc rfl (Kj24 _ _ _ ⟨s16, _, rfl, (ue (ue rfl rfl) rfl), Kx15⟩))
  refine Yb hb24 ?_
  rw [if_neg (by rw [hb24]; decide)]
  refine Ye fa116_1 rfl (Yl Bx15_b2 u114 rfl ?_)
  have A25 := A0_0.kp Kx15
  refine ln' A25 u114 rfl (Xc rfl (Xc rfl (ji [19] (fun (y26 : Bool) e w => ∃ (s : St) (e0 : Env), w = s.w ∧ e = upd (upd (upd e0 3 (iI x15.1)) 37 (.bool false)) 53 (.bool y26) ∧ Kp s0 s) (fun Gj26 Kj26 => ?_) ?_)))
  ·
   rcases bft (decide ((a0.Slots.length : Int) > (0 : Int))) with hb26 | hb26
   ·
    refine Yb hb26 ?_
    rw [if_pos hb26]
    refine Ye fa116_1 rfl (Yl Bx15_b2 u114 rfl (Ye fa116_1 rfl (Yl Bx15_b2 u114 rfl (ln' A25 u114 rfl (Xc rfl (ix' A25 u114 z22 rfl (fun ad27 es27 h0_27 h1_27 he27 ce27 ia27 => ?_)))))))
    obtain ⟨v27, rfl, he27'⟩ := he27
    have A27 : RdF Yr s16 [v27] (at_ a0.Slots (IntKind.wrap .i64 ((a0.Slots.length : Int) - (1 : Int)))) [0] := ⟨v27, rfl, he27'⟩
    exact lc0' ce27 u22 rfl (ln' A27 u22 rfl (Xc rfl (Xc rfl (Kj26 _ _ _ ⟨s16, _, rfl, (ue (ue (ue rfl rfl) rfl) rfl), Kx15⟩))))
   refine Yb hb26 ?_
   rw [if_neg (by rw [hb26]; decide)]
   exact Xk rfl (Xk rfl (Xk rfl (Xk rfl (Xk rfl (Xk rfl (Xk rfl (Xk rfl (Xk rfl (Xk rfl (Xc rfl (Kj26 _ _ _ ⟨s16, _, rfl, (ue (ue (ue rfl rfl) rfl) rfl), Kx15⟩)))))))))))
  rintro y26 _ _ ⟨s30, _, rfl, rfl, Ky26⟩
  exact Xc rfl (Kj24 _ _ _ ⟨s30, _, rfl, (ue (ue rfl rfl) rfl), Ky26⟩)
 rintro y24 _ _ ⟨s31, _, rfl, rfl, Ky24⟩
 refine dn (cd rfl (fun h32 => ?_) (fun h32 => ?_))
 ·
  exact sr (Xc rfl (dn (re rfl func90 rfl (Xu rfl Xe) rfl ⟨_, rfl, rfl, z.ky Ky24⟩)))
 exact sk (sr (Xc rfl (Xc rfl (dn (re rfl func90 rfl (Xu rfl Xe) rfl ⟨_, rfl, rfl, z.ky Ky24⟩)))))
def impl_areAll_byte_1.f (a0 : (List Int)) (a1 : ((List Int) → Option Bool)) : Option (Bool) :=
 ((a1 a0).bind fun r3 => (some (!r3)))
def impl_areAll_byte_1.Q (w : World) (F : Nat → Prop) (r : Bool) (v : Value) (w' : World) : Prop :=
 v = (.bool r) ∧ Ky [] w w'
theorem impl_areAll_byte_1.calls (a0 : (List Int)) (a1 : ((List Int) → Option Bool)) (w : World) (F : Nat → Prop) (w0_0 : Value) (c1 : Nat) (f1 : Value) (h0_0 : Yr.rd w [w0_0] a0 F) (hf1 : ∀ (x0 : (List Int)) (u0_0 : Value) (w' : World), Ky [] w w' → Yr.rd w' [u0_0] x0 (fun _ => True) → ∀ r, a1 x0 = some r → CallV prog f1 [u0_0] w' fun en w'' => ∃ v, en = .returned v ∧ v = (.bool r) ∧ Ky [] w' w'') (ho1 : f1.cells = #[f1]) (hb1 : BlW w c1 23 [f1]) (hp1 : F c1) (r : Bool) (m : impl_areAll_byte_1.f a0 a1 = some r) :
  Calls prog 183 #[w0_0, (pB c1)] w (RT (impl_areAll_byte_1.Q w F) r) := by
 obtain ⟨s0, rfl, kp0, z⟩ := Xl w F
 refine Xd (args := [w0_0, (pB c1)]) func183 ntmps183 rfl m ?_
 unfold impl_areAll_byte_1.f
 refine sr (Xc rfl (dn (sr (Yl (z.b0 hb1 hp1) u23 rfl (Yc w0_0 rfl (clv rfl rfl rfl rfl rfl rfl rfl (fun r3 m3 => hf1 a0 w0_0 s0.w (z.ky kp0) (RdF.top (z.rd h0_0)) r3 m3) ?_))))))
 rintro r3 _ w3 m3 ⟨rfl, ky3⟩
 obtain ⟨s4, rfl, p4, n4⟩ := nwx s0 w3 40 ky3
 refine Xc rfl (Xc rfl (dn ?_))
 exact re rfl func183 rfl (Xu rfl Xe) rfl ⟨_, rfl, rfl, z.ky (kp0.st p4 rfl)⟩
def slices_IndexFunc_byte_byte.b0 (a0 : (List (List Int))) (a1 : ((List Int) → Option Bool)) (x2 : Int) : Option (Int ⊕ Int) :=
 (if (decide (x2 < (a0.length : Int))) = true then (if 0 ≤ x2 ∧ x2 < (a0.length : Int) then ((a1 (at_ a0 x2)).bind fun r9 => (if r9 = true then (some (Sum.inr x2)) else (some (Sum.inl (IntKind.wrap .i64 (x2 + (1 : Int))))))) else none) else ((some (-1 : Int)).bind fun o => some (Sum.inr o)))
def slices_IndexFunc_byte_byte.f (a0 : (List (List Int))) (a1 : ((List Int) → Option Bool)) : Option (Int) :=
 (iter (slices_IndexFunc_byte_byte.b0 a0 a1) (0 : Int))
def slices_IndexFunc_byte_byte.Q (w : World) (F : Nat → Prop) (r : Int) (v : Value) (w' : World) : Prop :=
 v = (iI r) ∧ Ky [] w w'
theorem slices_IndexFunc_byte_byte.calls (a0 : (List (List Int))) (a1 : ((List Int) → Option Bool)) (w : World) (F : Nat → Prop) (w0_0 : Value) (f1 : Value) (h0_0 : (Kd.sl 22 Yr).rd w [w0_0] a0 F) (hf1 : ∀ (x0 : (List Int)) (u0_0 : Value) (w' : World), Ky [] w w' → Yr.rd w' [u0_0] x0 (fun _ => True) → ∀ r, a1 x0 = some r → CallV prog f1 [u0_0] w' fun en w'' => ∃ v, en = .returned v ∧ v = (.bool r) ∧ Ky [] w' w'') (ho1 : f1.cells = #[f1]) (r : Int) (m : slices_IndexFunc_byte_byte.f a0 a1 = some r) :
  Calls prog 241 #[w0_0, f1] w (RT (slices_IndexFunc_byte_byte.Q w F) r) := by
 obtain ⟨s0, rfl, kp0, z⟩ := Xl w F
 have A0_0 := z.rd h0_0
 refine Xd (args := [w0_0, f1]) func241 ntmps241 rfl m ?_
 unfold slices_IndexFunc_byte_byte.f
 refine sr (Xc rfl (dn (sq (sr (Yc w0_0 rfl (ln' A0_0 u114 rfl (Xc rfl (dn (bl (lpI (fun (x2 : Int) e w => ∃ (s : St) (e0 : Env), w = s.w ∧ e = upd (upd (upd (upd e0 0 w0_0) 1 f1) 7 (iI (a0.length : Int))) 8 (iI x2) ∧ Kp s0 s) ⟨s0, _, rfl, (ue (ue (ue (ue rfl rfl) rfl) rfl) rfl), kp0⟩ (fun g2 ih2 => ?_)))))))))))
 rintro x2 _ _ ⟨s3, _, rfl, rfl, Kx2⟩
 unfold slices_IndexFunc_byte_byte.b0
 refine sr (Xc rfl (dn (sq (cd rfl (fun h4 => ?_) (fun h4 => ?_)))))
 ·
  refine sk (sq (bl (sr (Xc rfl (Xc rfl (dn (sr (Yc f1 rfl (Yc w0_0 rfl (Xc rfl ?_))))))))))
  refine ix' (A0_0.kp Kx2) u114 z22 rfl (fun ad6 es6 h0_6 h1_6 he6 ce6 ia6 => ?_)
  obtain ⟨v6, rfl, he6'⟩ := he6
  have A6 : RdF Yr s3 [v6] (at_ a0 x2) [0] := ⟨v6, rfl, he6'⟩
  refine lc0' ce6 u22 rfl (clv rfl rfl rfl rfl rfl rfl rfl (fun r9 m9 => hf1 (at_ a0 x2) v6 s3.w (z.ky Kx2) (RdF.top A6) r9 m9) ?_)
  rintro r9 _ w9 m9 ⟨rfl, ky9⟩
  obtain ⟨s10, rfl, p10, n10⟩ := nwx s3 w9 40 ky9
  refine dn (cd rfl (fun h11 => ?_) (fun h11 => ?_))
  ·
   refine sr (Xc rfl (Xc rfl (dn (sgi ?_))))
   exact re rfl func241 rfl (Xu rfl Xe) rfl ⟨_, rfl, rfl, z.ky (Kx2.st p10 rfl)⟩
  refine sk (ib (rg (Xc rfl (Xc rfl (dn ?_)))))
  exact lb ih2 ⟨s10, _, rfl, (ue (ue (ue (ue rfl rfl) rfl) rfl) rfl), (Kx2.st p10 rfl)⟩
 exact xt rfl (sgb (sr (Xc rfl (dn (re rfl func241 rfl (Xu rfl Xe) rfl ⟨_, rfl, rfl, z.ky Kx2⟩)))))
def slices_ContainsFunc_byte_byte.f (a0 : (List (List Int))) (a1 : ((List Int) → Option Bool)) : Option (Bool) :=
 ((slices_IndexFunc_byte_byte.f a0 a1).bind fun r2 => (some (decide (r2 ≥ (0 : Int)))))
def slices_ContainsFunc_byte_byte.Q (w : World) (F : Nat → Prop) (r : Bool) (v : Value) (w' : World) : Prop :=
 v = (.bool r) ∧ Ky [] w w'
theorem slices_ContainsFunc_byte_byte.calls (a0 : (List (List Int))) (a1 : ((List Int) → Option Bool)) (w : World) (F : Nat → Prop) (w0_0 : Value) (f1 : Value) (h0_0 : (Kd.sl 22 Yr).rd w [w0_0] a0 F) (hf1 : ∀ (x0 : (List Int)) (u0_0 : Value) (w' : World), Ky [] w w' → Yr.rd w' [u0_0] x0 (fun _ => True) → ∀ r, a1 x0 = some r → CallV prog f1 [u0_0] w' fun en w'' => ∃ v, en = .returned v ∧ v = (.bool r) ∧ Ky [] w' w'') (ho1 : f1.cells = #[f1]) (r : Bool) (m : slices_ContainsFunc_byte_byte.f a0 a1 = some r) :
  Calls prog 182 #[w0_0, f1] w (RT (slices_ContainsFunc_byte_byte.Q w F) r) := by
 obtain ⟨s0, rfl, kp0, z⟩ := Xl w F
 refine Xd (args := [w0_0, f1]) func182 ntmps182 rfl m ?_
 unfold slices_ContainsFunc_byte_byte.f
 refine sr (Xc rfl (dn (sr (Yc w0_0 rfl (Yc f1 rfl (Yn 40 rfl func241 rfl (slices_IndexFunc_byte_byte.calls a0 a1 s0.w (mm [0] s0) w0_0 f1 (z.rd h0_0) (fun x0 u0_0 w' k h0 r m =>  hf1 x0 u0_0 w' (Ky.trans (z.ky kp0) k) h0 r m) ho1) (fun r2 s3 p3 n3 => ?_)))))))
 refine Xc rfl (Xc rfl (dn ?_))
 exact re rfl func182 rfl (Xu rfl Xe) rfl ⟨_, rfl, rfl, z.ky (kp0.st p3 rfl)⟩
def impl_areAll_byte.f (a0 : (List (List Int))) (a1 : ((List Int) → Option Bool)) : Option (Bool) :=
 ((slices_ContainsFunc_byte_byte.f a0 (fun x0 => impl_areAll_byte_1.f x0 a1)).bind fun r6 => (some (!r6)))
def impl_areAll_byte.Q (w : World) (F : Nat → Prop) (r : Bool) (v : Value) (w' : World) : Prop :=
 v = (.bool r) ∧ Ky [] w w'
theorem impl_areAll_byte.calls (a0 : (List (List Int))) (a1 : ((List Int) → Option Bool)) (w : World) (F : Nat → Prop) (w0_0 : Value) (f1 : Value) (h0_0 : (Kd.sl 22 Yr).rd w [w0_0] a0 F) (hf1 : ∀ (x0 : (List Int)) (u0_0 : Value) (w' : World), Ky [] w w' → Yr.rd w' [u0_0] x0 (fun _ => True) → ∀ r, a1 x0 = some r → CallV prog f1 [u0_0] w' fun en w'' => ∃ v, en = .returned v ∧ v = (.bool r) ∧ Ky [] w' w'') (ho1 : f1.cells = #[f1]) (r : Bool) (m : impl_areAll_byte.f a0 a1 = some r) :
  Calls prog 91 #[w0_0, f1] w (RT (impl_areAll_byte.Q w F) r) := by
 obtain ⟨s0, rfl, kp0, z⟩ := Xl w F
 refine Xd (args := [w0_0, f1]) func91 ntmps91 rfl m ?_
 unfold impl_areAll_byte.f
 refine sr (bx' (cs := [f1]) 40 rfl ho1 (fun b2 s2 p2 B2 => ?_))
 refine Xc rfl (dn (sr (Yc w0_0 rfl (mkf (fs := []) (cs := [(pB b2)]) rfl rfl rfl rfl rfl rfl rfl ?_))))
 have K4 := kp0.st p2 rfl
 refine Yn 41 rfl func182 rfl (slices_ContainsFunc_byte_byte.calls a0 (fun x0 => impl_areAll_byte_1.f x0 a1) s2.w (mm [0] s2) w0_0 (.func (.func 183) (List.toArray []) (List.toArray [(pB b2)])) ((z.rd h0_0).kp K4) (fun x0 u0_0 w' k h0 r m =>  ⟨183, _, _, [], [(pB b2)], rfl, func183, rfl, rfl, (impl_areAll_byte_1.calls x0 a1 w' (fun _ => True) u0_0 b2 f1 h0 (fun x0c u0_0c w'c kc h0c r m =>  hf1 x0c u0_0c w'c (Ky.trans (z.ky K4) (Ky.trans k kc)) h0c r m) ho1 (B2.ky k) trivial r m).mono fun en w2 hq => by obtain ⟨v, e, q⟩ := hq; exact ⟨v, e, q⟩⟩) rfl) (fun r6 s7 p7 n7 => ?_)
 refine Xc rfl (Xc rfl (dn ?_))
 exact re rfl func91 rfl (Xu rfl Xe) rfl ⟨_, rfl, rfl, z.ky (K4.st p7 rfl)⟩
def impl_HeapOk_1_1.f (a0 : (List Int)) : Option (Bool) :=
 ((impl_TupleRead.f a0).bind fun r2 => (some (r2.2 || ((a0.length : Int) == (0 : Int)))))
def impl_HeapOk_1_1.Q (w : World) (F : Nat → Prop) (r : Bool) (v : Value) (w' : World) : Prop :=
 v = (.bool r) ∧ Ky [] w w'
theorem impl_HeapOk_1_1.calls (a0 : (List Int)) (w : World) (F : Nat → Prop) (w0_0 : Value) (h0_0 : Yr.rd w [w0_0] a0 F) (r : Bool) (m : impl_HeapOk_1_1.f a0 = some r) :
  Calls prog 92 #[w0_0] w (RT (impl_HeapOk_1_1.Q w F) r) := by
 obtain ⟨s0, rfl, kp0, z⟩ := Xl w F
 have A0_0 := z.rd h0_0
 refine Xd (args := [w0_0]) func92 ntmps92 rfl m ?_
 unfold impl_HeapOk_1_1.f
 refine sr (Xc rfl (dn (sr (Yc w0_0 rfl (cl' rfl func93 rfl (impl_TupleRead.calls a0 s0.w (mm [0] s0) w0_0 A0_0) ?_)))))
 rintro r2 _ w2 m2 ⟨v2_0, v2_1, v2_2, v2_3, rfl, f2_0, ky2⟩
 obtain ⟨s3, rfl, p3, n3⟩ := nwx s0 w2 40 ky2
 obtain ⟨s4, hw4, p4, hu2_0_0, Au2_0_1, hu2_0_2, Au2_0_3⟩ := ap31 41 (f2_0.c n3) rfl
 rw [hw4]
 refine Xc rfl (Xc (v := (.agg #[(iI r2.1.Xmin), (iI r2.1.Xmax), (iI r2.1.Key.Kind), (iI r2.1.Key.N), v2_0, v2_1, (iI r2.1.Value.Kind), (iI r2.1.Value.N), v2_2, v2_3])) rfl (Xc (v := (.bool r2.2)) rfl (al' (cs := [(iI 0), (iI 0), (iI 0), (iI 0), (.float .f64 0), (.slice none 0 0), (iI 0), (iI 0), (.float .f64 0), (.slice none 0 0)]) 42 rfl o31 rfl (fun b7 s7 p7 B7 => ?_))))
 refine Xx (vs := [(iI r2.1.Xmin), (iI r2.1.Xmax), (iI r2.1.Key.Kind), (iI r2.1.Key.N), v2_0, v2_1, (iI r2.1.Value.Kind), (iI r2.1.Value.N), v2_2, v2_3]) B7 z31 rfl (Xb rfl (Xb rfl (Xb rfl (Xb rfl (Xb (FL.one hu2_0_0) (Xb (Au2_0_1.st p7 rfl).rd.one (Xb rfl (Xb rfl (Xb (FL.one hu2_0_2) (Xb (Au2_0_3.st p7 rfl).rd.one Xj)))))))))) rfl (fun s11 p11 B11 => ?_)
 refine Xc rfl (dn (sr (Xc rfl (Xc rfl (jy [11, 12, 13, 14, 15] [6] 15 (.bool (r2.2 || ((a0.length : Int) == (0 : Int)))) rfl (fun Kg13 => ?_) (fun j13 => ?_))))))
 ·
  rcases bft r2.2 with hb13 | hb13
  ·
   exact Yb hb13 (Xk rfl (Xk rfl (Xk rfl (Xc rfl (Kg13 _ (Ag.put ((Ag.put ((Ag.put ((Ag.put (Ag.base rfl) rfl)) rfl)) rfl)) rfl) (by rw [hb13]; rfl))))))
  refine Yb hb13 (Yc w0_0 rfl ?_)
  exact ln' (A0_0.kp (kp0.st (Yo p3 p4 p7 p11) rfl)) u22 rfl (Xc rfl (Xc rfl (Kg13 _ (Ag.put ((Ag.put ((Ag.put ((Ag.put (Ag.base rfl) rfl)) rfl)) rfl)) rfl) (by rw [hb13]; rfl))))
 refine Xc rfl (dn ?_)
 exact re rfl func92 rfl (Xu rfl Xe) rfl ⟨_, rfl, rfl, z.ky (kp0.st (Yo p3 p4 p7 p11) rfl)⟩
def impl_HeapOk_1.f (a0 : Page) : Option (Bool) :=
 ((impl_PageUsed.f a0).bind fun r6 => ((if (decide (r6 ≥ (0 : Int))) = true then ((impl_areAll_byte.f a0.Slots impl_HeapOk_1_1.f).bind fun r12 => (some r12)) else (some false)).bind fun y8 => (some y8)))
def impl_HeapOk_1.Q (w : World) (F : Nat → Prop) (r : Bool) (v : Value) (w' : World) : Prop :=
 v = (.bool r) ∧ Ky [] w w'
theorem impl_HeapOk_1.calls (a0 : Page) (w : World) (F : Nat → Prop) (w0_0 : Value) (h0_0 : (Kd.sl 22 Yr).rd w [w0_0] a0.Slots F) (r : Bool) (m : impl_HeapOk_1.f a0 = some r) :
  Calls prog 89 #[(.agg #[(iI a0.Lsn), w0_0])] w (RT (impl_HeapOk_1.Q w F) r) := by
 obtain ⟨s0, rfl, kp0, z⟩ := Xl w F
 have A0_0 := z.rd h0_0
 refine Xd (args := [(.agg #[(iI a0.Lsn), w0_0])]) func89 ntmps89 rfl m ?_
 unfold impl_HeapOk_1.f
 refine sr (bx' (cs := [(iI a0.Lsn), w0_0]) 40 rfl rfl (fun b2 s2 p2 B2 => ?_))
 refine Xc rfl (dn (sr (Ya (es := [(iI a0.Lsn), w0_0]) B2 u116 z116 rfl ?_)))
 have K4 := kp0.st p2 rfl
 refine Yn 41 rfl func90 rfl (impl_PageUsed.calls a0 s2.w (mm [0] s2) w0_0 (A0_0.kp K4)) (fun r6 s7 p7 n7 => ?_)
 refine Xc rfl (Xc rfl (ji [8] (fun (y8 : Bool) e w => ∃ (s : St) (e0 : Env), w = s.w ∧ e = upd e0 10 (.bool y8) ∧ Kp s0 s) (fun Gj8 Kj8 => ?_) ?_))
 ·
  rcases bft (decide (r6 ≥ (0 : Int))) with hb8 | hb8
  ·
   refine Yb hb8 ?_
   rw [if_pos hb8]
   refine Ye fa116_1 rfl (Yl (B2.st p7 rfl) u114 rfl ?_)
   have K10 := K4.st p7 rfl
   refine Yn 42 rfl func91 rfl (impl_areAll_byte.calls a0.Slots impl_HeapOk_1_1.f s7.w (mm [0] s7) w0_0 (.func (.func 92) #[] #[]) (A0_0.kp K10) (fun x0 u0_0 w' k h0 r m =>  ⟨92, _, _, [], [], rfl, func92, rfl, rfl, (impl_HeapOk_1_1.calls x0 w' (fun _ => True) u0_0 h0 r m).mono fun en w2 hq => by obtain ⟨v, e, q⟩ := hq; exact ⟨v, e, q⟩⟩) rfl) (fun r12 s13 p13 n13 => ?_)
   exact Xc rfl (Kj8 _ _ _ ⟨s13, _, rfl, (ue rfl rfl), (K10.st p13 rfl)⟩)
  refine Yb hb8 ?_
  rw [if_neg (by rw [hb8]; decide)]
  refine Xk rfl (Xk rfl (Xk rfl (Xc rfl ?_)))
  exact Kj8 _ _ _ ⟨s7, _, rfl, (ue rfl rfl), (K4.st p7 rfl)⟩
 rintro y8 _ _ ⟨s16, _, rfl, rfl, Ky8⟩
 exact Xc rfl (dn (re rfl func89 rfl (Xu rfl Xe) rfl ⟨_, rfl, rfl, z.ky Ky8⟩))
def impl_HeapOk.f (a0 : Heap) : Option (Bool) :=
 ((if (decide ((a0.Pages.length : Int) ≤ (16 : Int))) = true then ((impl_areAll_impl_Page.f a0.Pages impl_HeapOk_1.f).bind fun r7 => (some r7)) else (some false)).bind fun y6 => (some y6))
def impl_HeapOk.Q (w : World) (F : Nat → Prop) (r : Bool) (v : Value) (w' : World) : Prop :=
 v = (.bool r) ∧ Ky [] w w'
theorem impl_HeapOk.calls (a0 : Heap) (w : World) (F : Nat → Prop) (w0_0 : Value) (h0_0 : Yt.rd w [w0_0] a0.Pages F) (r : Bool) (m : impl_HeapOk.f a0 = some r) :
  Calls prog 17 #[(.agg #[w0_0])] w (RT (impl_HeapOk.Q w F) r) := by
 obtain ⟨s0, rfl, kp0, z⟩ := Xl w F
 refine Xd (args := [(.agg #[w0_0])]) func17 ntmps17 rfl m ?_
 unfold impl_HeapOk.f
 refine sr (bx' (cs := [w0_0]) 40 rfl rfl (fun b2 s2 p2 B2 => ?_))
 refine Xc rfl (dn (sr (Ye fa26_0 rfl (Yl B2 u24 rfl ?_))))
 have K4 := kp0.st p2 rfl
 have A5 := (z.rd h0_0).kp K4
 refine ln' A5 u24 rfl (Xc rfl (Xc rfl (ji [9] (fun (y6 : Bool) e w => ∃ (s : St) (e0 : Env), w = s.w ∧ e = upd e0 11 (.bool y6) ∧ Kp s0 s) (fun Gj6 Kj6 => ?_) ?_)))
 ·
  rcases bft (decide ((a0.Pages.length : Int) ≤ (16 : Int))) with hb6 | hb6
  ·
   refine Yb hb6 ?_
   rw [if_pos hb6]
   refine Ye fa26_0 rfl (Yl B2 u24 rfl (Yn 41 rfl func88 rfl (impl_areAll_impl_Page.calls a0.Pages impl_HeapOk_1.f s2.w (mm [0] s2) w0_0 (.func (.func 89) #[] #[]) A5 (fun x0 u0_0 w' k h0 r m =>  ⟨89, _, _, [], [], rfl, func89, rfl, rfl, (impl_HeapOk_1.calls x0 w' (fun _ => True) u0_0 h0 r m).mono fun en w2 hq => by obtain ⟨v, e, q⟩ := hq; exact ⟨v, e, q⟩⟩) rfl) (fun r7 s8 p8 n8 => ?_)))
   exact Xc rfl (Kj6 _ _ _ ⟨s8, _, rfl, (ue rfl rfl), (K4.st p8 rfl)⟩)
  refine Yb hb6 ?_
  rw [if_neg (by rw [hb6]; decide)]
  exact Xk rfl (Xk rfl (Xk rfl (Xc rfl (Kj6 _ _ _ ⟨s2, _, rfl, (ue rfl rfl), K4⟩))))
 rintro y6 _ _ ⟨s10, _, rfl, rfl, Ky6⟩
 exact Xc rfl (dn (re rfl func17 rfl (Xu rfl Xe) rfl ⟨_, rfl, rfl, z.ky Ky6⟩))
def impl_isSlot.f (a0 : Int) : Option (Bool) :=
 ((impl_within.f a0 (0 : Int) (15 : Int)).bind fun r1 => (some r1))
def impl_isSlot.Q (w : World) (F : Nat → Prop) (r : Bool) (v : Value) (w' : World) : Prop :=
 v = (.bool r) ∧ Ky [] w w'
theorem impl_isSlot.calls (a0 : Int) (w : World) (F : Nat → Prop)   (r : Bool) (m : impl_isSlot.f a0 = some r) :
  Calls prog 222 #[(iI a0)] w (RT (impl_isSlot.Q w F) r) := by
 obtain ⟨s0, rfl, kp0, z⟩ := Xl w F
 refine Xd (args := [(iI a0)]) func222 ntmps222 rfl m ?_
 unfold impl_isSlot.f
 refine sr (Xc rfl (dn (sr (Xc rfl (Yn 40 rfl func94 rfl (impl_within.calls a0 (0 : Int) (15 : Int) s0.w (mm [] s0)) (fun r1 s2 p2 n2 => ?_))))))
 refine Xc rfl (dn ?_)
 exact re rfl func222 rfl (Xu rfl Xe) rfl ⟨_, rfl, rfl, z.ky (kp0.st p2 rfl)⟩
def impl_isLsn.f (a0 : Int) : Option (Bool) :=
 ((impl_within.f a0 (1 : Int) (1000000 : Int)).bind fun r1 => (some r1))
def impl_isLsn.Q (w : World) (F : Nat → Prop) (r : Bool) (v : Value) (w' : World) : Prop :=
 v = (.bool r) ∧ Ky [] w w'
theorem impl_isLsn.calls (a0 : Int) (w : World) (F : Nat → Prop)   (r : Bool) (m : impl_isLsn.f a0 = some r) :
  Calls prog 188 #[(iI a0)] w (RT (impl_isLsn.Q w F) r) := by
 obtain ⟨s0, rfl, kp0, z⟩ := Xl w F
 refine Xd (args := [(iI a0)]) func188 ntmps188 rfl m ?_
 unfold impl_isLsn.f
 refine sr (Xc rfl (dn (sr (Xc rfl (Yn 40 rfl func94 rfl (impl_within.calls a0 (1 : Int) (1000000 : Int) s0.w (mm [] s0)) (fun r1 s2 p2 n2 => ?_))))))
 refine Xc rfl (dn ?_)
 exact re rfl func188 rfl (Xu rfl Xe) rfl ⟨_, rfl, rfl, z.ky (kp0.st p2 rfl)⟩
def impl_Page_slots.b0 (a0 : Page) (x6 : (List (List Int)) × Int) : Option (((List (List Int)) × Int) ⊕ (List (List Int))) :=
 (if (decide (x6.2 < (a0.Slots.length : Int))) = true then (if 0 ≤ x6.2 ∧ x6.2 < (a0.Slots.length : Int) then ((slices_Clone_byte_byte.f (at_ a0.Slots x6.2)).bind fun r14 => (if x6.1.length + ([r14]).length ≤ Lim then (some (Sum.inl ((x6.1 ++ [r14]), (IntKind.wrap .i64 (x6.2 + (1 : Int)))))) else none)) else none) else ((some x6.1).bind fun o => some (Sum.inr o)))
def impl_Page_slots.f (a0 : Page) : Option ((List (List Int))) :=
 (iter (impl_Page_slots.b0 a0) (([] : (List (List Int))), (0 : Int)))
def impl_Page_slots.Q (w : World) (F : Nat → Prop) (r : (List (List Int))) (v : Value) (w' : World) : Prop :=
 FO (Kd.sl 22 Yr) w w' [v] r ∧ Ky [] w w'
theorem impl_Page_slots.calls (a0 : Page) (w : World) (F : Nat → Prop) (w0_0 : Value) (h0_0 : (Kd.sl 22 Yr).rd w [w0_0] a0.Slots F) (r : (List (List Int))) (m : impl_Page_slots.f a0 = some r) :
  Calls prog 145 #[(.agg #[(iI a0.Lsn), w0_0])] w (RT (impl_Page_slots.Q w F) r) := by
 obtain ⟨s0, rfl, kp0, z⟩ := Xl w F
 have A0_0 := z.rd h0_0
 refine Xd (args := [(.agg #[(iI a0.Lsn), w0_0])]) func145 ntmps145 rfl m ?_
 unfold impl_Page_slots.f
 refine sr (bx' (cs := [(iI a0.Lsn), w0_0]) 40 rfl rfl (fun b2 s2 p2 B2 => ?_))
 refine Xc rfl (dn (sr (Xc rfl (dn (sq (sr (Ye fa116_1 rfl (Yl B2 u114 rfl ?_))))))))
 have K4 := kp0.st p2 rfl
 refine ln' (A0_0.kp K4) u114 rfl (Xc rfl (dn (bl (lpI (fun (x6 : (List (List Int)) × Int) e w => ∃ (s : St) (e0 : Env) (vx6_0 : Value), w = s.w ∧ e = upd (upd (upd (upd e0 3 vx6_0) 7 w0_0) 8 (iI (a0.Slots.length : Int))) 9 (iI x6.2) ∧ Kp s0 s ∧ OwF (Kd.sl 22 Yr) s [vx6_0] x6.1 42) ⟨s2, _, (.slice none 0 0), rfl, (ue (ue (ue (ue rfl rfl) rfl) rfl) rfl), K4, (Ym 22 Yr _ 42)⟩ (fun g6 ih6 => ?_)))))
 rintro x6 _ _ ⟨s7, _, vx6_0, rfl, rfl, Kx6, Ax6_0⟩
 unfold impl_Page_slots.b0
 refine sr (Xc rfl (dn (sq (cd rfl (fun h9 => ?_) (fun h9 => ?_)))))
 ·
  refine sk (sq (bl (sr ?_)))
  refine ix' (A0_0.kp Kx6) u114 z22 rfl (fun ad11 es11 h0_11 h1_11 he11 ce11 ia11 => ?_)
  obtain ⟨v11, rfl, he11'⟩ := he11
  have A11 : RdF Yr s7 [v11] (at_ a0.Slots x6.2) [0] := ⟨v11, rfl, he11'⟩
  refine lc0' ce11 u22 rfl (Yh v11 rfl (dn (rg (Yc vx6_0 rfl (Yc v11 rfl (clO 43 rfl func223 rfl (slices_Clone_byte_byte.calls (at_ a0.Slots x6.2) s7.w (mm [0] s7) v11 A11) (fun r14 v14_0 s15 p15 A14_0 => ?_)))))))
  refine ltO' (K := Yr) (cells := [v14_0]) [r14] 43 u114 z22 o22 (lo_one A14_0) rfl (lfill_pc (pc_c (oc A14_0.rd.one) pc_n) rfl) (fun v18 s18 p18 A18 => ?_)
  refine apO' sl114 (Ax6_0.st (Xn p15 p18) rfl) A18 rfl (fun v21 s21 p21 A21 => ?_)
  refine Yh v21 rfl (dn (ib (rg (Xc rfl (Xc rfl (dn ?_))))))
  exact lb ih6 ⟨s21, _, v21, rfl, (ue (ue (ue (ue rfl rfl) rfl) rfl) rfl), (Kx6.st (Yi p15 p18 p21) rfl), A21⟩
 exact xt rfl (sgb (sr (Yc vx6_0 rfl (Yh vx6_0 rfl (dn (re rfl func145 rfl (Xu rfl Xe) rfl ⟨_, rfl, Ax6_0.fo Kx6 rfl z.l, z.ky Kx6⟩))))))
def impl_PagePut.b0 (a1 : Int) (a2 : (List Int)) (a3 : Int) (x50 : (List (List Int))) : Option ((List (List Int)) ⊕ (Page × Bool)) :=
 (if (decide ((x50.length : Int) ≤ a1)) = true then (if x50.length + ([([] : (List Int))]).length ≤ Lim then (some (Sum.inl (x50 ++ [([] : (List Int))]))) else none) else (((slices_Clone_byte_byte.f a2).bind fun r83 => (if 0 ≤ a1 ∧ a1 < (x50.length : Int) then ((impl_PageUsed.f (Page.mk a3 (x50.set (a1).toNat r83))).bind fun r95 => (if (decide (r95 < (0 : Int))) = true then (some ((Page.mk (0 : Int) ([] : (List (List Int)))), false)) else (some ((Page.mk a3 (x50.set (a1).toNat r83)), true)))) else none)).bind fun o => some (Sum.inr o)))
def impl_PagePut.f (a0 : Page) (a1 : Int) (a2 : (List Int)) (a3 : Int) : Option (Page × Bool) :=
 ((impl_PageUsed.f a0).bind fun r10 => ((if (decide (r10 < (0 : Int))) = true then (some true) else ((impl_isSlot.f a1).bind fun r16 => (some (!r16)))).bind fun y12 => ((if (y12 || ((a2.length : Int) == (0 : Int))) = true then (some true) else ((impl_isLsn.f a3).bind fun r27 => (some (!r27)))).bind fun y26 => (if y26 = true then (some ((Page.mk (0 : Int) ([] : (List (List Int)))), false)) else ((impl_Page_slots.f a0).bind fun r42 => (iter (impl_PagePut.b0 a1 a2 a3) r42))))))
def impl_PagePut.Q (w : World) (F : Nat → Prop) (r : Page × Bool) (v : Value) (w' : World) : Prop :=
 ∃ (v0 : Value), v = .tuple #[(.agg #[(iI r.1.Lsn), v0]), (.bool r.2)] ∧ FO kd116 w w' [(iI r.1.Lsn), v0] r.1 ∧ Ky [] w w'
theorem impl_PagePut.calls (a0 : Page) (a1 : Int) (a2 : (List Int)) (a3 : Int) (w : World) (F : Nat → Prop) (w0_0 : Value) (w2_0 : Value) (h0_0 : (Kd.sl 22 Yr).rd w [w0_0] a0.Slots F) (h2_0 : Yr.rd w [w2_0] a2 F) (r : Page × Bool) (m : impl_PagePut.f a0 a1 a2 a3 = some r) :
  Calls prog 171 #[(.agg #[(iI a0.Lsn), w0_0]), (iI a1), w2_0, (iI a3)] w (RT (impl_PagePut.Q w F) r) := by
 obtain ⟨s0, rfl, kp0, z⟩ := Xl w F
 have A0_0 := z.rd h0_0
 have A2_0 := z.rd h2_0
 refine Xd (args := [(.agg #[(iI a0.Lsn), w0_0]), (iI a1), w2_0, (iI a3)]) func171 ntmps171 rfl m ?_
 unfold impl_PagePut.f
 refine sr (bx' (cs := [(iI a0.Lsn), w0_0]) 40 rfl rfl (fun b3 s3 p3 B3 => ?_))
 refine al' (cs := [(iI 0), (.slice none 0 0)]) 41 rfl o116 rfl (fun b5 s5 p5 B5 => ?_)
 refine Xc rfl (dn (sq (sr ?_)))
 have A7 := B3.st p5 rfl
 refine Ya (es := [(iI a0.Lsn), w0_0]) A7 u116 z116 rfl ?_
 have K8 := kp0.st (Xn p3 p5) rfl
 refine Yn 42 rfl func90 rfl (impl_PageUsed.calls a0 s5.w (mm [0] s5) w0_0 (A0_0.kp K8)) (fun r10 s11 p11 n11 => ?_)
 refine Xc rfl (Xc rfl (ji [8, 9, 10, 11, 12, 13, 14, 15, 16, 17] (fun (y12 : Bool) e w => ∃ (s : St) (e0 : Env), w = s.w ∧ e = upd (upd (upd (upd (upd (upd e0 1 (iI a1)) 2 w2_0) 3 (iI a3)) 4 (pB b3)) 8 (pB b5)) 18 (.bool y12) ∧ Kp s0 s ∧ BlF s b5 116 [(iI 0), (.slice none 0 0)] 41 ∧ BlF s b3 116 [(iI a0.Lsn), w0_0] 40) (fun Gj12 Kj12 => ?_) ?_))
 ·
  rcases bft (decide (r10 < (0 : Int))) with hb12 | hb12
  ·
   refine Yb hb12 ?_
   rw [if_pos hb12]
   refine Xk rfl (Xk rfl (Xk rfl (Xc rfl ?_)))
   exact Kj12 _ _ _ ⟨s11, _, rfl, (ue (ue (ue (ue (ue (ue rfl rfl) rfl) rfl) rfl) rfl) rfl), (K8.st p11 rfl), (B5.st p11 rfl), (A7.st p11 rfl)⟩
  refine Yb hb12 ?_
  rw [if_neg (by rw [hb12]; decide)]
  refine Xc rfl (Yn 43 rfl func222 rfl (impl_isSlot.calls a1 s11.w (mm [] s11)) (fun r16 s17 p17 n17 => ?_))
  refine Xc rfl (Xc rfl ?_)
  exact Kj12 _ _ _ ⟨s17, _, rfl, (ue (ue (ue (ue (ue (ue rfl rfl) rfl) rfl) rfl) rfl) rfl), (K8.st (Xn p11 p17) rfl), (B5.st (Xn p11 p17) rfl), (A7.st (Xn p11 p17) rfl)⟩
 rintro y12 _ _ ⟨s21, _, rfl, rfl, Ky12, By12_b5, By12_b3⟩
 refine Xc rfl (jy [19, 20, 21, 22, 23] [13, 14, 15, 16, 17] 23 (.bool (y12 || ((a2.length : Int) == (0 : Int)))) rfl (fun Kg24 => ?_) (fun j24 => ?_))
 ·
  rcases bft y12 with hb24 | hb24
  ·
   exact Yb hb24 (Xk rfl (Xk rfl (Xk rfl (Xc rfl (Kg24 _ (Ag.put ((Ag.put ((Ag.put ((Ag.put (Ag.base rfl) rfl)) rfl)) rfl)) rfl) (by rw [hb24]; rfl))))))
  refine Yb hb24 (Yc w2_0 rfl ?_)
  exact ln' (A2_0.kp Ky12) u22 rfl (Xc rfl (Xc rfl (Kg24 _ (Ag.put ((Ag.put ((Ag.put ((Ag.put (Ag.base rfl) rfl)) rfl)) rfl)) rfl) (by rw [hb24]; rfl))))
 refine Xc rfl (ji [] (fun (y26 : Bool) e w => ∃ (s : St) (e0 : Env), w = s.w ∧ e = upd (upd (upd (upd (upd (upd e0 1 (iI a1)) 2 w2_0) 3 (iI a3)) 4 (pB b3)) 8 (pB b5)) 28 (.bool y26) ∧ Kp s0 s ∧ BlF s b5 116 [(iI 0), (.slice none 0 0)] 41 ∧ BlF s b3 116 [(iI a0.Lsn), w0_0] 40) (fun Gj26 Kj26 => ?_) ?_)
 ·
  rcases bft (y12 || ((a2.length : Int) == (0 : Int))) with hb26 | hb26
  ·
   refine Yb hb26 ?_
   rw [if_pos hb26]
   exact Xk rfl (Xk rfl (Xk rfl (Xc rfl (Kj26 _ _ _ ⟨s21, _, rfl, (ue (ue (ue (ue (ue (ue rfl rfl) rfl) rfl) rfl) rfl) rfl), Ky12, By12_b5, By12_b3⟩))))
  refine Yb hb26 ?_
  rw [if_neg (by rw [hb26]; decide)]
  refine Xc rfl (Yn 44 rfl func188 rfl (impl_isLsn.calls a3 s21.w (mm [] s21)) (fun r27 s28 p28 n28 => ?_))
  refine Xc rfl (Xc rfl ?_)
  exact Kj26 _ _ _ ⟨s28, _, rfl, (ue (ue (ue (ue (ue (ue rfl rfl) rfl) rfl) rfl) rfl) rfl), (Ky12.st p28 rfl), (By12_b5.st p28 rfl), (By12_b3.st p28 rfl)⟩
 rintro y26 _ _ ⟨s32, _, rfl, rfl, Ky26, By26_b5, By26_b3⟩
 refine dn (cd rfl (fun h35 => ?_) (fun h35 => ?_))
 ·
  refine sr (bd' (cells := [(iI 0), (.slice none 0 0)]) pl116 o116 rfl rfl (Xx (vs := [(iI 0), (.slice none 0 0)]) By26_b5 z116 rfl (Xb rfl (Xb rfl Xj)) rfl (fun s36 p36 B36 => ?_)))
  refine Xc rfl (dn ?_)
  have A38 : OwF kd116 s36 [(iI 0), (.slice none 0 0)] (Page.mk (0 : Int) ([] : (List (List Int)))) 45 := ow_z _ _ (Yj (fun x : Page => (x.Lsn, x.Slots)) (Page.mk (0 : Int) ([] : (List (List Int)))) (Xi (Xf .i64 (0 : Int)) (Yk 22 Yr)))
  have K40 := Ky26.st p36 rfl
  exact re rfl func171 rfl (r_b B36 u116 rfl z116 rfl (Xu rfl Xe)) rfl ⟨_, rfl, (.slice none 0 0), rfl, A38.fo K40 rfl z.l, z.ky K40⟩
 refine sk (sr (Xc rfl (Ya (es := [(iI a0.Lsn), w0_0]) By26_b3 u116 z116 rfl ?_)))
 refine clO 46 rfl func145 rfl (impl_Page_slots.calls a0 s32.w (mm [0] s32) w0_0 (A0_0.kp Ky26)) (fun r42 v42_0 s43 p43 A42_0 => ?_)
 refine bd' (cells := [(iI a3), v42_0]) pl116 o116 rfl (lfill_pc (pc_c rfl (pc_c (oc A42_0.rd.one) pc_n)) rfl) (al' (cs := [(iI 0), (.slice none 0 0)]) 47 rfl o116 rfl (fun b45 s45 p45 B45 => ?_))
 have A47 := A42_0.st p45 rfl
 refine Xx (vs := [(iI a3), v42_0]) B45 z116 rfl (Xb rfl (Xb A47.rd.one Xj)) rfl (fun s48 p48 B48 => ?_)
 refine dn (sq (bl ?_))
 refine lpI (fun (x50 : (List (List Int))) e w => ∃ (s : St) (e0 : Env) (vx50_0 : Value), w = s.w ∧ e = upd (upd (upd (upd e0 1 (iI a1)) 2 w2_0) 8 (pB b5)) 10 (pB b45) ∧ Kp s0 s ∧ OwF (Kd.sl 22 Yr) s [vx50_0] x50 46 ∧ BlF s b45 116 [(iI a3), vx50_0] 47 ∧ BlF s b5 116 [(iI 0), (.slice none 0 0)] 41) ⟨s48, _, v42_0, rfl, (ue (ue (ue (ue rfl rfl) rfl) rfl) rfl), (Ky26.st (Yi p43 p45 p48) rfl), (A47.st p48 rfl), B48, (By26_b5.st (Yi p43 p45 p48) rfl)⟩ (fun g50 ih50 => ?_)
 rintro x50 _ _ ⟨s54, _, vx50_0, rfl, rfl, Kx50, Ax50_0, Bx50_b45, Bx50_b5⟩
 unfold impl_PagePut.b0
 refine sq (sr (Ye fa116_1 rfl (Yl Bx50_b45 u114 rfl (ln' Ax50_0.rd u114 rfl (Xc rfl (Xc rfl (dn (cd rfl (fun h58 => ?_) (fun h58 => ?_)))))))))
 ·
  refine sk (bl (rg (Ye fa116_1 rfl (Yl Bx50_b45 u114 rfl ?_))))
  have A59 : OwF Yr s54 [(.slice none 0 0)] ([] : (List Int)) 49 := ow_z _ _ (Yk 5 (Kd.int .u8))
  refine ltO' (K := Yr) (cells := [(.slice none 0 0)]) [([] : (List Int))] 49 u114 z22 o22 (lo_one A59) rfl rfl (fun v62 s62 p62 A62 => ?_)
  refine apO' sl114 (Ax50_0.st p62 rfl) A62 rfl (fun v65 s65 p65 A65 => ?_)
  refine Ye fa116_1 rfl (sv' (Bx50_b45.st (Xn p62 p65) rfl) z114 rfl A65.rd.one rfl (fun s68 p68 B68 => ?_))
  refine dn (ib ?_)
  exact lb ih50 ⟨s68, _, v65, rfl, (ue (ue (ue (ue rfl rfl) rfl) rfl) rfl), (Kx50.st (Yi p62 p65 p68) rfl), (A65.st p68 rfl), B68, (Bx50_b5.st (Yi p62 p65 p68) rfl)⟩
 refine xt rfl (sgb (sq (zdraw [[], [0], [], [], [3], [1, 2, 0, 1, 2, 3, 4], [5, 4, 4, 0, 1, 2, 3, 4]] [some 44, some 45, some 46, some 47, some 48, some 49, none] [[10], [44], [1], [2], [47], [45, 46], [49, 48]] [0, 1, 2, 3, 4, 5, 6] ⟨by kernel_rfl, by kernel_rfl, by kernel_rfl⟩ (by kernel_rfl) (fun s73 p73 l73 tb73 zd73 => ?_))))
 refine Xt 4 [some 46, some 45, some 44] tb73 ((((zd73.add 0 44 (pO b45 1) rfl).add 1 45 vx50_0 rfl).add 2 46 (iI a1) rfl).add 3 47 w2_0 rfl) (Xa (Xr w2_0 rfl) rfl (Xa (Xh rfl) rfl (Xa (Xp (Bx50_b45.st p73 rfl) u114 rfl) rfl (Xa (Xo fa116_1 rfl) rfl Xg)))) (by kernel_rfl) rfl (fun l79 e79 zd79 => ?_)
 have K81 := Kx50.st p73 rfl
 refine clO 50 rfl func223 rfl (slices_Clone_byte_byte.calls a2 s73.w (mm [0] s73) w2_0 (A2_0.kp K81)) (fun r83 v83_0 s84 p84 A83_0 => ?_)
 refine Xm (L' := [2, 1, 0]) (D' := [3, 4]) zd79 rfl (fun zd86 => ?_)
 refine Yp [5, 6] tb73 zd86 (Xa (Xh rfl) rfl (Xa (Xp (Bx50_b45.st (Xn p73 p84) rfl) u114 rfl) rfl (Xa (Xo fa116_1 rfl) rfl Xg))) (by kernel_rfl) (by decide) ?_
 have A88 := Ax50_0.st (Xn p73 p84) rfl
 refine ix' A88.rd u114 z22 rfl (fun ad89 es89 h0_89 h1_89 he89 ce89 ia89 => ?_)
 obtain ⟨v89, rfl, he89'⟩ := he89
 have A89 : RdF Yr s84 [v89] (at_ x50 a1) [46] := ⟨v89, rfl, he89'⟩
 refine sog (x' := r83) lg_id A88 ia89 h0_89 h1_89 A83_0 rfl rfl z22 rfl rfl rfl rfl rfl (oc A83_0.rd.one) (fun s92 p92 A92 => ?_)
 refine dn (sq (sr ?_))
 have A94 := Bx50_b45.st (Yi p73 p84 p92) rfl
 refine Ya (es := [(iI a3), vx50_0]) A94 u116 z116 rfl (Yn 51 rfl func90 rfl (impl_PageUsed.calls (Page.mk a3 (x50.set (a1).toNat r83)) s92.w (mm [46] s92) vx50_0 A92.rd) (fun r95 s96 p96 n96 => ?_))
 refine Xc rfl (dn (cd rfl (fun h97 => ?_) (fun h97 => ?_)))
 ·
  refine sr (bd' (cells := [(iI 0), (.slice none 0 0)]) pl116 o116 rfl rfl ?_)
  refine Xx (vs := [(iI 0), (.slice none 0 0)]) (Bx50_b5.st (Yo p73 p84 p92 p96) rfl) z116 rfl (Xb rfl (Xb rfl Xj)) rfl (fun s99 p99 B99 => ?_)
  refine Xc rfl (dn ?_)
  have A101 : OwF kd116 s99 [(iI 0), (.slice none 0 0)] (Page.mk (0 : Int) ([] : (List (List Int)))) 52 := ow_z _ _ (Yj (fun x : Page => (x.Lsn, x.Slots)) (Page.mk (0 : Int) ([] : (List (List Int)))) (Xi (Xf .i64 (0 : Int)) (Yk 22 Yr)))
  have K103 := K81.st (Yo p84 p92 p96 p99) rfl
  exact re rfl func171 rfl (r_b B99 u116 rfl z116 rfl (Xu rfl Xe)) rfl ⟨_, rfl, (.slice none 0 0), rfl, A101.fo K103 rfl z.l, z.ky K103⟩
 refine sk (sr ?_)
 refine Ya (es := [(iI a3), vx50_0]) (A94.st p96 rfl) u116 z116 rfl ?_
 have A106 := A92.st p96 rfl
 refine Xx (vs := [(iI a3), vx50_0]) (Bx50_b5.st (Yo p73 p84 p92 p96) rfl) z116 rfl (Xb rfl (Xb A106.rd.one Xj)) rfl (fun s107 p107 B107 => ?_)
 refine Xc rfl (dn ?_)
 have A109 : OwF kd116 s107 [(iI a3), vx50_0] (Page.mk a3 (x50.set (a1).toNat r83)) 46 := (Xs (fun x : Page => (x.Lsn, x.Slots)) (Page.mk a3 (x50.set (a1).toNat r83)) (Xy (Xf .i64 a3) (A106.st p107 rfl)))
 have K112 := K81.st (Yo p84 p92 p96 p107) rfl
 exact re rfl func171 rfl (r_b B107 u116 rfl z116 rfl (Xu rfl Xe)) rfl ⟨_, rfl, vx50_0, rfl, A109.fo K112 rfl z.l, z.ky K112⟩
def impl_Heap_with.b0 (a0 : Heap) (a1 : Int) (a2 : Page) (x14 : Int × (List Page)) : Option ((Int × (List Page)) ⊕ Heap) :=
 (if (decide (x14.1 < (a0.Pages.length : Int))) = true then (if 0 ≤ x14.1 ∧ x14.1 < (a0.Pages.length : Int) then ((impl_Page_slots.f (at_ a0.Pages x14.1)).bind fun r47 => (if x14.2.length + ([(Page.mk ((at_ a0.Pages x14.1).Lsn) r47)]).length ≤ Lim then (some (Sum.inl ((IntKind.wrap .i64 (x14.1 + (1 : Int))), (x14.2 ++ [(Page.mk ((at_ a0.Pages x14.1).Lsn) r47)])))) else none)) else none) else (((if (a1 == (x14.2.length : Int)) = true then (if x14.2.length + ([(Page.mk (0 : Int) ([] : (List (List Int))))]).length ≤ Lim then (some (x14.2 ++ [(Page.mk (0 : Int) ([] : (List (List Int))))])) else none) else (some x14.2)).bind fun y73 => (if 0 ≤ a1 ∧ a1 < (y73.length : Int) then (some (Heap.mk (y73.set (a1).toNat a2))) else none)).bind fun o => some (Sum.inr o)))
def impl_Heap_with.f (a0 : Heap) (a1 : Int) (a2 : Page) : Option (Heap) :=
 (iter (impl_Heap_with.b0 a0 a1 a2) ((0 : Int), ([] : (List Page))))
def impl_Heap_with.Q (w : World) (F : Nat → Prop) (os : List Nat) (r : Heap) (v : Value) (w' : World) : Prop :=
 ∃ (v0 : Value), v = (.agg #[v0]) ∧ FW kd26 os w w' [v0] r ∧ Ky os w w'
theorem impl_Heap_with.calls (a0 : Heap) (a1 : Int) (a2 : Page) (w : World) (F : Nat → Prop) (w0_0 : Value) (w2_0 : Value) (h0_0 : Yt.rd w [w0_0] a0.Pages F) (os : List Nat) (h2 : kd116.ow w [(iI a2.Lsn), w2_0] a2 os) (hn : os.Nodup) (hF : ∀ b, F b → b ∉ os) (r : Heap) (m : impl_Heap_with.f a0 a1 a2 = some r) :
  Calls prog 97 #[(.agg #[w0_0]), (iI a1), (.agg #[(iI a2.Lsn), w2_0])] w (RT (impl_Heap_with.Q w F os) r) := by
 obtain ⟨u2_0, q2_0, e2, eo2, h2_0⟩ := po116 h2
 obtain y2_0 : w2_0 = u2_0 := by simpa using e2
 subst y2_0
 subst eo2
 obtain ⟨s0, rfl, kp0, z⟩ := startN w F [(os, 40)] (by simpa [fl_] using hn) (fun b hb => by simpa [fl_] using hF b hb) rfl
 have ez : fl_ [(os, 40)] = os := by simp [fl_]
 have A0_0 := z.rd h0_0
 refine Xd (args := [(.agg #[w0_0]), (iI a1), (.agg #[(iI a2.Lsn), w2_0])]) func97 ntmps97 rfl m ?_
 unfold impl_Heap_with.f
 refine sr (bx' (cs := [w0_0]) 41 rfl rfl (fun b3 s3 p3 B3 => ?_))
 refine bx' (cs := [(iI a2.Lsn), w2_0]) 42 rfl rfl (fun b5 s5 p5 B5 => ?_)
 refine al' (cs := [(.slice none 0 0)]) 43 rfl o26 rfl (fun b7 s7 p7 B7 => ?_)
 refine dn (sr (al' (cs := [(.slice none 0 0)]) 44 rfl o26 rfl (fun b9 s9 p9 B9 => ?_)))
 refine dn (sq (sr (Ye fa26_0 rfl ?_)))
 refine Yl (B3.st (Yi p5 p7 p9) rfl) u24 rfl ?_
 have K12 := kp0.st (Yo p3 p5 p7 p9) rfl
 refine ln' (A0_0.kp K12) u24 rfl (Xc rfl (dn (bl ?_)))
 refine lpI (fun (x14 : Int × (List Page)) e w => ∃ (s : St) (e0 : Env) (vx14_0 : Value), w = s.w ∧ e = upd (upd (upd (upd (upd (upd (upd e0 1 (iI a1)) 5 (pB b5)) 6 (pB b7)) 7 (pB b9)) 11 w0_0) 12 (iI (a0.Pages.length : Int))) 13 (iI x14.1) ∧ Kp s0 s ∧ OwF Yt s [vx14_0] x14.2 45 ∧ BlF s b9 26 [vx14_0] 44 ∧ BlF s b7 26 [(.slice none 0 0)] 43 ∧ BlF s b5 116 [(iI a2.Lsn), w2_0] 42 ∧ OwF (Kd.sl 22 Yr) s [w2_0] a2.Slots 40) ⟨s9, _, (.slice none 0 0), rfl, (ue (ue (ue (ue (ue (ue (ue rfl rfl) rfl) rfl) rfl) rfl) rfl) rfl), K12, (Ym 116 kd116 _ 45), B9, (B7.st p9 rfl), (B5.st (Xn p7 p9) rfl), ((z.ow (c := 40) (by simp) hn h2_0).st (Yo p3 p5 p7 p9) rfl)⟩ (fun g14 ih14 => ?_)
 rintro x14 _ _ ⟨s18, _, vx14_0, rfl, rfl, Kx14, Ax14_0, Bx14_b9, Bx14_b7, Bx14_b5, Cx14_2⟩
 unfold impl_Heap_with.b0
 refine sr (Xc rfl (dn (sq (cd rfl (fun h23 => ?_) (fun h23 => ?_)))))
 ·
  refine sk (sq (bl (sr ?_)))
  refine ix' (A0_0.kp Kx14) u24 z116 rfl (fun ad25 es25 h0_25 h1_25 he25 ce25 ia25 => ?_)
  obtain ⟨v25_0, rfl, A25_0⟩ := op116 he25
  refine lca ce25 u116 z116 rfl rfl rfl rfl rfl rfl rfl (al' (cs := [(iI 0), (.slice none 0 0)]) 46 rfl o116 rfl (fun b28 s28 p28 B28 => ?_))
  have A30 := A25_0.st p28 rfl
  refine Xx (vs := [(iI ((at_ a0.Pages x14.1).Lsn)), v25_0]) B28 z116 rfl (Xb rfl (Xb A30.one Xj)) rfl (fun s31 p31 B31 => ?_)
  refine dn (zdraw [[], [0], [], [2], [], [4], [3, 5], [6], [1, 7, 5], [0, 1, 2, 3, 4, 5, 6, 7, 8], [9, 8, 8, 0, 1, 2, 3, 4, 5, 6, 7, 8]] [some 17, some 18, some 19, some 20, some 21, some 22, some 23, some 24, some 25, some 26, none] [[7], [17], [9], [19], [9], [21], [20, 22], [23], [18, 24], [7], [26, 25]] [0, 1, 2, 3, 4, 5, 6, 7, 8, 9, 10] ⟨by kernel_rfl, by kernel_rfl, by kernel_rfl⟩ (by kernel_rfl) (fun s33 p33 l33 tb33 zd33 => ?_))
  refine Xt 5 [some 20, some 19, some 18, some 17] tb33 (((((zd33.add 0 17 (pB b9) rfl).add 1 18 vx14_0 rfl).add 2 19 (pB b28) rfl).add 3 20 (iI ((at_ a0.Pages x14.1).Lsn)) rfl).add 4 21 (.agg #[(iI ((at_ a0.Pages x14.1).Lsn)), v25_0]) rfl) (Xa (Yg (es := [(iI ((at_ a0.Pages x14.1).Lsn)), v25_0]) (B31.st p33 rfl) u116 z116 rfl) rfl (Xa (Xp (B31.st p33 rfl) u3 rfl) rfl (Xa (Xo fa116_0 rfl) rfl (Xa (Xp (Bx14_b9.st (Yi p28 p31 p33) rfl) u24 rfl) rfl (Xa (Xo fa26_0 rfl) rfl Xg))))) (by kernel_rfl) rfl (fun l42 e42 zd42 => ?_)
  refine clO 47 rfl func145 rfl (impl_Page_slots.calls (at_ a0.Pages x14.1) s33.w (mm [0] s33) v25_0 (A30.st (Xn p31 p33) rfl)) (fun r47 v47_0 s48 p48 A47_0 => ?_)
  refine Xm (L' := [3, 2, 1, 0]) (D' := [4, 5]) zd42 rfl (fun zd50 => ?_)
  refine Xt 7 [some 18, some 17] tb33 (zd50.add 6 23 (.agg #[(iI ((at_ a0.Pages x14.1).Lsn)), v47_0]) rfl) (Xa (bd_q (cells := [(iI ((at_ a0.Pages x14.1).Lsn)), v47_0]) pl116 o116 rfl rfl rfl rfl rfl (lfill_pc (pc_c rfl (pc_c (oc A47_0.rd.one) pc_n)) rfl)) rfl (Xa (Xp (B31.st (Xn p33 p48) rfl) u3 rfl) rfl (Xa (Xo fa116_0 rfl) rfl (Xa (Xp (Bx14_b9.st (Yo p28 p31 p33 p48) rfl) u24 rfl) rfl (Xa (Xo fa26_0 rfl) rfl Xg))))) (by kernel_rfl) rfl (fun l52 e52 zd52 => ?_)
  have A55 : OwF kd116 s48 [(iI ((at_ a0.Pages x14.1).Lsn)), v47_0] (Page.mk ((at_ a0.Pages x14.1).Lsn) r47) 47 := (Xs (fun x : Page => (x.Lsn, x.Slots)) (Page.mk ((at_ a0.Pages x14.1).Lsn) r47) (Xy (Xf .i64 ((at_ a0.Pages x14.1).Lsn)) A47_0))
  refine ltO' (K := kd116) (cells := [(iI ((at_ a0.Pages x14.1).Lsn)), v47_0]) [(Page.mk ((at_ a0.Pages x14.1).Lsn) r47)] 47 u24 z116 o116 (lo_one A55) rfl rfl (fun v58 s58 p58 A58 => ?_)
  refine Xm (L' := [1, 0]) (D' := [2, 3, 6, 7, 4, 5]) zd52 rfl (fun zd60 => ?_)
  refine Yp [8, 9, 10] tb33 zd60 (Xa (Xp (Bx14_b9.st (tr5 p28 p31 p33 p48 p58) rfl) u24 rfl) rfl (Xa (Xo fa26_0 rfl) rfl Xg)) (by kernel_rfl) (by decide) (apO' sl24 (Ax14_0.st (tr5 p28 p31 p33 p48 p58) rfl) A58 rfl (fun v63 s63 p63 A63 => ?_))
  refine Ye fa26_0 rfl (sv' (Bx14_b9.st (tr6 p28 p31 p33 p48 p58 p63) rfl) z24 rfl A63.rd.one rfl (fun s66 p66 B66 => ?_))
  refine dn (ib (rg (Xc rfl (Xc rfl (dn ?_)))))
  exact lb ih14 ⟨s66, _, v63, rfl, (ue (ue (ue (ue (ue (ue (ue rfl rfl) rfl) rfl) rfl) rfl) rfl) rfl), (Kx14.st (tr7 p28 p31 p33 p48 p58 p63 p66) rfl), (A63.st p66 rfl), B66, (Bx14_b7.st (tr7 p28 p31 p33 p48 p58 p63 p66) rfl), (Bx14_b5.st (tr7 p28 p31 p33 p48 p58 p63 p66) rfl), (Cx14_2.st (tr7 p28 p31 p33 p48 p58 p63 p66) rfl)⟩
 refine xt rfl (sgb (sq (sr (Xc rfl (Ye fa26_0 rfl (Yl Bx14_b9 u24 rfl (ln' Ax14_0.rd u24 rfl (Xc rfl (dn (jc (fun (y73 : (List Page)) e w => ∃ (s : St) (e0 : Env) (vy73_0 : Value), w = s.w ∧ e = upd (upd (upd (upd e0 1 (iI a1)) 5 (pB b5)) 6 (pB b7)) 7 (pB b9) ∧ Kp s0 s ∧ OwF Yt s [vy73_0] y73 45 ∧ BlF s b9 26 [vy73_0] 44 ∧ BlF s b7 26 [(.slice none 0 0)] 43 ∧ BlF s b5 116 [(iI a2.Lsn), w2_0] 42 ∧ OwF (Kd.sl 22 Yr) s [w2_0] a2.Slots 40) (fun Gj73 Kj73 => ?_) ?_))))))))))
 ·
  refine cd rfl (fun h74 => ?_) (fun h74 => ?_)
  ·
   refine rg (Ye fa26_0 rfl (Yl Bx14_b9 u24 rfl (bd' (cells := [(iI 0), (.slice none 0 0)]) pl116 o116 rfl rfl ?_)))
   have A75 : OwF kd116 s18 [(iI 0), (.slice none 0 0)] (Page.mk (0 : Int) ([] : (List (List Int)))) 50 := ow_z _ _ (Yj (fun x : Page => (x.Lsn, x.Slots)) (Page.mk (0 : Int) ([] : (List (List Int)))) (Xi (Xf .i64 (0 : Int)) (Yk 22 Yr)))
   refine ltO' (K := kd116) (cells := [(iI 0), (.slice none 0 0)]) [(Page.mk (0 : Int) ([] : (List (List Int))))] 50 u24 z116 o116 (lo_one A75) rfl rfl (fun v78 s78 p78 A78 => ?_)
   refine apO' sl24 (Ax14_0.st p78 rfl) A78 rfl (fun v81 s81 p81 A81 => ?_)
   refine Ye fa26_0 rfl (sv' (Bx14_b9.st (Xn p78 p81) rfl) z24 rfl A81.rd.one rfl (fun s84 p84 B84 => ?_))
   exact dn (Kj73 _ _ _ ⟨s84, _, v81, rfl, (ue (ue (ue (ue rfl rfl) rfl) rfl) rfl), (Kx14.st (Yi p78 p81 p84) rfl), (A81.st p84 rfl), B84, (Bx14_b7.st (Yi p78 p81 p84) rfl), (Bx14_b5.st (Yi p78 p81 p84) rfl), (Cx14_2.st (Yi p78 p81 p84) rfl)⟩)
  exact sk (Kj73 _ _ _ ⟨s18, _, vx14_0, rfl, (ue (ue (ue (ue rfl rfl) rfl) rfl) rfl), Kx14, Ax14_0, Bx14_b9, Bx14_b7, Bx14_b5, Cx14_2⟩)
 rintro y73 _ _ ⟨s91, _, vy73_0, rfl, rfl, Ky73, Ay73_0, By73_b9, By73_b7, By73_b5, Cy73_2⟩
 refine sr (Ye fa26_0 rfl (Yl By73_b9 u24 rfl (Xc rfl (Ya (es := [(iI a2.Lsn), w2_0]) By73_b5 u116 z116 rfl (ix' Ay73_0.rd u24 z116 rfl (fun ad96 es96 h0_96 h1_96 he96 ce96 ia96 => ?_))))))
 obtain ⟨v96_0, rfl, A96_0⟩ := op116 he96
 have A99 : OwF kd116 s91 [(iI a2.Lsn), w2_0] a2 40 := (Xs (fun x : Page => (x.Lsn, x.Slots)) a2 (Xy (Xf .i64 a2.Lsn) Cy73_2))
 refine som (x' := a2) Ay73_0 ia96 h0_96 h1_96 A99 rfl rfl z116 rfl rfl rfl rfl rfl rfl (fun s101 p101 A101 => ?_)
 refine dn (sr ?_)
 refine Ya (es := [vy73_0]) (By73_b9.st p101 rfl) u26 z26 rfl (Xx (vs := [vy73_0]) (By73_b7.st p101 rfl) z26 rfl (Xb A101.rd.one Xj) rfl (fun s105 p105 B105 => ?_))
 refine dn ?_
 have A107 : OwF kd26 s105 [vy73_0] (Heap.mk (y73.set (a1).toNat a2)) 45 := (Xs (fun x : Heap => (x.Pages)) (Heap.mk (y73.set (a1).toNat a2)) (A101.st p105 rfl))
 have K110 := Ky73.st (Xn p101 p105) rfl
 exact re rfl func97 rfl (r_b B105 u26 rfl z26 rfl Xe) rfl ⟨_, rfl, vy73_0, rfl, z.fw' ez K110 (oc_ow A107) rfl, z.ky' ez K110⟩
def impl_Heap_put.f (a0 : Heap) (a1 : Int) (a2 : Int) (a3 : (List Int)) (a4 : Int) : Option (Heap × Bool) :=
 ((impl_within.f a1 (0 : Int) (IntKind.wrap .i64 ((a0.Pages.length : Int) - (1 : Int)))).bind fun r12 => ((if r12 = true then (if 0 ≤ a1 ∧ a1 < (a0.Pages.length : Int) then (some (Sum.inl ((at_ a0.Pages a1).Lsn, (at_ a0.Pages a1).Slots))) else none) else (if ((a1 != (a0.Pages.length : Int)) || (decide (a1 ≥ (16 : Int)))) = true then (some (Sum.inr ((Heap.mk ([] : (List Page))), false))) else (some (Sum.inl ((0 : Int), ([] : (List (List Int)))))))).bind (sel fun y14 => ((impl_PagePut.f (Page.mk y14.1 y14.2) a2 a3 a4).bind fun r48 => (if (!r48.2) = true then (some ((Heap.mk ([] : (List Page))), false)) else ((impl_Heap_with.f a0 a1 r48.1).bind fun r69 => (some (r69, true))))))))
def impl_Heap_put.Q (w : World) (F : Nat → Prop) (r : Heap × Bool) (v : Value) (w' : World) : Prop :=
 ∃ (v0 : Value), v = .tuple #[(.agg #[v0]), (.bool r.2)] ∧ FO kd26 w w' [v0] r.1 ∧ Ky [] w w'
theorem impl_Heap_put.calls (a0 : Heap) (a1 : Int) (a2 : Int) (a3 : (List Int)) (a4 : Int) (w : World) (F : Nat → Prop) (w0_0 : Value) (w3_0 : Value) (h0_0 : Yt.rd w [w0_0] a0.Pages F) (h3_0 : Yr.rd w [w3_0] a3 F) (r : Heap × Bool) (m : impl_Heap_put.f a0 a1 a2 a3 a4 = some r) :
  Calls prog 80 #[(.agg #[w0_0]), (iI a1), (iI a2), w3_0, (iI a4)] w (RT (impl_Heap_put.Q w F) r) := by
 obtain ⟨s0, rfl, kp0, z⟩ := Xl w F
 have A0_0 := z.rd h0_0
 refine Xd (args := [(.agg #[w0_0]), (iI a1), (iI a2), w3_0, (iI a4)]) func80 ntmps80 rfl m ?_
 unfold impl_Heap_put.f
 refine sr (bx' (cs := [w0_0]) 40 rfl rfl (fun b3 s3 p3 B3 => ?_))
 refine al' (cs := [(.slice none 0 0)]) 41 rfl o26 rfl (fun b5 s5 p5 B5 => ?_)
 refine Xc rfl (dn (sr (al' (cs := [(iI 0), (.slice none 0 0)]) 42 rfl o116 rfl (fun b7 s7 p7 B7 => ?_))))
 refine dn (sq (sr (Xc rfl (Ye fa26_0 rfl ?_))))
 have A9 := B3.st (Xn p5 p7) rfl
 refine Yl A9 u24 rfl ?_
 have K10 := kp0.st (Yi p3 p5 p7) rfl
 refine ln' (A0_0.kp K10) u24 rfl (Xc rfl (Yn 43 rfl func94 rfl (impl_within.calls a1 (0 : Int) (IntKind.wrap .i64 ((a0.Pages.length : Int) - (1 : Int))) s7.w (mm [] s7)) (fun r12 s13 p13 n13 => ?_)))
 refine dn (jr (fun (y14 : Int × (List (List Int))) e w => ∃ (s : St) (e0 : Env) (vy14_0 : Value), w = s.w ∧ e = upd (upd (upd (upd (upd (upd (upd e0 1 (iI a1)) 2 (iI a2)) 3 w3_0) 4 (iI a4)) 5 (pB b3)) 10 (pB b5)) 12 (pB b7) ∧ Kp s0 s ∧ RdF (Kd.sl 22 Yr) s [vy14_0] y14.2 [0] ∧ BlF s b7 116 [(iI y14.1), vy14_0] 42 ∧ BlF s b5 26 [(.slice none 0 0)] 41 ∧ BlF s b3 26 [w0_0] 40) (fun Gj14 Kj14 hG14 => ?_) ?_)
 ·
  refine cd rfl (fun h15 => ?_) (fun h15 => ?_)
  ·
   refine rg (Ye fa26_0 rfl ?_)
   have A16 := A9.st p13 rfl
   refine Yl A16 u24 rfl (Xc rfl ?_)
   have K17 := K10.st p13 rfl
   refine ix' (A0_0.kp K17) u24 z116 rfl (fun ad19 es19 h0_19 h1_19 he19 ce19 ia19 => ?_)
   obtain ⟨v19_0, rfl, A19_0⟩ := op116 he19
   refine lca ce19 u116 z116 rfl rfl rfl rfl rfl rfl rfl (Xx (vs := [(iI ((at_ a0.Pages a1).Lsn)), v19_0]) (B7.st p13 rfl) z116 rfl (Xb rfl (Xb A19_0.one Xj)) rfl (fun s23 p23 B23 => ?_))
   exact dn (Kj14 _ _ _ ⟨s23, _, v19_0, rfl, (ue (ue (ue (ue (ue (ue (ue rfl rfl) rfl) rfl) rfl) rfl) rfl) rfl), (K17.st p23 rfl), (A19_0.st p23 rfl), B23, (B5.st (Yi p7 p13 p23) rfl), (A16.st p23 rfl)⟩)
  refine sr (Xc rfl (Ye fa26_0 rfl ?_))
  have A29 := A9.st p13 rfl
  refine Yl A29 u24 rfl ?_
  have K30 := K10.st p13 rfl
  refine ln' (A0_0.kp K30) u24 rfl (Xc rfl (Xc rfl (jy [31, 32, 33, 34] [] 34 (.bool ((a1 != (a0.Pages.length : Int)) || (decide (a1 ≥ (16 : Int))))) rfl (fun Kg32 => ?_) (fun j32 => ?_))))
  ·
   rcases bft (a1 != (a0.Pages.length : Int)) with hb32 | hb32
   ·
    exact Yb hb32 (Xk rfl (Xk rfl (Xc rfl (Kg32 _ (Ag.put ((Ag.put ((Ag.put (Ag.base rfl) rfl)) rfl)) rfl) (by rw [hb32]; rfl)))))
   exact Yb hb32 (Xc rfl (Xc rfl (Xc rfl (Kg32 _ (Ag.put ((Ag.put ((Ag.put (Ag.base rfl) rfl)) rfl)) rfl) (by rw [hb32]; rfl)))))
  refine dn (cd rfl (fun h33 => ?_) (fun h33 => ?_))
  ·
   refine sr (bd' (cells := [(.slice none 0 0)]) pl26 o26 rfl rfl ?_)
   refine Xx (vs := [(.slice none 0 0)]) (B5.st (Xn p7 p13) rfl) z26 rfl (Xb rfl Xj) rfl (fun s35 p35 B35 => ?_)
   refine Xc rfl (dn (jri hG14 ?_))
   have A37 : OwF kd26 s35 [(.slice none 0 0)] (Heap.mk ([] : (List Page))) 44 := ow_z _ _ (Yj (fun x : Heap => (x.Pages)) (Heap.mk ([] : (List Page))) (Yk 116 kd116))
   have K39 := K30.st p35 rfl
   exact re rfl func80 rfl (r_b B35 u26 rfl z26 rfl (Xu rfl Xe)) rfl ⟨_, rfl, (.slice none 0 0), rfl, A37.fo K39 rfl z.l, z.ky K39⟩
  exact sk (Kj14 _ _ _ ⟨s13, _, (.slice none 0 0), rfl, (ue (ue (ue (ue (ue (ue (ue rfl rfl) rfl) rfl) rfl) rfl) rfl) rfl), K30, (rd_nil 22 Yr _ [0]), (B7.st p13 rfl), (B5.st (Xn p7 p13) rfl), A29⟩)
 rintro y14 _ _ ⟨s42, _, vy14_0, rfl, rfl, Ky14, Ay14_0, By14_b7, By14_b5, By14_b3⟩
 refine sr (Ya (es := [(iI y14.1), vy14_0]) By14_b7 u116 z116 rfl (Xc rfl (Yc w3_0 rfl (Xc rfl ?_))))
 refine cl' rfl func171 rfl (impl_PagePut.calls (Page.mk y14.1 y14.2) a2 a3 a4 s42.w (mm [0] s42) vy14_0 w3_0 Ay14_0 ((z.rd h3_0).kp Ky14)) ?_
 rintro r48 _ w48 m48 ⟨v48_0, rfl, f48_0, ky48⟩
 obtain ⟨s49, rfl, p49, n49⟩ := nwx s42 w48 45 ky48
 refine Xc rfl (Xc (v := (.agg #[(iI r48.1.Lsn), v48_0])) rfl (Xc (v := (.bool r48.2)) rfl (al' (cs := [(iI 0), (.slice none 0 0)]) 46 rfl o116 rfl (fun b51 s51 p51 B51 => ?_))))
 have A53 := (ap116 (f48_0.c n49)).st p51 rfl
 refine Xx (vs := [(iI r48.1.Lsn), v48_0]) B51 z116 rfl (Xb rfl (Xb A53.rd.one Xj)) rfl (fun s54 p54 B54 => ?_)
 refine Xc rfl (dn (sq (sr (Xc rfl (Xc rfl (dn (cd rfl (fun h56 => ?_) (fun h56 => ?_))))))))
 ·
  refine sr (bd' (cells := [(.slice none 0 0)]) pl26 o26 rfl rfl ?_)
  refine Xx (vs := [(.slice none 0 0)]) (By14_b5.st (Yi p49 p51 p54) rfl) z26 rfl (Xb rfl Xj) rfl (fun s58 p58 B58 => ?_)
  refine Xc rfl (dn ?_)
  have A60 : OwF kd26 s58 [(.slice none 0 0)] (Heap.mk ([] : (List Page))) 47 := ow_z _ _ (Yj (fun x : Heap => (x.Pages)) (Heap.mk ([] : (List Page))) (Yk 116 kd116))
  have K62 := Ky14.st (Yo p49 p51 p54 p58) rfl
  exact re rfl func80 rfl (r_b B58 u26 rfl z26 rfl (Xu rfl Xe)) rfl ⟨_, rfl, (.slice none 0 0), rfl, A60.fo K62 rfl z.l, z.ky K62⟩
 refine sk (sr ?_)
 refine Ya (es := [w0_0]) (By14_b3.st (Yi p49 p51 p54) rfl) u26 z26 rfl (Xc rfl (Ya (es := [(iI r48.1.Lsn), v48_0]) B54 u116 z116 rfl ?_))
 have K64 := Ky14.st (Yi p49 p51 p54) rfl
 have A66 : OwF kd116 s54 [(iI r48.1.Lsn), v48_0] r48.1 45 := (Xs (fun x : Page => (x.Lsn, x.Slots)) r48.1 (Xy (Xf .i64 r48.1.Lsn) (A53.st p54 rfl)))
 obtain ⟨os69, ho69, hn69, hc69⟩ := A66
 refine cl' rfl func97 rfl (impl_Heap_with.calls a0 a1 r48.1 s54.w (mm [0] s54) w0_0 v48_0 (A0_0.kp K64) os69 ho69 hn69 (apart_of hc69 rfl)) ?_
 rintro r69 _ w69 m69 ⟨v69_0, rfl, f69_0, ky69⟩
 obtain ⟨s70, rfl, p70, n70⟩ := nwm 48 hc69 ky69 rfl
 have Au69_0_0 := ap26 (f69_0.m n70)
 refine Xx (vs := [v69_0]) (By14_b5.st (Yo p49 p51 p54 p70) rfl) z26 rfl (Xb Au69_0_0.rd.one Xj) rfl (fun s73 p73 B73 => ?_)
 refine Xc rfl (dn ?_)
 have A75 : OwF kd26 s73 [v69_0] r69 48 := (Xs (fun x : Heap => (x.Pages)) r69 (Au69_0_0.st p73 rfl))
 have K78 := K64.st (Xn p70 p73) rfl
 exact re rfl func80 rfl (r_b B73 u26 rfl z26 rfl (Xu rfl Xe)) rfl ⟨_, rfl, v69_0, rfl, A75.fo K78 rfl z.l, z.ky K78⟩
def impl_HeapPut.f (a0 : Heap) (a1 : Int) (a2 : Int) (a3 : Tuple) (a4 : Int) : Option (Heap × Bool) :=
 ((impl_Heap_at.f a0 a1 a2).bind fun r13 => ((impl_HeapOk.f a0).bind fun r27 => ((if (!r27) = true then (some true) else ((impl_TupleOk.f a3).bind fun r38 => (some (!r38)))).bind fun y29 => (if (y29 || r13.2) = true then (some ((Heap.mk ([] : (List Page))), false)) else ((impl_TupleBytes.f a3).bind fun r69 => ((impl_Heap_put.f a0 a1 a2 r69 a4).bind fun r77 => (some (r77.1, r77.2))))))))
def impl_HeapPut.Q (w : World) (F : Nat → Prop) (r : Heap × Bool) (v : Value) (w' : World) : Prop :=
 ∃ (v0 : Value), v = .tuple #[(.agg #[v0]), (.bool r.2)] ∧ FO kd26 w w' [v0] r.1 ∧ Ky [] w w'
theorem impl_HeapPut.calls (a0 : Heap) (a1 : Int) (a2 : Int) (a3 : Tuple) (a4 : Int) (w : World) (F : Nat → Prop) (w0_0 : Value) (w3_0 : Value) (w3_1 : Value) (w3_2 : Value) (w3_3 : Value) (h0_0 : Yt.rd w [w0_0] a0.Pages F) (h3_0 : Kd.flt.rd w [w3_0] a3.Key.F F) (h3_1 : Yr.rd w [w3_1] a3.Key.T F) (h3_2 : Kd.flt.rd w [w3_2] a3.Value.F F) (h3_3 : Yr.rd w [w3_3] a3.Value.T F) (r : Heap × Bool) (m : impl_HeapPut.f a0 a1 a2 a3 a4 = some r) :
  Calls prog 12 #[(.agg #[w0_0]), (iI a1), (iI a2), (.agg #[(iI a3.Xmin), (iI a3.Xmax), (iI a3.Key.Kind), (iI a3.Key.N), w3_0, w3_1, (iI a3.Value.Kind), (iI a3.Value.N), w3_2, w3_3]), (iI a4)] w (RT (impl_HeapPut.Q w F) r) := by
 obtain ⟨s0, rfl, kp0, z⟩ := Xl w F
 have A0_0 := z.rd h0_0
 have A3_0 := Yq h3_0
 have A3_1 := z.rd h3_1
 have A3_2 := Yq h3_2
 have A3_3 := z.rd h3_3
 refine Xd (args := [(.agg #[w0_0]), (iI a1), (iI a2), (.agg #[(iI a3.Xmin), (iI a3.Xmax), (iI a3.Key.Kind), (iI a3.Key.N), w3_0, w3_1, (iI a3.Value.Kind), (iI a3.Value.N), w3_2, w3_3]), (iI a4)]) func12 ntmps12 rfl m ?_
 unfold impl_HeapPut.f
 refine sr (bx' (cs := [w0_0]) 40 rfl rfl (fun b4 s4 p4 B4 => ?_))
 refine bx' (cs := [(iI a3.Xmin), (iI a3.Xmax), (iI a3.Key.Kind), (iI a3.Key.N), w3_0, w3_1, (iI a3.Value.Kind), (iI a3.Value.N), w3_2, w3_3]) 41 rfl rfl (fun b6 s6 p6 B6 => ?_)
 refine al' (cs := [(.slice none 0 0)]) 42 rfl o26 rfl (fun b8 s8 p8 B8 => ?_)
 refine Xc rfl (dn (sq (sr ?_)))
 have A10 := B4.st (Xn p6 p8) rfl
 refine Ya (es := [w0_0]) A10 u26 z26 rfl (Xc rfl (Xc rfl ?_))
 have K11 := kp0.st (Yi p4 p6 p8) rfl
 refine cl' rfl func78 rfl (impl_Heap_at.calls a0 a1 a2 s8.w (mm [0] s8) w0_0 (A0_0.kp K11)) ?_
 rintro r13 _ w13 m13 ⟨v13_0, v13_1, v13_2, v13_3, rfl, f13_0, ky13⟩
 obtain ⟨s14, rfl, p14, n14⟩ := nwx s8 w13 43 ky13
 obtain ⟨s15, hw15, p15, hu13_0_0, Au13_0_1, hu13_0_2, Au13_0_3⟩ := ap31 44 (f13_0.c n14) rfl
 rw [hw15]
 refine Xc rfl (Xc (v := (.agg #[(iI r13.1.Xmin), (iI r13.1.Xmax), (iI r13.1.Key.Kind), (iI r13.1.Key.N), v13_0, v13_1, (iI r13.1.Value.Kind), (iI r13.1.Value.N), v13_2, v13_3])) rfl (Xc (v := (.bool r13.2)) rfl (al' (cs := [(iI 0), (iI 0), (iI 0), (iI 0), (.float .f64 0), (.slice none 0 0), (iI 0), (iI 0), (.float .f64 0), (.slice none 0 0)]) 45 rfl o31 rfl (fun b18 s18 p18 B18 => ?_))))
 refine Xx (vs := [(iI r13.1.Xmin), (iI r13.1.Xmax), (iI r13.1.Key.Kind), (iI r13.1.Key.N), v13_0, v13_1, (iI r13.1.Value.Kind), (iI r13.1.Value.N), v13_2, v13_3]) B18 z31 rfl (Xb rfl (Xb rfl (Xb rfl (Xb rfl (Xb (FL.one hu13_0_0) (Xb (Au13_0_1.st p18 rfl).rd.one (Xb rfl (Xb rfl (Xb (FL.one hu13_0_2) (Xb (Au13_0_3.st p18 rfl).rd.one Xj)))))))))) rfl (fun s22 p22 B22 => ?_)
 refine Xc rfl (dn (sr ?_))
 have A24 := A10.st (Yo p14 p15 p18 p22) rfl
 refine Ya (es := [w0_0]) A24 u26 z26 rfl ?_
 have K25 := K11.st (Yo p14 p15 p18 p22) rfl
 refine Yn 46 rfl func17 rfl (impl_HeapOk.calls a0 s22.w (mm [0] s22) w0_0 (A0_0.kp K25)) (fun r27 s28 p28 n28 => ?_)
 refine Xc rfl (Xc rfl (ji [8, 9, 10] (fun (y29 : Bool) e w => ∃ (s : St) (e0 : Env), w = s.w ∧ e = upd (upd (upd (upd (upd (upd (upd (upd e0 1 (iI a1)) 2 (iI a2)) 4 (iI a4)) 5 (pB b4)) 8 (pB b6)) 10 (pB b8)) 13 (.bool r13.2)) 28 (.bool y29) ∧ Kp s0 s ∧ BlF s b8 26 [(.slice none 0 0)] 42 ∧ BlF s b6 31 [(iI a3.Xmin), (iI a3.Xmax), (iI a3.Key.Kind), (iI a3.Key.N), w3_0, w3_1, (iI a3.Value.Kind), (iI a3.Value.N), w3_2, w3_3] 41 ∧ BlF s b4 26 [w0_0] 40) (fun Gj29 Kj29 => ?_) ?_))
 ·
  rcases bft (!r27) with hb29 | hb29
  ·
   refine Yb hb29 ?_
   rw [if_pos hb29]
   refine Xk rfl (Xk rfl (Xk rfl (Xc rfl ?_)))
   exact Kj29 _ _ _ ⟨s28, _, rfl, (ue (ue (ue (ue (ue (ue (ue (ue rfl rfl) rfl) rfl) rfl) rfl) rfl) rfl) rfl), (K25.st p28 rfl), (B8.st (tr5 p14 p15 p18 p22 p28) rfl), (B6.st (tr6 p8 p14 p15 p18 p22 p28) rfl), (A24.st p28 rfl)⟩
  refine Yb hb29 ?_
  rw [if_neg (by rw [hb29]; decide)]
  have A34 := B6.st (tr6 p8 p14 p15 p18 p22 p28) rfl
  refine Ya (es := [(iI a3.Xmin), (iI a3.Xmax), (iI a3.Key.Kind), (iI a3.Key.N), w3_0, w3_1, (iI a3.Value.Kind), (iI a3.Value.N), w3_2, w3_3]) A34 u31 z31 rfl ?_
  have K35 := K25.st p28 rfl
  refine Yn 47 rfl func79 rfl (impl_TupleOk.calls a3 s28.w (mm [0] s28) w3_0 w3_1 w3_2 w3_3 ((Xq (s := s28) A3_0).sub (D := [0]) rfl) (A3_1.kp K35) ((Xq (s := s28) A3_2).sub (D := [0]) rfl) (A3_3.kp K35)) (fun r38 s39 p39 n39 => ?_)
  refine Xc rfl (Xc rfl ?_)
  exact Kj29 _ _ _ ⟨s39, _, rfl, (ue (ue (ue (ue (ue (ue (ue (ue rfl rfl) rfl) rfl) rfl) rfl) rfl) rfl) rfl), (K35.st p39 rfl), (B8.st (tr6 p14 p15 p18 p22 p28 p39) rfl), (A34.st p39 rfl), (A24.st (Xn p28 p39) rfl)⟩
 rintro y29 _ _ ⟨s44, _, rfl, rfl, Ky29, By29_b8, By29_b6, By29_b4⟩
 refine Xc rfl (jy [29, 30, 31] [] 31 (.bool (y29 || r13.2)) rfl (fun Kg48 => ?_) (fun j48 => ?_))
 ·
  rcases bft y29 with hb48 | hb48
  ·
   exact Yb hb48 (Xk rfl (Xc rfl (Kg48 _ (Ag.put ((Ag.put (Ag.base rfl) rfl)) rfl) (by rw [hb48]; rfl))))
  exact Yb hb48 (Xc rfl (Xc rfl (Kg48 _ (Ag.put ((Ag.put (Ag.base rfl) rfl)) rfl) (by rw [hb48]; rfl))))
 refine dn (cd rfl (fun h49 => ?_) (fun h49 => ?_))
 ·
  refine sr (bd' (cells := [(.slice none 0 0)]) pl26 o26 rfl rfl (Xx (vs := [(.slice none 0 0)]) By29_b8 z26 rfl (Xb rfl Xj) rfl (fun s50 p50 B50 => ?_)))
  refine Xc rfl (dn ?_)
  have A52 : OwF kd26 s50 [(.slice none 0 0)] (Heap.mk ([] : (List Page))) 48 := ow_z _ _ (Yj (fun x : Heap => (x.Pages)) (Heap.mk ([] : (List Page))) (Yk 116 kd116))
  have K54 := Ky29.st p50 rfl
  exact re rfl func12 rfl (r_b B50 u26 rfl z26 rfl (Xu rfl Xe)) rfl ⟨_, rfl, (.slice none 0 0), rfl, A52.fo K54 rfl z.l, z.ky K54⟩
 refine sk (sq (zdraw [[], [], [], [], [3], [], [0, 1, 2, 4, 5, 4], [6], [6], [7, 6, 0, 1, 2, 3, 4, 5, 6, 7, 8], [8, 9, 0, 1, 2, 3, 4, 5, 6, 7, 8, 9]] [some 33, some 34, some 35, some 36, some 37, some 38, some 39, some 40, some 41, none, some 11] [[5], [1], [2], [8], [36], [4], [33, 34, 35, 37, 38], [39], [39], [10, 40], [41]] [0, 1, 2, 3, 4, 5, 6, 7, 8, 9, 10] ⟨by kernel_rfl, by kernel_rfl, by kernel_rfl⟩ (by kernel_rfl) (fun s55 p55 l55 tb55 zd55 => ?_)))
 refine Xt 4 [some 38, some 35, some 34, some 33] tb55 (((((zd55.add 0 33 (.agg #[w0_0]) rfl).add 1 34 (iI a1) rfl).add 2 35 (iI a2) rfl).add 3 36 (.agg #[(iI a3.Xmin), (iI a3.Xmax), (iI a3.Key.Kind), (iI a3.Key.N), w3_0, w3_1, (iI a3.Value.Kind), (iI a3.Value.N), w3_2, w3_3]) rfl).add 5 38 (iI a4) rfl) (Xa (Xh rfl) rfl (Xa (Yg (es := [(iI a3.Xmin), (iI a3.Xmax), (iI a3.Key.Kind), (iI a3.Key.N), w3_0, w3_1, (iI a3.Value.Kind), (iI a3.Value.N), w3_2, w3_3]) (By29_b6.st p55 rfl) u31 z31 rfl) rfl (Xa (Xh rfl) rfl (Xa (Xh rfl) rfl (Xa (Yg (es := [w0_0]) (By29_b4.st p55 rfl) u26 z26 rfl) rfl Xg))))) (by kernel_rfl) rfl (fun l63 e63 zd63 => ?_)
 have K66 := Ky29.st p55 rfl
 refine clO 49 rfl func81 rfl (impl_TupleBytes.calls a3 s55.w (mm [0] s55) w3_0 w3_1 w3_2 w3_3 ((Xq (s := s55) A3_0).sub (D := [0]) rfl) (A3_1.kp K66) ((Xq (s := s55) A3_2).sub (D := [0]) rfl) (A3_3.kp K66)) (fun r69 v69_0 s70 p70 A69_0 => ?_)
 refine Xm (L' := [5, 2, 1, 0]) (D' := [3, 4]) zd63 rfl (fun zd72 => ?_)
 refine Xt 6 [] tb55 zd72 (Xa (Xh rfl) rfl (Xa (Xh rfl) rfl (Xa (Xh rfl) rfl (Xa (Yg (es := [w0_0]) (By29_b4.st (Xn p55 p70) rfl) u26 z26 rfl) rfl Xg)))) (by kernel_rfl) rfl (fun l73 e73 zd73 => ?_)
 have K75 := K66.st p70 rfl
 refine cl' rfl func80 rfl (impl_Heap_put.calls a0 a1 a2 r69 a4 s70.w (mm [0, 49] s70) w0_0 v69_0 ((A0_0.kp K75).sub (D := [0, 49]) rfl) (A69_0.rd.sub (D := [0, 49]) rfl)) ?_
 rintro r77 _ w77 m77 ⟨v77_0, rfl, f77_0, ky77⟩
 obtain ⟨s78, rfl, p78, n78⟩ := nwx s70 w77 50 ky77
 have Au77_0_0 := ap26 (f77_0.c n78)
 refine Xm (L' := []) (D' := [0, 1, 2, 5, 6, 3, 4]) zd73 rfl (fun zd80 => ?_)
 refine Yp [9, 10] tb55 ((zd80.add 7 40 (.agg #[v77_0]) rfl).add 8 41 (.bool r77.2) rfl) (Xa (Xh (v := (.bool r77.2)) rfl) rfl (Xa (Xh (v := (.agg #[v77_0])) rfl) rfl Xg)) (by kernel_rfl) (by decide) (Xx (vs := [v77_0]) (By29_b8.st (Yi p55 p70 p78) rfl) z26 rfl (Xb Au77_0_0.rd.one Xj) rfl (fun s84 p84 B84 => ?_))
 refine Xc rfl (dn ?_)
 have A86 : OwF kd26 s84 [v77_0] r77.1 50 := (Xs (fun x : Heap => (x.Pages)) r77.1 (Au77_0_0.st p84 rfl))
 have K89 := K75.st (Xn p78 p84) rfl
 exact re rfl func12 rfl (r_b B84 u26 rfl z26 rfl (Xu rfl Xe)) rfl ⟨_, rfl, v77_0, rfl, A86.fo K89 rfl z.l, z.ky K89⟩
def laws_sameItem.f (a0 : Item) (a1 : Item) : Option (Bool) :=
 ((if (a0.Kind == a1.Kind) = true then ((if (a0.N == a1.N) = true then ((spec_FloatBits.f a0.F).bind fun r40 => ((spec_FloatBits.f a1.F).bind fun r45 => ((if (r40 == r45) = true then (some ((str a0.T).toList == (str a1.T).toList)) else (some false)).bind fun y51 => (some y51)))) else (some false)).bind fun y26 => (some y26)) else (some false)).bind fun y16 => (some y16))
def laws_sameItem.Q (w : World) (F : Nat → Prop) (r : Bool) (v : Value) (w' : World) : Prop :=
 v = (.bool r) ∧ Ky [] w w'
theorem laws_sameItem.calls (a0 : Item) (a1 : Item) (w : World) (F : Nat → Prop) (w0_0 : Value) (w0_1 : Value) (w1_0 : Value) (w1_1 : Value) (h0_0 : Kd.flt.rd w [w0_0] a0.F F) (h0_1 : Yr.rd w [w0_1] a0.T F) (h1_0 : Kd.flt.rd w [w1_0] a1.F F) (h1_1 : Yr.rd w [w1_1] a1.T F) (r : Bool) (m : laws_sameItem.f a0 a1 = some r) :
  Calls prog 20 #[(.agg #[(iI a0.Kind), (iI a0.N), w0_0, w0_1]), (.agg #[(iI a1.Kind), (iI a1.N), w1_0, w1_1])] w (RT (laws_sameItem.Q w F) r) := by
 obtain ⟨s0, rfl, kp0, z⟩ := Xl w F
 have A0_0 := Yq h0_0
 have A0_1 := z.rd h0_1
 have A1_0 := Yq h1_0
 have A1_1 := z.rd h1_1
 refine Xd (args := [(.agg #[(iI a0.Kind), (iI a0.N), w0_0, w0_1]), (.agg #[(iI a1.Kind), (iI a1.N), w1_0, w1_1])]) func20 ntmps20 rfl m ?_
 unfold laws_sameItem.f
 refine sr (bx' (cs := [(iI a0.Kind), (iI a0.N), w0_0, w0_1]) 40 rfl rfl (fun b3 s3 p3 B3 => ?_))
 refine bx' (cs := [(iI a1.Kind), (iI a1.N), w1_0, w1_1]) 41 rfl rfl (fun b5 s5 p5 B5 => ?_)
 refine Xc rfl (dn (sq (zdraw [[], [0], [], [2], [1, 3], [4], [5], [6, 5], [5], [8, 5], [7, 9, 5], [5, 10], [11, 5], [12], [13, 12], [14, 12, 12], [12], [16, 12], [17, 15, 12], [15, 18, 12], [12, 19], [20, 18], [21], [22, 21], [23, 21], [21], [25, 21], [26, 21], [24, 27, 21], [21, 28], [29, 21, 0, 1, 2, 3, 4, 5, 6, 7, 8, 9, 10, 11, 12, 13, 14, 15, 16, 17, 18, 19, 20, 21, 22, 23, 24, 25, 26, 27, 28, 29]] [some 5, some 6, some 7, some 8, some 9, some 10, some 11, some 12, some 13, some 14, some 15, some 16, some 17, some 18, some 19, some 20, some 21, some 22, some 23, some 24, some 25, some 26, some 27, some 28, some 29, some 30, some 31, some 32, some 33, some 34, some 4] [[2], [5], [3], [7], [6, 8], [9], [2, 10], [11, 10], [3, 10], [13, 10], [12, 14, 10], [10, 15], [16], [2, 17], [18, 17], [19, 17], [3, 17], [21, 17], [22, 17], [20, 23, 17], [17, 24], [25], [2, 26], [27, 26], [28, 26], [3, 26], [30, 26], [31, 26], [29, 32, 26], [26, 33], [34]] [0, 1, 2, 3, 4, 5, 6, 7, 8, 9, 10, 11, 12, 13, 14, 15, 16, 17, 18, 19, 20, 21, 22, 23, 24, 25, 26, 27, 28, 29, 30] ⟨by kernel_rfl, by kernel_rfl, by kernel_rfl⟩ (by kernel_rfl) (fun s7 p7 l7 tb7 zd7 => ?_))))
 have zd15 := (((((zd7.add 0 5 (pB b3) rfl).add 1 6 (iI a0.Kind) rfl).add 2 7 (pB b5) rfl).add 3 8 (iI a1.Kind) rfl).add 4 9 (.bool (a0.Kind == a1.Kind)) rfl).add 5 10 (.bool (a0.Kind == a1.Kind)) rfl
 refine ji [30] (fun (y16 : Bool) e w => ∃ (s : St) (e0 : Env), w = s.w ∧ e = upd e0 34 (.bool y16) ∧ Kp s0 s) (fun Gj16 Kj16 => ?_) ?_
 ·
  rcases bft (a0.Kind == a1.Kind) with hb16 | hb16
  ·
   rw [if_pos hb16]
   rw [hb16] at zd15
   try rw [hb16]
   have zd25 := ((((((zd15.add 6 11 (pO b3 1) rfl).add 7 12 (iI a0.N) rfl).add 8 13 (pO b5 1) rfl).add 9 14 (iI a1.N) rfl).add 10 15 (.bool (a0.N == a1.N)) rfl).add 11 16 (.bool (a0.N == a1.N)) rfl).add 12 17 (.bool (a0.N == a1.N)) rfl
   refine ji [30] (fun (y26 : Bool) e w => ∃ (s : St) (e0 : Env), w = s.w ∧ e = upd e0 34 (.bool y26) ∧ Kp s0 s) (fun Gj26 Kj26 => ?_) ?_
   ·
    rcases bft (a0.N == a1.N) with hb26 | hb26
    ·
     rw [if_pos hb26]
     rw [hb26] at zd25
     try rw [hb26]
     refine Xt 15 [some 22, some 21] tb7 ((((zd25.add 13 18 (pO b3 2) rfl).add 14 19 w0_0 rfl).add 16 21 (pO b5 2) rfl).add 17 22 w1_0 rfl) (Xa (Xp (B5.st p7 rfl) u27 rfl) rfl (Xa (Xo fa29_2 rfl) rfl (Xa (Xp (B3.st (Xn p5 p7) rfl) u27 rfl) rfl (Xa (Xo fa29_2 rfl) rfl (Xa (Xh rfl) rfl (Xa (Xh rfl) rfl (Xa (qv_b (Xh rfl) hb26) rfl (Xa (Xp (B5.st p7 rfl) u3 rfl) rfl (Xa (Xo fa29_1 rfl) rfl (Xa (Xp (B3.st (Xn p5 p7) rfl) u3 rfl) rfl (Xa (Xo fa29_1 rfl) rfl (Xa (Xh rfl) rfl (Xa (qv_b (Xh rfl) hb16) rfl (Xa (Xp (B5.st p7 rfl) u3 rfl) rfl (Xa (Xo fa29_0 rfl) rfl (Xa (Xp (B3.st (Xn p5 p7) rfl) u3 rfl) rfl (Xa (Xo fa29_0 rfl) rfl Xg))))))))))))))))) (by kernel_rfl) rfl (fun l33 e33 zd33 => ?_)
     refine Yn 42 rfl func95 rfl (spec_FloatBits.calls a0.F s7.w (mm [] s7) w0_0 (Xq (s := s7) A0_0)) (fun r40 s41 p41 n41 => ?_)
     refine Xm (L' := [17, 16]) (D' := [0, 2, 1, 3, 4, 6, 8, 7, 9, 10, 11, 5, 13, 14, 12, 12, 15]) zd33 rfl (fun zd42 => ?_)
     refine Xt 18 [] tb7 zd42 (Xa (Xp (B5.st (Xn p7 p41) rfl) u27 rfl) rfl (Xa (Xo fa29_2 rfl) rfl Xg)) (by kernel_rfl) rfl (fun l43 e43 zd43 => ?_)
     refine Yn 43 rfl func95 rfl (spec_FloatBits.calls a1.F s41.w (mm [] s41) w1_0 (Xq (s := s41) A1_0)) (fun r45 s46 p46 n46 => ?_)
     refine Xm (L' := []) (D' := [16, 17, 18, 0, 2, 1, 3, 4, 6, 8, 7, 9, 10, 11, 5, 13, 14, 12, 12, 15]) zd43 rfl (fun zd47 => ?_)
     have zd50 := ((zd47.add 19 24 (.bool (r40 == r45)) rfl).add 20 25 (.bool (r40 == r45)) rfl).add 21 26 (.bool (r40 == r45)) rfl
     refine ji [30] (fun (y51 : Bool) e w => ∃ (s : St) (e0 : Env), w = s.w ∧ e = upd e0 34 (.bool y51) ∧ Kp s0 s) (fun Gj51 Kj51 => ?_) ?_
     ·
      rcases bft (r40 == r45) with hb51 | hb51
      ·
       rw [if_pos hb51]
       rw [hb51] at zd50
       try rw [hb51]
       refine Yp [28, 29, 30] tb7 ((((((zd50.add 22 27 (pO b3 3) rfl).add 23 28 w0_1 rfl).add 24 29 (.string (str a0.T)) rfl).add 25 30 (pO b5 3) rfl).add 26 31 w1_1 rfl).add 27 32 (.string (str a1.T)) rfl) (Xa (b2s_q (A1_1.kp (kp0.st (tr5 p3 p5 p7 p41 p46) rfl)) u22 u9 u5 rfl rfl rfl rfl rfl rfl) rfl (Xa (Xp (B5.st (Yi p7 p41 p46) rfl) u22 rfl) rfl (Xa (Xo fa29_3 rfl) rfl (Xa (b2s_q (A0_1.kp (kp0.st (tr5 p3 p5 p7 p41 p46) rfl)) u22 u9 u5 rfl rfl rfl rfl rfl rfl) rfl (Xa (Xp (B3.st (Yo p5 p7 p41 p46) rfl) u22 rfl) rfl (Xa (Xo fa29_3 rfl) rfl (Xa (Xh rfl) rfl (Xa (Xh rfl) rfl (Xa (qv_b (Xh rfl) hb51) rfl Xg))))))))) (by kernel_rfl) (by decide) (Xc rfl (Xc rfl ?_))
       exact Kj51 _ _ _ ⟨s46, _, rfl, (ue rfl rfl), (kp0.st (tr5 p3 p5 p7 p41 p46) rfl)⟩
      rw [if_neg (by rw [hb51]; decide)]
      rw [hb51] at zd50
      try rw [hb51]
      refine Yp [28, 29, 30] tb7 ((((((zd50.add 22 27 undef rfl).add 23 28 undef rfl).add 24 29 undef rfl).add 25 30 undef rfl).add 26 31 undef rfl).add 27 32 undef rfl) (Xa (Xw rfl) rfl (Xa (Xw rfl) rfl (Xa (Xw rfl) rfl (Xa (Xw rfl) rfl (Xa (Xw rfl) rfl (Xa (Xw rfl) rfl (Xa (Xh rfl) rfl (Xa (Xh rfl) rfl (Xa (qv_b (Xh rfl) hb51) rfl Xg))))))))) (by kernel_rfl) (by decide) (Xk rfl (Xc rfl ?_))
      exact Kj51 _ _ _ ⟨s46, _, rfl, (ue rfl rfl), (kp0.st (tr5 p3 p5 p7 p41 p46) rfl)⟩
     rintro y51 _ _ ⟨s78, _, rfl, rfl, Ky51⟩
     exact Kj26 _ _ _ ⟨s78, _, rfl, (ue rfl rfl), Ky51⟩
    rw [if_neg (by rw [hb26]; decide)]
    rw [hb26] at zd25
    try rw [hb26]
    refine Yp [28, 29, 30] tb7 (((((((((((((((zd25.add 13 18 undef rfl).add 14 19 undef rfl).add 15 20 undef rfl).add 16 21 undef rfl).add 17 22 undef rfl).add 18 23 undef rfl).add 19 24 undef rfl).add 20 25 (.bool false) rfl).add 21 26 (.bool false) rfl).add 22 27 undef rfl).add 23 28 undef rfl).add 24 29 undef rfl).add 25 30 undef rfl).add 26 31 undef rfl).add 27 32 undef rfl) (Xa (Xw rfl) rfl (Xa (Xw rfl) rfl (Xa (Xw rfl) rfl (Xa (Xw rfl) rfl (Xa (Xw rfl) rfl (Xa (Xw rfl) rfl (Xa (Xh rfl) rfl (Xa (Xh rfl) rfl (Xa (Xw rfl) rfl (Xa (Xw rfl) rfl (Xa (Xw rfl) rfl (Xa (Xw rfl) rfl (Xa (Xw rfl) rfl (Xa (Xw rfl) rfl (Xa (Xw rfl) rfl (Xa (Xh rfl) rfl (Xa (Xh rfl) rfl (Xa (qv_b (Xh rfl) hb26) rfl (Xa (Xp (B5.st p7 rfl) u3 rfl) rfl (Xa (Xo fa29_1 rfl) rfl (Xa (Xp (B3.st (Xn p5 p7) rfl) u3 rfl) rfl (Xa (Xo fa29_1 rfl) rfl (Xa (Xh rfl) rfl (Xa (qv_b (Xh rfl) hb16) rfl (Xa (Xp (B5.st p7 rfl) u3 rfl) rfl (Xa (Xo fa29_0 rfl) rfl (Xa (Xp (B3.st (Xn p5 p7) rfl) u3 rfl) rfl (Xa (Xo fa29_0 rfl) rfl Xg)))))))))))))))))))))))))))) (by kernel_rfl) (by decide) (Xk rfl ?_)
    exact Xc rfl (Kj26 _ _ _ ⟨s7, _, rfl, (ue rfl rfl), (kp0.st (Yi p3 p5 p7) rfl)⟩)
   rintro y26 _ _ ⟨s99, _, rfl, rfl, Ky26⟩
   exact Kj16 _ _ _ ⟨s99, _, rfl, (ue rfl rfl), Ky26⟩
  rw [if_neg (by rw [hb16]; decide)]
  rw [hb16] at zd15
  try rw [hb16]
  refine Yp [28, 29, 30] tb7 ((((((((((((((((((((((zd15.add 6 11 undef rfl).add 7 12 undef rfl).add 8 13 undef rfl).add 9 14 undef rfl).add 10 15 undef rfl).add 11 16 (.bool false) rfl).add 12 17 (.bool false) rfl).add 13 18 undef rfl).add 14 19 undef rfl).add 15 20 undef rfl).add 16 21 undef rfl).add 17 22 undef rfl).add 18 23 undef rfl).add 19 24 undef rfl).add 20 25 (.bool false) rfl).add 21 26 (.bool false) rfl).add 22 27 undef rfl).add 23 28 undef rfl).add 24 29 undef rfl).add 25 30 undef rfl).add 26 31 undef rfl).add 27 32 undef rfl) (Xa (Xw rfl) rfl (Xa (Xw rfl) rfl (Xa (Xw rfl) rfl (Xa (Xw rfl) rfl (Xa (Xw rfl) rfl (Xa (Xw rfl) rfl (Xa (Xh rfl) rfl (Xa (Xh rfl) rfl (Xa (Xw rfl) rfl (Xa (Xw rfl) rfl (Xa (Xw rfl) rfl (Xa (Xw rfl) rfl (Xa (Xw rfl) rfl (Xa (Xw rfl) rfl (Xa (Xw rfl) rfl (Xa (Xh rfl) rfl (Xa (Xh rfl) rfl (Xa (Xw rfl) rfl (Xa (Xw rfl) rfl (Xa (Xw rfl) rfl (Xa (Xw rfl) rfl (Xa (Xw rfl) rfl (Xa (Xh rfl) rfl (Xa (qv_b (Xh rfl) hb16) rfl (Xa (Xp (B5.st p7 rfl) u3 rfl) rfl (Xa (Xo fa29_0 rfl) rfl (Xa (Xp (B3.st (Xn p5 p7) rfl) u3 rfl) rfl (Xa (Xo fa29_0 rfl) rfl Xg)))))))))))))))))))))))))))) (by kernel_rfl) (by decide) (Xk rfl (Xc rfl ?_))
  exact Kj16 _ _ _ ⟨s7, _, rfl, (ue rfl rfl), (kp0.st (Yi p3 p5 p7) rfl)⟩
 rintro y16 _ _ ⟨s125, _, rfl, rfl, Ky16⟩
 exact Xc rfl (dn (re rfl func20 rfl (Xu rfl Xe) rfl ⟨_, rfl, rfl, z.ky Ky16⟩))
def laws_sameTuple.f (a0 : Tuple) (a1 : Tuple) : Option (Bool) :=
 ((if ((a0.Xmin == a1.Xmin) && (a0.Xmax == a1.Xmax)) = true then ((laws_sameItem.f a0.Key a1.Key).bind fun r15 => (some r15)) else (some false)).bind fun y11 => ((if y11 = true then ((laws_sameItem.f a0.Value a1.Value).bind fun r27 => (some r27)) else (some false)).bind fun y24 => (some y24)))
def laws_sameTuple.Q (w : World) (F : Nat → Prop) (r : Bool) (v : Value) (w' : World) : Prop :=
 v = (.bool r) ∧ Ky [] w w'
theorem laws_sameTuple.calls (a0 : Tuple) (a1 : Tuple) (w : World) (F : Nat → Prop) (w0_0 : Value) (w0_1 : Value) (w0_2 : Value) (w0_3 : Value) (w1_0 : Value) (w1_1 : Value) (w1_2 : Value) (w1_3 : Value) (h0_0 : Kd.flt.rd w [w0_0] a0.Key.F F) (h0_1 : Yr.rd w [w0_1] a0.Key.T F) (h0_2 : Kd.flt.rd w [w0_2] a0.Value.F F) (h0_3 : Yr.rd w [w0_3] a0.Value.T F) (h1_0 : Kd.flt.rd w [w1_0] a1.Key.F F) (h1_1 : Yr.rd w [w1_1] a1.Key.T F) (h1_2 : Kd.flt.rd w [w1_2] a1.Value.F F) (h1_3 : Yr.rd w [w1_3] a1.Value.T F) (r : Bool) (m : laws_sameTuple.f a0 a1 = some r) :
  Calls prog 15 #[(.agg #[(iI a0.Xmin), (iI a0.Xmax), (iI a0.Key.Kind), (iI a0.Key.N), w0_0, w0_1, (iI a0.Value.Kind), (iI a0.Value.N), w0_2, w0_3]), (.agg #[(iI a1.Xmin), (iI a1.Xmax), (iI a1.Key.Kind), (iI a1.Key.N), w1_0, w1_1, (iI a1.Value.Kind), (iI a1.Value.N), w1_2, w1_3])] w (RT (laws_sameTuple.Q w F) r) := by
 obtain ⟨s0, rfl, kp0, z⟩ := Xl w F
 refine Xd (args := [(.agg #[(iI a0.Xmin), (iI a0.Xmax), (iI a0.Key.Kind), (iI a0.Key.N), w0_0, w0_1, (iI a0.Value.Kind), (iI a0.Value.N), w0_2, w0_3]), (.agg #[(iI a1.Xmin), (iI a1.Xmax), (iI a1.Key.Kind), (iI a1.Key.N), w1_0, w1_1, (iI a1.Value.Kind), (iI a1.Value.N), w1_2, w1_3])]) func15 ntmps15 rfl m ?_
 unfold laws_sameTuple.f
 refine sr (bx' (cs := [(iI a0.Xmin), (iI a0.Xmax), (iI a0.Key.Kind), (iI a0.Key.N), w0_0, w0_1, (iI a0.Value.Kind), (iI a0.Value.N), w0_2, w0_3]) 40 rfl rfl (fun b5 s5 p5 B5 => ?_))
 refine bx' (cs := [(iI a1.Xmin), (iI a1.Xmax), (iI a1.Key.Kind), (iI a1.Key.N), w1_0, w1_1, (iI a1.Value.Kind), (iI a1.Value.N), w1_2, w1_3]) 41 rfl rfl (fun b7 s7 p7 B7 => ?_)
 refine Xc rfl (dn (sr (Ye fa31_0 rfl ?_)))
 have A9 := B5.st p7 rfl
 refine Yl A9 u3 rfl (Ye fa31_0 rfl (Yl B7 u3 rfl (Xc rfl (Xc rfl (jy [10, 11, 12, 13, 14, 15, 16] [12, 13, 14, 15, 16, 17, 18, 19, 20, 21, 22, 23, 24, 25, 26] 16 (.bool ((a0.Xmin == a1.Xmin) && (a0.Xmax == a1.Xmax))) rfl (fun Kg10 => ?_) (fun j10 => ?_))))))
 ·
  rcases bft (a0.Xmin == a1.Xmin) with hb10 | hb10
  ·
   exact Yb hb10 (Ye fa31_1 rfl (Yl A9 u3 rfl (Ye fa31_1 rfl (Yl B7 u3 rfl (Xc rfl (Xc rfl (Kg10 _ (Ag.put ((Ag.put ((Ag.put ((Ag.put ((Ag.put ((Ag.put (Ag.base rfl) rfl)) rfl)) rfl)) rfl)) rfl)) rfl) (by rw [hb10]; rfl))))))))
  exact Yb hb10 (Xk rfl (Xk rfl (Xk rfl (Xk rfl (Xk rfl (Xc rfl (Kg10 _ (Ag.put ((Ag.put ((Ag.put ((Ag.put ((Ag.put ((Ag.put (Ag.base rfl) rfl)) rfl)) rfl)) rfl)) rfl)) rfl) (by rw [hb10]; rfl))))))))
 refine Xc rfl (ji [19, 20, 21, 22, 23, 24, 25, 26] (fun (y11 : Bool) e w => ∃ (s : St) (e0 : Env), w = s.w ∧ e = upd (upd (upd e0 2 (pB b5)) 3 (pB b7)) 23 (.bool y11) ∧ Kp s0 s ∧ BlF s b7 31 [(iI a1.Xmin), (iI a1.Xmax), (iI a1.Key.Kind), (iI a1.Key.N), w1_0, w1_1, (iI a1.Value.Kind), (iI a1.Value.N), w1_2, w1_3] 41 ∧ BlF s b5 31 [(iI a0.Xmin), (iI a0.Xmax), (iI a0.Key.Kind), (iI a0.Key.N), w0_0, w0_1, (iI a0.Value.Kind), (iI a0.Value.N), w0_2, w0_3] 40) (fun Gj11 Kj11 => ?_) ?_)
 ·
  rcases bft ((a0.Xmin == a1.Xmin) && (a0.Xmax == a1.Xmax)) with hb11 | hb11
  ·
   refine Yb hb11 ?_
   rw [if_pos hb11]
   refine Ye fa31_2 rfl (Ya (es := [(iI a0.Key.Kind), (iI a0.Key.N), w0_0, w0_1]) A9 u29 z29 rfl (Ye fa31_2 rfl (Ya (es := [(iI a1.Key.Kind), (iI a1.Key.N), w1_0, w1_1]) B7 u29 z29 rfl ?_)))
   have K12 := kp0.st (Xn p5 p7) rfl
   refine Yn 42 rfl func20 rfl (laws_sameItem.calls a0.Key a1.Key s7.w (mm [0] s7) w0_0 w0_1 w1_0 w1_1 ((Xq (s := s7) (Yq h0_0)).sub (D := [0]) rfl) ((z.rd h0_1).kp K12) ((Xq (s := s7) (Yq h1_0)).sub (D := [0]) rfl) ((z.rd h1_1).kp K12)) (fun r15 s16 p16 n16 => ?_)
   exact Xc rfl (Kj11 _ _ _ ⟨s16, _, rfl, (ue (ue (ue rfl rfl) rfl) rfl), (K12.st p16 rfl), (B7.st p16 rfl), (A9.st p16 rfl)⟩)
  refine Yb hb11 ?_
  rw [if_neg (by rw [hb11]; decide)]
  refine Xk rfl (Xk rfl (Xk rfl (Xk rfl (Xk rfl (Xc rfl ?_)))))
  exact Kj11 _ _ _ ⟨s7, _, rfl, (ue (ue (ue rfl rfl) rfl) rfl), (kp0.st (Xn p5 p7) rfl), B7, A9⟩
 rintro y11 _ _ ⟨s21, _, rfl, rfl, Ky11, By11_b7, By11_b5⟩
 refine Xc rfl (ji [26] (fun (y24 : Bool) e w => ∃ (s : St) (e0 : Env), w = s.w ∧ e = upd e0 30 (.bool y24) ∧ Kp s0 s) (fun Gj24 Kj24 => ?_) ?_)
 ·
  rcases bft y11 with hb24 | hb24
  ·
   refine Yb hb24 ?_
   rw [if_pos hb24]
   refine Ye fa31_3 rfl (Ya (es := [(iI a0.Value.Kind), (iI a0.Value.N), w0_2, w0_3]) By11_b5 u29 z29 rfl (Ye fa31_3 rfl (Ya (es := [(iI a1.Value.Kind), (iI a1.Value.N), w1_2, w1_3]) By11_b7 u29 z29 rfl ?_)))
   refine Yn 43 rfl func20 rfl (laws_sameItem.calls a0.Value a1.Value s21.w (mm [0] s21) w0_2 w0_3 w1_2 w1_3 ((Xq (s := s21) (Yq h0_2)).sub (D := [0]) rfl) ((z.rd h0_3).kp Ky11) ((Xq (s := s21) (Yq h1_2)).sub (D := [0]) rfl) ((z.rd h1_3).kp Ky11)) (fun r27 s28 p28 n28 => ?_)
   exact Xc rfl (Kj24 _ _ _ ⟨s28, _, rfl, (ue rfl rfl), (Ky11.st p28 rfl)⟩)
  refine Yb hb24 ?_
  rw [if_neg (by rw [hb24]; decide)]
  exact Xk rfl (Xk rfl (Xk rfl (Xk rfl (Xk rfl (Xc rfl (Kj24 _ _ _ ⟨s21, _, rfl, (ue rfl rfl), Ky11⟩))))))
 rintro y24 _ _ ⟨s30, _, rfl, rfl, Ky24⟩
 exact Xc rfl (dn (re rfl func15 rfl (Xu rfl Xe) rfl ⟨_, rfl, rfl, z.ky Ky24⟩))
def impl_Heap_rowsOf_1.f (a0 : Row) (a1 : (Tuple → Option Bool)) : Option (Bool) :=
 ((a1 a0.Tuple).bind fun r10 => (some (!r10)))
def impl_Heap_rowsOf_1.Q (w : World) (F : Nat → Prop) (r : Bool) (v : Value) (w' : World) : Prop :=
 v = (.bool r) ∧ Ky [] w w'
theorem impl_Heap_rowsOf_1.calls (a0 : Row) (a1 : (Tuple → Option Bool)) (w : World) (F : Nat → Prop) (w0_0 : Value) (w0_1 : Value) (w0_2 : Value) (w0_3 : Value) (c1 : Nat) (f1 : Value) (h0_0 : Kd.flt.rd w [w0_0] a0.Tuple.Key.F F) (h0_1 : Yr.rd w [w0_1] a0.Tuple.Key.T F) (h0_2 : Kd.flt.rd w [w0_2] a0.Tuple.Value.F F) (h0_3 : Yr.rd w [w0_3] a0.Tuple.Value.T F) (hf1 : ∀ (x0 : Tuple) (u0_0 u0_1 u0_2 u0_3 : Value) (w' : World), Ky [] w w' → Kd.flt.rd w' [u0_0] x0.Key.F (fun _ => True) → Yr.rd w' [u0_1] x0.Key.T (fun _ => True) → Kd.flt.rd w' [u0_2] x0.Value.F (fun _ => True) → Yr.rd w' [u0_3] x0.Value.T (fun _ => True) → ∀ r, a1 x0 = some r → CallV prog f1 [(.agg #[(iI x0.Xmin), (iI x0.Xmax), (iI x0.Key.Kind), (iI x0.Key.N), u0_0, u0_1, (iI x0.Value.Kind), (iI x0.Value.N), u0_2, u0_3])] w' fun en w'' => ∃ v, en = .returned v ∧ v = (.bool r) ∧ Ky [] w' w'') (ho1 : f1.cells = #[f1]) (hb1 : BlW w c1 58 [f1]) (hp1 : F c1) (r : Bool) (m : impl_Heap_rowsOf_1.f a0 a1 = some r) :
  Calls prog 179 #[(.agg #[(iI a0.Page), (iI a0.Slot), (iI a0.Tuple.Xmin), (iI a0.Tuple.Xmax), (iI a0.Tuple.Key.Kind), (iI a0.Tuple.Key.N), w0_0, w0_1, (iI a0.Tuple.Value.Kind), (iI a0.Tuple.Value.N), w0_2, w0_3]), (pB c1)] w (RT (impl_Heap_rowsOf_1.Q w F) r) := by
 obtain ⟨s0, rfl, kp0, z⟩ := Xl w F
 refine Xd (args := [(.agg #[(iI a0.Page), (iI a0.Slot), (iI a0.Tuple.Xmin), (iI a0.Tuple.Xmax), (iI a0.Tuple.Key.Kind), (iI a0.Tuple.Key.N), w0_0, w0_1, (iI a0.Tuple.Value.Kind), (iI a0.Tuple.Value.N), w0_2, w0_3]), (pB c1)]) func179 ntmps179 rfl m ?_
 unfold impl_Heap_rowsOf_1.f
 refine sr (bx' (cs := [(iI a0.Page), (iI a0.Slot), (iI a0.Tuple.Xmin), (iI a0.Tuple.Xmax), (iI a0.Tuple.Key.Kind), (iI a0.Tuple.Key.N), w0_0, w0_1, (iI a0.Tuple.Value.Kind), (iI a0.Tuple.Value.N), w0_2, w0_3]) 40 rfl rfl (fun b4 s4 p4 B4 => ?_))
 refine Xc rfl (dn (sr ?_))
 refine Yl (BlF.st (z.b0 hb1 hp1) p4 rfl) u58 rfl (Ye fa47_2 rfl (Ya (es := [(iI a0.Tuple.Xmin), (iI a0.Tuple.Xmax), (iI a0.Tuple.Key.Kind), (iI a0.Tuple.Key.N), w0_0, w0_1, (iI a0.Tuple.Value.Kind), (iI a0.Tuple.Value.N), w0_2, w0_3]) B4 u31 z31 rfl ?_))
 have K7 := kp0.st p4 rfl
 refine clv rfl rfl rfl rfl rfl rfl rfl (fun r10 m10 => hf1 a0.Tuple w0_0 w0_1 w0_2 w0_3 s4.w (z.ky K7) (fl_rd (Yq h0_0)) (RdF.top ((z.rd h0_1).kp K7)) (fl_rd (Yq h0_2)) (RdF.top ((z.rd h0_3).kp K7)) r10 m10) ?_
 rintro r10 _ w10 m10 ⟨rfl, ky10⟩
 obtain ⟨s11, rfl, p11, n11⟩ := nwx s4 w10 41 ky10
 refine Xc rfl (Xc rfl (dn ?_))
 exact re rfl func179 rfl (Xu rfl Xe) rfl ⟨_, rfl, rfl, z.ky (K7.st p11 rfl)⟩
def impl_Heap_rows.b1 (a0 : Heap) (x6 : (List Row) × Int) (x20 : (List Row) × Int) : Option (((List Row) × Int) ⊕ ((List Row) × Int ⊕ (List Row))) :=
 (if (decide (x20.2 < (((at_ a0.Pages x6.2).Slots).length : Int))) = true then (if 0 ≤ x20.2 ∧ x20.2 < (((at_ a0.Pages x6.2).Slots).length : Int) then ((impl_TupleRead.f (at_ ((at_ a0.Pages x6.2).Slots) x20.2)).bind fun r29 => ((if r29.2 = true then (if x20.1.length + ([(Row.mk x6.2 x20.2 r29.1)]).length ≤ Lim then (some (x20.1 ++ [(Row.mk x6.2 x20.2 r29.1)])) else none) else (some x20.1)).bind fun y40 => (some (Sum.inl (y40, (IntKind.wrap .i64 (x20.2 + (1 : Int)))))))) else none) else ((some (Sum.inl (x20.1, (IntKind.wrap .i64 (x6.2 + (1 : Int)))))).bind fun o => some (Sum.inr o)))
def impl_Heap_rows.b0 (a0 : Heap) (x6 : (List Row) × Int) : Option (((List Row) × Int) ⊕ (List Row)) :=
 (if (decide (x6.2 < (a0.Pages.length : Int))) = true then (if 0 ≤ x6.2 ∧ x6.2 < (a0.Pages.length : Int) then (iter (impl_Heap_rows.b1 a0 x6) (x6.1, (0 : Int))) else none) else ((some x6.1).bind fun o => some (Sum.inr o)))
def impl_Heap_rows.f (a0 : Heap) : Option ((List Row)) :=
 (iter (impl_Heap_rows.b0 a0) (([] : (List Row)), (0 : Int)))
def impl_Heap_rows.Q (w : World) (F : Nat → Prop) (r : (List Row)) (v : Value) (w' : World) : Prop :=
 FO Yu w w' [v] r ∧ Ky [] w w'
theorem impl_Heap_rows.calls (a0 : Heap) (w : World) (F : Nat → Prop) (w0_0 : Value) (h0_0 : Yt.rd w [w0_0] a0.Pages F) (r : (List Row)) (m : impl_Heap_rows.f a0 = some r) :
  Calls prog 178 #[(.agg #[w0_0])] w (RT (impl_Heap_rows.Q w F) r) := by
 obtain ⟨s0, rfl, kp0, z⟩ := Xl w F
 have A0_0 := z.rd h0_0
 refine Xd (args := [(.agg #[w0_0])]) func178 ntmps178 rfl m ?_
 unfold impl_Heap_rows.f
 refine sr (bx' (cs := [w0_0]) 40 rfl rfl (fun b2 s2 p2 B2 => ?_))
 refine Xc rfl (dn (sr (Xc rfl (dn (sq (sr (Ye fa26_0 rfl (Yl B2 u24 rfl ?_))))))))
 have K4 := kp0.st p2 rfl
 refine ln' (A0_0.kp K4) u24 rfl (Xc rfl (dn (bl (lpI (fun (x6 : (List Row) × Int) e w => ∃ (s : St) (e0 : Env) (vx6_0 : Value), w = s.w ∧ e = upd (upd (upd (upd e0 3 vx6_0) 11 w0_0) 12 (iI (a0.Pages.length : Int))) 13 (iI x6.2) ∧ Kp s0 s ∧ OwF Yu s [vx6_0] x6.1 42) ⟨s2, _, (.slice none 0 0), rfl, (ue (ue (ue (ue rfl rfl) rfl) rfl) rfl), K4, (Ym 47 kd47 _ 42)⟩ (fun g6 ih6 => ?_)))))
 rintro x6 _ _ ⟨s7, _, vx6_0, rfl, rfl, Kx6, Ax6_0⟩
 unfold impl_Heap_rows.b0
 refine sr (Xc rfl (dn (sq (cd rfl (fun h9 => ?_) (fun h9 => ?_)))))
 ·
  refine sk (sq (bl (sr (Xc rfl ?_))))
  refine ix' (A0_0.kp Kx6) u24 z116 rfl (fun ad11 es11 h0_11 h1_11 he11 ce11 ia11 => ?_)
  obtain ⟨v11_0, rfl, A11_0⟩ := op116 he11
  refine lca ce11 u116 z116 rfl rfl rfl rfl rfl rfl rfl (al' (cs := [(iI 0), (.slice none 0 0)]) 43 rfl o116 rfl (fun b14 s14 p14 B14 => ?_))
  refine Xc rfl ?_
  have A16 := A11_0.st p14 rfl
  refine Xx (vs := [(iI ((at_ a0.Pages x6.2).Lsn)), v11_0]) B14 z116 rfl (Xb rfl (Xb A16.one Xj)) rfl (fun s17 p17 B17 => ?_)
  refine dn (sr (Ye fa116_1 rfl (Yl B17 u114 rfl ?_)))
  have A19 := A16.st p17 rfl
  refine ln' A19 u114 rfl (Xc rfl (dn (bl ?_)))
  refine lpI (fun (x20 : (List Row) × Int) e w => ∃ (s : St) (e0 : Env) (vx20_0 : Value), w = s.w ∧ e = upd (upd (upd (upd (upd (upd (upd (upd e0 3 vx20_0) 4 (iI x6.2)) 11 w0_0) 12 (iI (a0.Pages.length : Int))) 13 (iI x6.2)) 19 v11_0) 20 (iI (((at_ a0.Pages x6.2).Slots).length : Int))) 21 (iI x20.2) ∧ Kp s0 s ∧ OwF Yu s [vx20_0] x20.1 42 ∧ RdF (Kd.sl 22 Yr) s [v11_0] ((at_ a0.Pages x6.2).Slots) [0]) ⟨s17, _, vx6_0, rfl, (ue (ue (ue (ue (ue (ue (ue (ue rfl rfl) rfl) rfl) rfl) rfl) rfl) rfl) rfl), (Kx6.st (Xn p14 p17) rfl), (Ax6_0.st (Xn p14 p17) rfl), A19⟩ (fun g20 ih20 => ?_)
  rintro x20 _ _ ⟨s23, _, vx20_0, rfl, rfl, Kx20, Ax20_0, Cx20_12⟩
  unfold impl_Heap_rows.b1
  refine sr (Xc rfl (dn (sq (cd rfl (fun h25 => ?_) (fun h25 => ?_)))))
  ·
   refine sk (sq (bl (sr (Xc rfl (ix' Cx20_12 u114 z22 rfl (fun ad26 es26 h0_26 h1_26 he26 ce26 ia26 => ?_))))))
   obtain ⟨v26, rfl, he26'⟩ := he26
   have A26 : RdF Yr s23 [v26] (at_ ((at_ a0.Pages x6.2).Slots) x20.2) [0] := ⟨v26, rfl, he26'⟩
   refine lc0' ce26 u22 rfl (Xc rfl (Yh v26 rfl (dn (sr (Yc v26 rfl (cl' rfl func93 rfl (impl_TupleRead.calls (at_ ((at_ a0.Pages x6.2).Slots) x20.2) s23.w (mm [0] s23) v26 A26) ?_))))))
   rintro r29 _ w29 m29 ⟨v29_0, v29_1, v29_2, v29_3, rfl, f29_0, ky29⟩
   obtain ⟨s30, rfl, p30, n30⟩ := nwx s23 w29 44 ky29
   obtain ⟨s31, hw31, p31, hu29_0_0, Au29_0_1, hu29_0_2, Au29_0_3⟩ := ap31 45 (f29_0.c n30) rfl
   rw [hw31]
   refine Xc rfl (Xc (v := (.agg #[(iI r29.1.Xmin), (iI r29.1.Xmax), (iI r29.1.Key.Kind), (iI r29.1.Key.N), v29_0, v29_1, (iI r29.1.Value.Kind), (iI r29.1.Value.N), v29_2, v29_3])) rfl (Xc (v := (.bool r29.2)) rfl (al' (cs := [(iI 0), (iI 0), (iI 0), (iI 0), (.float .f64 0), (.slice none 0 0), (iI 0), (iI 0), (.float .f64 0), (.slice none 0 0)]) 46 rfl o31 rfl (fun b34 s34 p34 B34 => ?_))))
   have A36 := Au29_0_3.st p34 rfl
   have A37 := Au29_0_1.st p34 rfl
   refine Xx (vs := [(iI r29.1.Xmin), (iI r29.1.Xmax), (iI r29.1.Key.Kind), (iI r29.1.Key.N), v29_0, v29_1, (iI r29.1.Value.Kind), (iI r29.1.Value.N), v29_2, v29_3]) B34 z31 rfl (Xb rfl (Xb rfl (Xb rfl (Xb rfl (Xb (FL.one hu29_0_0) (Xb A37.rd.one (Xb rfl (Xb rfl (Xb (FL.one hu29_0_2) (Xb A36.rd.one Xj)))))))))) rfl (fun s38 p38 B38 => ?_)
   refine Xc rfl (dn (sr (Xc rfl (dn (jc (fun (y40 : (List Row)) e w => ∃ (s : St) (e0 : Env) (vy40_0 : Value), w = s.w ∧ e = upd (upd (upd (upd (upd (upd (upd (upd e0 3 vy40_0) 4 (iI x6.2)) 11 w0_0) 12 (iI (a0.Pages.length : Int))) 13 (iI x6.2)) 19 v11_0) 20 (iI (((at_ a0.Pages x6.2).Slots).length : Int))) 21 (iI x20.2) ∧ Kp s0 s ∧ OwF Yu s [vy40_0] y40 42 ∧ RdF (Kd.sl 22 Yr) s [v11_0] ((at_ a0.Pages x6.2).Slots) [0]) (fun Gj40 Kj40 => ?_) ?_)))))
   ·
    refine cd rfl (fun h41 => ?_) (fun h41 => ?_)
    ·
     refine rg (Yc vx20_0 rfl (Xc rfl (Xc rfl (Ya (es := [(iI r29.1.Xmin), (iI r29.1.Xmax), (iI r29.1.Key.Kind), (iI r29.1.Key.N), v29_0, v29_1, (iI r29.1.Value.Kind), (iI r29.1.Value.N), v29_2, v29_3]) B38 u31 z31 rfl (bd' (cells := [(iI x6.2), (iI x20.2), (iI r29.1.Xmin), (iI r29.1.Xmax), (iI r29.1.Key.Kind), (iI r29.1.Key.N), v29_0, v29_1, (iI r29.1.Value.Kind), (iI r29.1.Value.N), v29_2, v29_3]) pl47 o47 rfl rfl ?_)))))
     obtain ⟨s44, hw44, p44, A44⟩ := ow_2 (Xs (fun x : Item => (x.Kind, x.N, x.F, x.T)) r29.1.Key (Xy (Xf .i64 r29.1.Key.Kind) (Xy (Xf .i64 r29.1.Key.N) (Xy (Xz hu29_0_0) (A37.st p38 rfl))))) (Xs (fun x : Item => (x.Kind, x.N, x.F, x.T)) r29.1.Value (Xy (Xf .i64 r29.1.Value.Kind) (Xy (Xf .i64 r29.1.Value.N) (Xy (Xz hu29_0_2) (A36.st p38 rfl))))) rfl rfl
     rw [hw44]
     have A46 : OwF kd47 s44 [(iI x6.2), (iI x20.2), (iI r29.1.Xmin), (iI r29.1.Xmax), (iI r29.1.Key.Kind), (iI r29.1.Key.N), v29_0, v29_1, (iI r29.1.Value.Kind), (iI r29.1.Value.N), v29_2, v29_3] (Row.mk x6.2 x20.2 r29.1) 44 := (Xs (fun x : Row => (x.Page, x.Slot, x.Tuple)) (Row.mk x6.2 x20.2 r29.1) (Xy (Xf .i64 x6.2) (Xy (Xf .i64 x20.2) (Xs (fun x : Tuple => (x.Xmin, x.Xmax, x.Key, x.Value)) r29.1 (Xy (Xf .i64 r29.1.Xmin) (Xy (Xf .i64 r29.1.Xmax) A44))))))
     refine ltO' (K := kd47) (cells := [(iI x6.2), (iI x20.2), (iI r29.1.Xmin), (iI r29.1.Xmax), (iI r29.1.Key.Kind), (iI r29.1.Key.N), v29_0, v29_1, (iI r29.1.Value.Kind), (iI r29.1.Value.N), v29_2, v29_3]) [(Row.mk x6.2 x20.2 r29.1)] 44 u34 z47 o47 (lo_one A46) rfl rfl (fun v49 s49 p49 A49 => ?_)
     refine apO' sl34 (Ax20_0.st (tr6 p30 p31 p34 p38 p44 p49) rfl) A49 rfl (fun v52 s52 p52 A52 => ?_)
     refine Yh v52 rfl (dn ?_)
     exact Kj40 _ _ _ ⟨s52, _, v52, rfl, (ue (ue (ue (ue (ue (ue (ue (ue rfl rfl) rfl) rfl) rfl) rfl) rfl) rfl) rfl), (Kx20.st (tr7 p30 p31 p34 p38 p44 p49 p52) rfl), A52, (Cx20_12.st (tr7 p30 p31 p34 p38 p44 p49 p52) rfl)⟩
    exact sk (Kj40 _ _ _ ⟨s38, _, vx20_0, rfl, (ue (ue (ue (ue (ue (ue (ue (ue rfl rfl) rfl) rfl) rfl) rfl) rfl) rfl) rfl), (Kx20.st (Yo p30 p31 p34 p38) rfl), (Ax20_0.st (Yo p30 p31 p34 p38) rfl), (Cx20_12.st (Yo p30 p31 p34 p38) rfl)⟩)
   rintro y40 _ _ ⟨s59, _, vy40_0, rfl, rfl, Ky40, Ay40_0, Cy40_12⟩
   exact ib (rg (Xc rfl (Xc rfl (dn (lb ih20 ⟨s59, _, vy40_0, rfl, (ue (ue (ue (ue (ue (ue (ue (ue rfl rfl) rfl) rfl) rfl) rfl) rfl) rfl) rfl), Ky40, Ay40_0, Cy40_12⟩)))))
  exact xt rfl (sgb (ib (rg (Xc rfl (Xc rfl (dn (lb ih6 ⟨s23, _, vx20_0, rfl, (ue (ue (ue (ue rfl rfl) rfl) rfl) rfl), Kx20, Ax20_0⟩)))))))
 exact xt rfl (sgb (sr (Yc vx6_0 rfl (Yh vx6_0 rfl (dn (re rfl func178 rfl (Xu rfl Xe) rfl ⟨_, rfl, Ax6_0.fo Kx6 rfl z.l, z.ky Kx6⟩))))))
def slices_IndexFunc_impl_Row_impl_Row.b0 (a0 : (List Row)) (a1 : (Row → Option Bool)) (x2 : Int) : Option (Int ⊕ Int) :=
 (if (decide (x2 < (a0.length : Int))) = true then (if 0 ≤ x2 ∧ x2 < (a0.length : Int) then ((a1 (Row.mk ((at_ a0 x2).Page) ((at_ a0 x2).Slot) (Tuple.mk (((at_ a0 x2).Tuple).Xmin) (((at_ a0 x2).Tuple).Xmax) (((at_ a0 x2).Tuple).Key) (((at_ a0 x2).Tuple).Value)))).bind fun r10 => (if r10 = true then (some (Sum.inr x2)) else (some (Sum.inl (IntKind.wrap .i64 (x2 + (1 : Int))))))) else none) else ((some (-1 : Int)).bind fun o => some (Sum.inr o)))
def slices_IndexFunc_impl_Row_impl_Row.f (a0 : (List Row)) (a1 : (Row → Option Bool)) : Option (Int) :=
 (iter (slices_IndexFunc_impl_Row_impl_Row.b0 a0 a1) (0 : Int))
def slices_IndexFunc_impl_Row_impl_Row.Q (w : World) (F : Nat → Prop) (r : Int) (v : Value) (w' : World) : Prop :=
 v = (iI r) ∧ Ky [] w w'
theorem slices_IndexFunc_impl_Row_impl_Row.calls (a0 : (List Row)) (a1 : (Row → Option Bool)) (w : World) (F : Nat → Prop) (w0_0 : Value) (f1 : Value) (h0_0 : Yu.rd w [w0_0] a0 F) (hf1 : ∀ (x0 : Row) (u0_0 u0_1 u0_2 u0_3 : Value) (w' : World), Ky [] w w' → Kd.flt.rd w' [u0_0] x0.Tuple.Key.F (fun _ => True) → Yr.rd w' [u0_1] x0.Tuple.Key.T (fun _ => True) → Kd.flt.rd w' [u0_2] x0.Tuple.Value.F (fun _ => True) → Yr.rd w' [u0_3] x0.Tuple.Value.T (fun _ => True) → ∀ r, a1 x0 = some r → CallV prog f1 [(.agg #[(iI x0.Page), (iI x0.Slot), (iI x0.Tuple.Xmin), (iI x0.Tuple.Xmax), (iI x0.Tuple.Key.Kind), (iI x0.Tuple.Key.N), u0_0, u0_1, (iI x0.Tuple.Value.Kind), (iI x0.Tuple.Value.N), u0_2, u0_3])] w' fun en w'' => ∃ v, en = .returned v ∧ v = (.bool r) ∧ Ky [] w' w'') (ho1 : f1.cells = #[f1]) (r : Int) (m : slices_IndexFunc_impl_Row_impl_Row.f a0 a1 = some r) :
  Calls prog 239 #[w0_0, f1] w (RT (slices_IndexFunc_impl_Row_impl_Row.Q w F) r) := by
 obtain ⟨s0, rfl, kp0, z⟩ := Xl w F
 have A0_0 := z.rd h0_0
 refine Xd (args := [w0_0, f1]) func239 ntmps239 rfl m ?_
 unfold slices_IndexFunc_impl_Row_impl_Row.f
 refine sr (Xc rfl (dn (sq (sr (Yc w0_0 rfl (ln' A0_0 u34 rfl (Xc rfl (dn (bl (lpI (fun (x2 : Int) e w => ∃ (s : St) (e0 : Env), w = s.w ∧ e = upd (upd (upd (upd e0 0 w0_0) 1 f1) 7 (iI (a0.length : Int))) 8 (iI x2) ∧ Kp s0 s) ⟨s0, _, rfl, (ue (ue (ue (ue rfl rfl) rfl) rfl) rfl), kp0⟩ (fun g2 ih2 => ?_)))))))))))
 rintro x2 _ _ ⟨s3, _, rfl, rfl, Kx2⟩
 unfold slices_IndexFunc_impl_Row_impl_Row.b0
 refine sr (Xc rfl (dn (sq (cd rfl (fun h4 => ?_) (fun h4 => ?_)))))
 ·
  refine sk (sq (bl (sr (Xc rfl (Xc rfl (dn (sr (Yc f1 rfl (Yc w0_0 rfl (Xc rfl ?_))))))))))
  refine ix' (A0_0.kp Kx2) u34 z47 rfl (fun ad6 es6 h0_6 h1_6 he6 ce6 ia6 => ?_)
  obtain ⟨v6_0, v6_1, v6_2, v6_3, rfl, A6_0, A6_1, A6_2, A6_3⟩ := op47 he6
  refine lca ce6 u47 z47 rfl rfl rfl rfl rfl rfl rfl (clv rfl rfl rfl rfl rfl rfl rfl (fun r10 m10 => hf1 (Row.mk ((at_ a0 x2).Page) ((at_ a0 x2).Slot) (Tuple.mk (((at_ a0 x2).Tuple).Xmin) (((at_ a0 x2).Tuple).Xmax) (((at_ a0 x2).Tuple).Key) (((at_ a0 x2).Tuple).Value))) v6_0 v6_1 v6_2 v6_3 s3.w (z.ky Kx2) (fl_rd A6_0) (RdF.top A6_1) (fl_rd A6_2) (RdF.top A6_3) r10 m10) ?_)
  rintro r10 _ w10 m10 ⟨rfl, ky10⟩
  obtain ⟨s11, rfl, p11, n11⟩ := nwx s3 w10 40 ky10
  refine dn (cd rfl (fun h12 => ?_) (fun h12 => ?_))
  ·
   refine sr (Xc rfl (Xc rfl (dn (sgi ?_))))
   exact re rfl func239 rfl (Xu rfl Xe) rfl ⟨_, rfl, rfl, z.ky (Kx2.st p11 rfl)⟩
  refine sk (ib (rg (Xc rfl (Xc rfl (dn ?_)))))
  exact lb ih2 ⟨s11, _, rfl, (ue (ue (ue (ue rfl rfl) rfl) rfl) rfl), (Kx2.st p11 rfl)⟩
 exact xt rfl (sgb (sr (Xc rfl (dn (re rfl func239 rfl (Xu rfl Xe) rfl ⟨_, rfl, rfl, z.ky Kx2⟩)))))
set_option linter.unusedSectionVars false
section
variable {β : Type} [Inhabited β]
def slices_IndexFunc_impl_Row_impl_Row_pk.b0 (a0 : (List (Pk β))) (a1 : ((Pk β) → Option Bool)) (x2 : Int) : Option (Int ⊕ Int) :=
 (if (decide (x2 < (a0.length : Int))) = true then (if 0 ≤ x2 ∧ x2 < (a0.length : Int) then ((a1 (at_ a0 x2)).bind fun r8 => (if r8 = true then (some (Sum.inr x2)) else (some (Sum.inl (IntKind.wrap .i64 (x2 + (1 : Int))))))) else none) else ((some (-1 : Int)).bind fun o => some (Sum.inr o)))
def slices_IndexFunc_impl_Row_impl_Row_pk.f (a0 : (List (Pk β))) (a1 : ((Pk β) → Option Bool)) : Option (Int) :=
 (iter (slices_IndexFunc_impl_Row_impl_Row_pk.b0 a0 a1) (0 : Int))
def slices_IndexFunc_impl_Row_impl_Row_pk.Q (w : World) (F : Nat → Prop) (r : Int) (v : Value) (w' : World) : Prop :=
 v = (iI r) ∧ Ky [] w w'
theorem slices_IndexFunc_impl_Row_impl_Row_pk.calls (a0 : (List (Pk β))) (a1 : ((Pk β) → Option Bool)) (w : World) (F : Nat → Prop) (w0_0 : Value) (f1 : Value) (h0_0 : (Kd.sl 47 (Kd.pk β 12)).rd w [w0_0] a0 F) (hf1 : ∀ (x0 : (Pk β)) (w' : World), Ky [] w w' → ∀ r, a1 x0 = some r → CallV prog f1 [(.agg (List.toArray x0.cs))] w' fun en w'' => ∃ v, en = .returned v ∧ v = (.bool r) ∧ Ky [] w' w'') (ho1 : f1.cells = #[f1]) (r : Int) (m : slices_IndexFunc_impl_Row_impl_Row_pk.f a0 a1 = some r) :
  Calls prog 239 #[w0_0, f1] w (RT (slices_IndexFunc_impl_Row_impl_Row_pk.Q w F) r) := by
 obtain ⟨s0, rfl, kp0, z⟩ := Xl w F
 have A0_0 := z.rd h0_0
 refine Xd (args := [w0_0, f1]) func239 ntmps239 rfl m ?_
 unfold slices_IndexFunc_impl_Row_impl_Row_pk.f
 refine sr (Xc rfl (dn (sq (sr (Yc w0_0 rfl (ln' A0_0 u34 rfl (Xc rfl (dn (bl (lpI (fun (x2 : Int) e w => ∃ (s : St) (e0 : Env), w = s.w ∧ e = upd (upd (upd (upd e0 0 w0_0) 1 f1) 7 (iI (a0.length : Int))) 8 (iI x2) ∧ Kp s0 s) ⟨s0, _, rfl, (ue (ue (ue (ue rfl rfl) rfl) rfl) rfl), kp0⟩ (fun g2 ih2 => ?_)))))))))))
 rintro x2 _ _ ⟨s3, _, rfl, rfl, Kx2⟩
 unfold slices_IndexFunc_impl_Row_impl_Row_pk.b0
 refine sr (Xc rfl (dn (sq (cd rfl (fun h4 => ?_) (fun h4 => ?_)))))
 ·
  refine sk (sq (bl (sr (Xc rfl (Xc rfl (dn (sr (Yc f1 rfl (Yc w0_0 rfl (Xc rfl ?_))))))))))
  refine ix' (A0_0.kp Kx2) u34 z47 rfl (fun ad6 es6 h0_6 h1_6 he6 ce6 ia6 => ?_)
  obtain ⟨rfl, hl6, hv6⟩ := he6
  refine lca ce6 u47 (by rw [hl6]; exact z47) rfl rfl rfl rfl rfl rfl rfl (clv rfl rfl rfl rfl rfl rfl rfl (fun r8 m8 => hf1 (at_ a0 x2) s3.w (z.ky Kx2)  r8 m8) ?_)
  rintro r8 _ w8 m8 ⟨rfl, ky8⟩
  obtain ⟨s9, rfl, p9, n9⟩ := nwx s3 w8 40 ky8
  refine dn (cd rfl (fun h10 => ?_) (fun h10 => ?_))
  ·
   refine sr (Xc rfl (Xc rfl (dn (sgi ?_))))
   exact re rfl func239 rfl (Xu rfl Xe) rfl ⟨_, rfl, rfl, z.ky (Kx2.st p9 rfl)⟩
  refine sk (ib (rg (Xc rfl (Xc rfl (dn ?_)))))
  exact lb ih2 ⟨s9, _, rfl, (ue (ue (ue (ue rfl rfl) rfl) rfl) rfl), (Kx2.st p9 rfl)⟩
 exact xt rfl (sgb (sr (Xc rfl (dn (re rfl func239 rfl (Xu rfl Xe) rfl ⟨_, rfl, rfl, z.ky Kx2⟩)))))
end
set_option linter.unusedSectionVars false
section
variable {β : Type} [Inhabited β]
def slices_DeleteFunc_impl_Row_impl_Row_pk.b0 (a1 : ((Pk β) → Option Bool)) (x7 : (List (Pk β)) × Int × Int) : Option (((List (Pk β)) × Int × Int) ⊕ (List (Pk β))) :=
 (if (decide (x7.2.2 < (x7.1.length : Int))) = true then (if 0 ≤ x7.2.2 ∧ x7.2.2 < (x7.1.length : Int) then ((a1 (at_ x7.1 x7.2.2)).bind fun r20 => ((if (!r20) = true then (if 0 ≤ x7.2.1 ∧ x7.2.1 < (x7.1.length : Int) then (some ((x7.1.set (x7.2.1).toNat (at_ x7.1 x7.2.2)), (IntKind.wrap .i64 (x7.2.1 + (1 : Int))))) else none) else (some (x7.1, x7.2.1))).bind fun y22 => (some (Sum.inl (y22.1, y22.2, (IntKind.wrap .i64 (x7.2.2 + (1 : Int)))))))) else none) else ((if 0 ≤ x7.2.1 ∧ x7.2.1 ≤ (x7.1.length : Int) then (if 0 ≤ x7.2.1 ∧ x7.2.1 ≤ ((x7.1.take (x7.2.1).toNat ++ List.replicate (x7.1.length - (x7.2.1).toNat) (Pk.mk [(iI 0), (iI 0), (iI 0), (iI 0), (iI 0), (iI 0), (.float .f64 0), (.slice none 0 0), (iI 0), (iI 0), (.float .f64 0), (.slice none 0 0)] default)).length : Int) then (some ((x7.1.take (x7.2.1).toNat ++ List.replicate (x7.1.length - (x7.2.1).toNat) (Pk.mk [(iI 0), (iI 0), (iI 0), (iI 0), (iI 0), (iI 0), (.float .f64 0), (.slice none 0 0), (iI 0), (iI 0), (.float .f64 0), (.slice none 0 0)] default)).take (x7.2.1).toNat)) else none) else none).bind fun o => some (Sum.inr o)))
def slices_DeleteFunc_impl_Row_impl_Row_pk.f (a0 : (List (Pk β))) (a1 : ((Pk β) → Option Bool)) : Option ((List (Pk β))) :=
 ((slices_IndexFunc_impl_Row_impl_Row_pk.f a0 a1).bind fun r2 => (if (r2 == (-1 : Int)) = true then (some a0) else (iter (slices_DeleteFunc_impl_Row_impl_Row_pk.b0 a1) (a0, r2, (IntKind.wrap .i64 (r2 + (1 : Int)))))))
def slices_DeleteFunc_impl_Row_impl_Row_pk.Q (w : World) (F : Nat → Prop) (os : List Nat) (r : (List (Pk β))) (v : Value) (w' : World) : Prop :=
 FW (Kd.sl 47 (Kd.pk β 12)) os w w' [v] r ∧ Ky os w w'
theorem slices_DeleteFunc_impl_Row_impl_Row_pk.calls (a0 : (List (Pk β))) (a1 : ((Pk β) → Option Bool)) (w : World) (F : Nat → Prop) (w0_0 : Value) (f1 : Value) (os : List Nat) (h0 : (Kd.sl 47 (Kd.pk β 12)).ow w [w0_0] a0 os) (hn : os.Nodup) (hF : ∀ b, F b → b ∉ os) (hf1 : ∀ (x0 : (Pk β)) (w' : World), Ky os w w' → ∀ r, a1 x0 = some r → CallV prog f1 [(.agg (List.toArray x0.cs))] w' fun en w'' => ∃ v, en = .returned v ∧ v = (.bool r) ∧ Ky [] w' w'') (ho1 : f1.cells = #[f1]) (r : (List (Pk β))) (m : slices_DeleteFunc_impl_Row_impl_Row_pk.f a0 a1 = some r) :
  Calls prog 177 #[w0_0, f1] w (RT (slices_DeleteFunc_impl_Row_impl_Row_pk.Q w F os) r) := by
 obtain ⟨s0, rfl, kp0, z⟩ := startN w F [(os, 40)] (by simpa [fl_] using hn) (fun b hb => by simpa [fl_] using hF b hb) rfl
 have ez : fl_ [(os, 40)] = os := by simp [fl_]
 have A0_0 := z.ow (c := 40) (by simp) hn h0
 refine Xd (args := [w0_0, f1]) func177 ntmps177 rfl m ?_
 unfold slices_DeleteFunc_impl_Row_impl_Row_pk.f
 refine sr (Xc rfl (dn (sr (Yc w0_0 rfl (Yc f1 rfl (Yn 41 rfl func239 rfl (slices_IndexFunc_impl_Row_impl_Row_pk.calls a0 a1 s0.w (mm [40] s0) w0_0 f1 A0_0.rd (fun x0 w' k  r m =>  hf1 x0 w' (Ky.tr (z.ky' ez kp0) k)  r m) ho1) (fun r2 s3 p3 n3 => ?_)))))))
 refine Xc rfl (dn (sq (sr (Xc rfl (Xc rfl (dn (cd rfl (fun h4 => ?_) (fun h4 => ?_))))))))
 ·
  refine sr (Yc w0_0 rfl (Yh w0_0 rfl (dn ?_)))
  have K6 := kp0.st p3 rfl
  exact re rfl func177 rfl (Xu rfl Xe) rfl ⟨_, rfl, z.fw' ez K6 (oc_ow (A0_0.st p3 rfl)) rfl, z.ky' ez K6⟩
 refine sk (sq (sr (Xc rfl (Xc rfl (Xc rfl (dn (bl ?_)))))))
 refine lpI (fun (x7 : (List (Pk β)) × Int × Int) e w => ∃ (s : St) (e0 : Env), w = s.w ∧ e = upd (upd (upd (upd e0 0 w0_0) 1 f1) 5 (iI x7.2.1)) 6 (iI x7.2.2) ∧ Kp s0 s ∧ OwF (Kd.sl 47 (Kd.pk β 12)) s [w0_0] x7.1 40) ⟨s3, _, rfl, (ue (ue (ue (ue rfl rfl) rfl) rfl) rfl), (kp0.st p3 rfl), (A0_0.st p3 rfl)⟩ (fun g7 ih7 => ?_)
 rintro x7 _ _ ⟨s10, _, rfl, rfl, Kx7, Ax7_0⟩
 unfold slices_DeleteFunc_impl_Row_impl_Row_pk.b0
 refine sq (sr (Xc rfl (Yc w0_0 rfl (ln' Ax7_0.rd u34 rfl (Xc rfl (dn (cd rfl (fun h12 => ?_) (fun h12 => ?_))))))))
 ·
  refine sk (sq (bl (sr (Yc w0_0 rfl (Xc rfl (ix' Ax7_0.rd u34 z47 rfl (fun ad13 es13 h0_13 h1_13 he13 ce13 ia13 => ?_)))))))
  obtain ⟨rfl, hl13, hv13⟩ := he13
  refine lca ce13 u47 (by rw [hl13]; exact z47) rfl rfl rfl rfl rfl rfl rfl (al' (cs := [(iI 0), (iI 0), (iI 0), (iI 0), (iI 0), (iI 0), (.float .f64 0), (.slice none 0 0), (iI 0), (iI 0), (.float .f64 0), (.slice none 0 0)]) 42 rfl o47 rfl (fun b15 s15 p15 B15 => ?_))
  refine svp B15 (by rw [hl13]; exact z47) hv13 (by rw [hl13]; rfl) rfl rfl rfl rfl rfl rfl (fun s17 p17 B17 => ?_)
  refine dn (sr (Yc f1 rfl (ldp B17 u47 (by rw [hl13]; exact z47) rfl rfl rfl rfl rfl rfl rfl ?_)))
  have K19 := Kx7.st (Xn p15 p17) rfl
  refine clv rfl rfl rfl rfl rfl rfl rfl (fun r20 m20 => hf1 (at_ x7.1 x7.2.2) s17.w (z.ky' ez K19)  r20 m20) ?_
  rintro r20 _ w20 m20 ⟨rfl, ky20⟩
  obtain ⟨s21, rfl, p21, n21⟩ := nwx s17 w20 43 ky20
  refine Xc rfl (dn (jc (fun (y22 : (List (Pk β)) × Int) e w => ∃ (s : St) (e0 : Env), w = s.w ∧ e = upd (upd (upd (upd e0 0 w0_0) 1 f1) 5 (iI y22.2)) 6 (iI x7.2.2) ∧ Kp s0 s ∧ OwF (Kd.sl 47 (Kd.pk β 12)) s [w0_0] y22.1 40) (fun Gj22 Kj22 => ?_) ?_))
  ·
   refine cd rfl (fun h23 => ?_) (fun h23 => ?_)
   ·
    refine sr (Yc w0_0 rfl (Xc rfl ?_))
    refine ldp (B17.st p21 rfl) u47 (by rw [hl13]; exact z47) rfl rfl rfl rfl rfl rfl rfl ?_
    have A25 := Ax7_0.st (Yi p15 p17 p21) rfl
    refine ix' A25.rd u34 z47 rfl (fun ad26 es26 h0_26 h1_26 he26 ce26 ia26 => ?_)
    obtain ⟨rfl, hl26, hv26⟩ := he26
    have A28 : OwF (Kd.pk β 12) s21 (at_ x7.1 x7.2.2).cs (at_ x7.1 x7.2.2) 44 := ow_z _ _ (fun _ => ⟨⟨rfl, hl13, hv13⟩, rfl⟩)
    refine som (x' := (at_ x7.1 x7.2.2)) A25 ia26 h0_26 h1_26 A28 rfl rfl z47 rfl rfl rfl rfl rfl rfl (fun s30 p30 A30 => ?_)
    refine dn (rg (Xc rfl (Xc rfl (Xc rfl (dn ?_)))))
    exact Kj22 _ _ _ ⟨s30, _, rfl, (ue (ue (ue (ue rfl rfl) rfl) rfl) rfl), (K19.st (Xn p21 p30) rfl), A30⟩
   exact sk (Kj22 _ _ _ ⟨s21, _, rfl, (ue (ue (ue (ue rfl rfl) rfl) rfl) rfl), (K19.st p21 rfl), (Ax7_0.st (Yi p15 p17 p21) rfl)⟩)
  rintro y22 _ _ ⟨s35, _, rfl, rfl, Ky22, Ay22_0⟩
  exact ib (rg (Xc rfl (Xc rfl (Xc rfl (dn (lb ih7 ⟨s35, _, rfl, (ue (ue (ue (ue rfl rfl) rfl) rfl) rfl), Ky22, Ay22_0⟩))))))
 refine xt rfl (sgb (sr (Yc w0_0 rfl (Xc rfl (mg fun hg37 => ?_)))))
 obtain ⟨v37, C37⟩ := cut_e (a := (x7.2.1).toNat) (b := x7.1.length) Ax7_0 (by omega) (Nat.le_refl _)
 refine slA_ hg37.1 C37 u34 z47 rfl rfl rfl rfl rfl rfl rfl (clr_ (x0 := (Pk.mk [(iI 0), (iI 0), (iI 0), (iI 0), (iI 0), (iI 0), (.float .f64 0), (.slice none 0 0), (iI 0), (iI 0), (.float .f64 0), (.slice none 0 0)] default)) fl_pk Ax7_0 C37 (by omega) (by omega) u34 o47 rfl rfl (fun _ => ⟨⟨rfl, rfl, fun v hv => List.all_eq_true.1 (show ([(iI 0), (iI 0), (iI 0), (iI 0), (iI 0), (iI 0), (.float .f64 0), (.slice none 0 0), (iI 0), (iI 0), (.float .f64 0), (.slice none 0 0)] : List Value).all (·.oneCell') = true from rfl) v hv⟩, rfl⟩) rfl rfl rfl rfl rfl (fun s39 p39 A39 => ?_))
 refine dn (sr (Yc w0_0 rfl (Xc rfl (mg fun hg41 => ?_))))
 obtain ⟨v41, C41⟩ := cut_e (a := 0) (b := (x7.2.1).toNat) A39 (Nat.zero_le _) (by omega)
 obtain ⟨A41, Q41⟩ := cut_ow fl_pk A39 (by omega) C41
 refine slH_ hg41.1 C41 u34 z47 rfl rfl rfl rfl rfl rfl rfl (Yh v41 rfl (dn ?_))
 have K43 := Kx7.st p39 rfl
 exact re rfl func177 rfl (Xu rfl Xe) rfl ⟨_, rfl, z.fw' ez K43 (oc_ow A41) rfl, z.ky' ez K43⟩
end
def slices_DeleteFunc_impl_Row_impl_Row.f (a0 : (List Row)) (a1 : (Row → Option Bool)) : Option ((List Row)) := delF a0 a1
def slices_DeleteFunc_impl_Row_impl_Row.Q (w : World) (F : Nat → Prop) (os : List Nat) (r : (List Row)) (v : Value) (w' : World) : Prop := FW Yu os w w' [v] r ∧ Ky os w w'
theorem slices_DeleteFunc_impl_Row_impl_Row.calls (a0 : (List Row)) (a1 : (Row → Option Bool)) (w : World) (F : Nat → Prop) (w0_0 : Value) (f1 : Value) (os : List Nat) (h0 : Yu.ow w [w0_0] a0 os) (hn : os.Nodup) (hF : ∀ b, F b → b ∉ os) (hf1 : ∀ (x0 : Row) (u0_0 u0_1 u0_2 u0_3 : Value) (w' : World), Ky os w w' → Kd.flt.rd w' [u0_0] x0.Tuple.Key.F (fun _ => True) → Yr.rd w' [u0_1] x0.Tuple.Key.T (fun _ => True) → Kd.flt.rd w' [u0_2] x0.Tuple.Value.F (fun _ => True) → Yr.rd w' [u0_3] x0.Tuple.Value.T (fun _ => True) → ∀ r, a1 x0 = some r → CallV prog f1 [(.agg #[(iI x0.Page), (iI x0.Slot), (iI x0.Tuple.Xmin), (iI x0.Tuple.Xmax), (iI x0.Tuple.Key.Kind), (iI x0.Tuple.Key.N), u0_0, u0_1, (iI x0.Tuple.Value.Kind), (iI x0.Tuple.Value.N), u0_2, u0_3])] w' fun en w'' => ∃ v, en = .returned v ∧ v = (.bool r) ∧ Ky [] w' w'') (ho1 : f1.cells = #[f1]) (r : (List Row)) (m : slices_DeleteFunc_impl_Row_impl_Row.f a0 a1 = some r) :
  Calls prog 177 #[w0_0, f1] w (RT (slices_DeleteFunc_impl_Row_impl_Row.Q w F os) r) :=
 delG (te := 47) (K := kd47) slices_DeleteFunc_impl_Row_impl_Row_pk.calls (fun a0 a1 g hl h => dfM_eq _ a0 a1 g hl h) a0 a1 w w0_0 f1 os h0 hn (fun x0 cs w' k hrd r hr => by
  obtain ⟨q0, q1, q2, q3, e, hq0, hq1, hq2, hq3⟩ := op47 (top_rd hrd)
  rw [e]
  exact hf1 x0 q0 q1 q2 q3 w' k (fl_rd hq0) (rd_top hq1) (fl_rd hq2) (rd_top hq3) r hr) ho1 r m

def impl_Heap_rowsOf.f (a0 : Heap) (a1 : (Tuple → Option Bool)) : Option ((List Row)) :=
 ((impl_HeapOk.f a0).bind fun r9 => (if (!r9) = true then (some ([] : (List Row))) else ((impl_Heap_rows.f a0).bind fun r16 => ((slices_DeleteFunc_impl_Row_impl_Row.f r16 (fun x0 => impl_Heap_rowsOf_1.f x0 a1)).bind fun r19 => (some r19)))))
def impl_Heap_rowsOf.Q (w : World) (F : Nat → Prop) (r : (List Row)) (v : Value) (w' : World) : Prop :=
 FO Yu w w' [v] r ∧ Ky [] w w'
theorem impl_Heap_rowsOf.calls (a0 : Heap) (a1 : (Tuple → Option Bool)) (w : World) (F : Nat → Prop) (w0_0 : Value) (f1 : Value) (h0_0 : Yt.rd w [w0_0] a0.Pages F) (hf1 : ∀ (x0 : Tuple) (u0_0 u0_1 u0_2 u0_3 : Value) (w' : World), Ky [] w w' → Kd.flt.rd w' [u0_0] x0.Key.F (fun _ => True) → Yr.rd w' [u0_1] x0.Key.T (fun _ => True) → Kd.flt.rd w' [u0_2] x0.Value.F (fun _ => True) → Yr.rd w' [u0_3] x0.Value.T (fun _ => True) → ∀ r, a1 x0 = some r → CallV prog f1 [(.agg #[(iI x0.Xmin), (iI x0.Xmax), (iI x0.Key.Kind), (iI x0.Key.N), u0_0, u0_1, (iI x0.Value.Kind), (iI x0.Value.N), u0_2, u0_3])] w' fun en w'' => ∃ v, en = .returned v ∧ v = (.bool r) ∧ Ky [] w' w'') (ho1 : f1.cells = #[f1]) (r : (List Row)) (m : impl_Heap_rowsOf.f a0 a1 = some r) :
  Calls prog 86 #[(.agg #[w0_0]), f1] w (RT (impl_Heap_rowsOf.Q w F) r) := by
 obtain ⟨s0, rfl, kp0, z⟩ := Xl w F
 have A0_0 := z.rd h0_0
 refine Xd (args := [(.agg #[w0_0]), f1]) func86 ntmps86 rfl m ?_
 unfold impl_Heap_rowsOf.f
 refine sr (bx' (cs := [w0_0]) 40 rfl rfl (fun b2 s2 p2 B2 => ?_))
 refine bx' (cs := [f1]) 41 rfl ho1 (fun b4 s4 p4 B4 => ?_)
 refine Xc rfl (dn (sq (sr ?_)))
 have A6 := B2.st p4 rfl
 refine Ya (es := [w0_0]) A6 u26 z26 rfl ?_
 have K7 := kp0.st (Xn p2 p4) rfl
 refine Yn 42 rfl func17 rfl (impl_HeapOk.calls a0 s4.w (mm [0] s4) w0_0 (A0_0.kp K7)) (fun r9 s10 p10 n10 => ?_)
 refine Xc rfl (dn (cd rfl (fun h11 => ?_) (fun h11 => ?_)))
 ·
  refine sr (Xc rfl (dn ?_))
  have K12 := K7.st p10 rfl
  exact re rfl func86 rfl (Xu rfl Xe) rfl ⟨_, rfl, (Ym 47 kd47 s10 40).fo K12 rfl z.l, z.ky K12⟩
 refine sk (sr ?_)
 refine Ya (es := [w0_0]) (A6.st p10 rfl) u26 z26 rfl ?_
 have K14 := K7.st p10 rfl
 refine clO 43 rfl func178 rfl (impl_Heap_rows.calls a0 s10.w (mm [0] s10) w0_0 (A0_0.kp K14)) (fun r16 v16_0 s17 p17 A16_0 => ?_)
 refine mkf (fs := []) (cs := [(pB b4)]) rfl rfl rfl rfl rfl rfl rfl ?_
 obtain ⟨os19, ho19, hn19, hc19⟩ := A16_0
 have K20 := K14.st p17 rfl
 refine cl' rfl func177 rfl (slices_DeleteFunc_impl_Row_impl_Row.calls r16 (fun x0 => impl_Heap_rowsOf_1.f x0 a1) s17.w (mm [] s17) v16_0 (.func (.func 179) (List.toArray []) (List.toArray [(pB b4)])) os19 ho19 hn19 (apart_of hc19 rfl) (fun x0 u0_0 u0_1 u0_2 u0_3 w' k h0 h1 h2 h3 r m =>  ⟨179, _, _, [], [(pB b4)], rfl, func179, rfl, rfl, (impl_Heap_rowsOf_1.calls x0 a1 w' (fun _ => True) u0_0 u0_1 u0_2 u0_3 b4 f1 h0 h1 h2 h3 (fun x0c u0_0c u0_1c u0_2c u0_3c w'c kc h0c h1c h2c h3c r m =>  hf1 x0c u0_0c u0_1c u0_2c u0_3c w'c (kyn (z.ky K20) K20 z.l hc19 rfl (Ky.tr k kc)) h0c h1c h2c h3c r m) ho1 (BlF.kyo (B4.st (Xn p10 p17) rfl) hc19 k rfl) trivial r m).mono fun en w2 hq => by obtain ⟨v, e, q⟩ := hq; exact ⟨v, e, q⟩⟩) rfl) ?_
 rintro r19 v19_0 w19 m19 ⟨f19_0, ky19⟩
 obtain ⟨s22, rfl, p22, n22⟩ := nwm 44 hc19 ky19 rfl
 refine Yh v19_0 rfl (dn ?_)
 have K24 := K20.st p22 rfl
 exact re rfl func86 rfl (Xu rfl Xe) rfl ⟨_, rfl, (f19_0.m n22).fo K24 rfl z.l, z.ky K24⟩
def spec_DrawHeapVersions.f (a0 : (List Int)) : Option (Heap × Item) :=
 ((spec_l1New.f a0).bind fun r8 => ((spec_l1Size.f a0 (14 : Int)).bind fun r14 => ((spec_l10heap.f r8 r14).bind fun r17 => ((spec_l3key.f (l1Cur.mk r8.b r17.2.i r17.2.h)).bind fun r28 => ((spec_l1Once.f (l1Cur.mk r8.b r28.2.i r28.2.h) (12 : Int)).bind fun r39 => ((if r39.1 = true then ((spec_l3any.f (l1Cur.mk r8.b r39.2.i r39.2.h)).bind fun r46 => (some (r46.1.Kind, r46.1.N, r46.1.F, r46.1.T))) else (some (r28.1.Kind, r28.1.N, r28.1.F, r28.1.T))).bind fun y43 => (some (r17.1, (Item.mk y43.1 y43.2.1 y43.2.2.1 y43.2.2.2)))))))))
def spec_DrawHeapVersions.Q (w : World) (F : Nat → Prop) (r : Heap × Item) (v : Value) (w' : World) : Prop :=
 ∃ (v0 : Value) (v1 : Value) (v2 : Value), v = .tuple #[(.agg #[v0]), (.agg #[(iI r.2.Kind), (iI r.2.N), v1, v2])] ∧ FO kd26 w w' [v0] r.1 ∧ FO kd29 w w' [(iI r.2.Kind), (iI r.2.N), v1, v2] r.2 ∧ Ky [] w w'
theorem spec_DrawHeapVersions.calls (a0 : (List Int)) (w : World) (F : Nat → Prop) (w0_0 : Value) (h0_0 : Yr.rd w [w0_0] a0 F) (r : Heap × Item) (m : spec_DrawHeapVersions.f a0 = some r) :
  Calls prog 22 #[w0_0] w (RT (spec_DrawHeapVersions.Q w F) r) := by
 obtain ⟨s0, rfl, kp0, z⟩ := Xl w F
 have A0_0 := z.rd h0_0
 refine Xd (args := [w0_0]) func22 ntmps22 rfl m ?_
 unfold spec_DrawHeapVersions.f
 refine sr (al' (cs := [(.slice none 0 0)]) 40 rfl o26 rfl (fun b2 s2 p2 B2 => ?_))
 refine al' (cs := [(iI 0), (iI 0), (.float .f64 0), (.slice none 0 0)]) 41 rfl o29 rfl (fun b4 s4 p4 B4 => ?_)
 refine dn (sr (Yc w0_0 rfl ?_))
 have K6 := kp0.st (Xn p2 p4) rfl
 refine cl' rfl func67 rfl (spec_l1New.calls a0 s4.w (mm [0] s4) w0_0 (A0_0.kp K6)) ?_
 rintro r8 _ w8 m8 ⟨v8_0, v8_1, rfl, f8_0, f8_1, ky8⟩
 obtain ⟨s9, rfl, p9, n9⟩ := nwx s4 w8 42 ky8
 refine Xc rfl (dn (sr (Xc rfl (Yc w0_0 rfl ?_))))
 have K12 := K6.st p9 rfl
 refine Yn 43 rfl func69 rfl (spec_l1Size.calls a0 (14 : Int) s9.w (mm [0] s9) w0_0 (A0_0.kp K12)) (fun r14 s15 p15 n15 => ?_)
 have A16 := (f8_1.c n9).st p15 rfl
 have A18 := BlF.st (f8_0.c n9) p15 rfl
 refine cl' rfl func68 rfl (spec_l10heap.calls r8 r14 s15.w (mm [0] s15) v8_0 v8_1 A16 A18.w (A18.apart rfl)) ?_
 rintro r17 _ w17 m17 ⟨v17_0, rfl, f17_0, bw17, ky17⟩
 obtain ⟨s19, rfl, p19, n19, g19⟩ := nwb 44 A18 ky17
 refine al' (cs := [(.slice none 0 0)]) 45 rfl o26 rfl (fun b22 s22 p22 B22 => ?_)
 have A24 := (ap26 (f17_0.c n19)).st p22 rfl
 refine Xx (vs := [v17_0]) B22 z26 rfl (Xb A24.rd.one Xj) rfl (fun s25 p25 B25 => ?_)
 refine dn (sr (Xc rfl ?_))
 have A27 := A16.st (Yi p19 p22 p25) rfl
 have A29 := BlF.st (blf_mk bw17 g19) (Xn p22 p25) rfl
 refine cl' rfl func98 rfl (spec_l3key.calls (l1Cur.mk r8.b r17.2.i r17.2.h) s25.w (mm [0] s25) v8_0 v8_1 A27 A29.w (A29.apart rfl)) ?_
 rintro r28 _ w28 m28 ⟨v28_0, v28_1, rfl, f28_0, bw28, ky28⟩
 obtain ⟨s30, rfl, p30, n30, g30⟩ := nwb 46 A29 ky28
 obtain ⟨hu28_0_0, Au28_0_1⟩ := ap29 (f28_0.c n30)
 refine al' (cs := [(iI 0), (iI 0), (.float .f64 0), (.slice none 0 0)]) 47 rfl o29 rfl (fun b33 s33 p33 B33 => ?_)
 have A35 := Au28_0_1.st p33 rfl
 refine Xx (vs := [(iI r28.1.Kind), (iI r28.1.N), v28_0, v28_1]) B33 z29 rfl (Xb rfl (Xb rfl (Xb (FL.one hu28_0_0) (Xb A35.rd.one Xj)))) rfl (fun s36 p36 B36 => ?_)
 refine dn (sq (sr (Xc rfl ?_)))
 have A38 := A27.st (Yi p30 p33 p36) rfl
 have A40 := BlF.st (blf_mk bw28 g30) (Xn p33 p36) rfl
 refine clB A40 rfl func72 rfl (spec_l1Once.calls (l1Cur.mk r8.b r28.2.i r28.2.h) (12 : Int) s36.w (mm [0] s36) v8_0 v8_1 A38 A40.w (A40.apart rfl)) (fun r39 s41 p41 B41 => ?_)
 refine dn (jc (fun (y43 : Int × Int × Nat × (List Int)) e w => ∃ (s : St) (e0 : Env) (vy43_0 uy43_0 : Value), w = s.w ∧ e = upd (upd (upd (upd e0 2 (pB b2)) 3 (pB b4)) 5 (pB b22)) 6 (pB b33) ∧ Kp s0 s ∧ OwF Yr s [vy43_0] y43.2.2.2 49 ∧ FL uy43_0 y43.2.2.1 ∧ BlF s b33 29 [(iI y43.1), (iI y43.2.1), uy43_0, vy43_0] 47 ∧ BlF s b22 26 [v17_0] 45 ∧ BlF s b4 29 [(iI 0), (iI 0), (.float .f64 0), (.slice none 0 0)] 41 ∧ BlF s b2 26 [(.slice none 0 0)] 40 ∧ OwF Yt s [v17_0] r17.1.Pages 44) (fun Gj43 Kj43 => ?_) ?_)
 ·
  refine cd rfl (fun h44 => ?_) (fun h44 => ?_)
  ·
   refine rg (Xc rfl ?_)
   refine cl' rfl func76 rfl (spec_l3any.calls (l1Cur.mk r8.b r39.2.i r39.2.h) s41.w (mm [0] s41) v8_0 v8_1 (A38.st p41 rfl) B41.w (B41.apart rfl)) ?_
   rintro r46 _ w46 m46 ⟨v46_0, v46_1, rfl, f46_0, bw46, ky46⟩
   obtain ⟨s47, rfl, p47, n47, g47⟩ := nwb 50 B41 ky46
   obtain ⟨hu46_0_0, Au46_0_1⟩ := ap29 (f46_0.c n47)
   refine Xx (vs := [(iI r46.1.Kind), (iI r46.1.N), v46_0, v46_1]) (B36.st (Xn p41 p47) rfl) z29 rfl (Xb rfl (Xb rfl (Xb (FL.one hu46_0_0) (Xb Au46_0_1.rd.one Xj)))) rfl (fun s51 p51 B51 => ?_)
   refine dn ?_
   obtain ⟨s54, hw54, p54, A54⟩ := (Au46_0_1.st p51 rfl).rc 49 rfl
   rw [hw54]
   exact Kj43 _ _ _ ⟨s54, _, v46_1, v46_0, rfl, (ue (ue (ue (ue rfl rfl) rfl) rfl) rfl), (K12.st (tr11 p15 p19 p22 p25 p30 p33 p36 p41 p47 p51 p54) rfl), A54, hu46_0_0, (B51.st p54 rfl), (B25.st (tr7 p30 p33 p36 p41 p47 p51 p54) rfl), (B4.st (tr12 p9 p15 p19 p22 p25 p30 p33 p36 p41 p47 p51 p54) rfl), (B2.st (Xn (tr12 p4 p9 p15 p19 p22 p25 p30 p33 p36 p41 p47 p51) p54) rfl), (A24.st (tr8 p25 p30 p33 p36 p41 p47 p51 p54) rfl)⟩
  refine sk ?_
  obtain ⟨s62, hw62, p62, A62⟩ := (A35.st (Xn p36 p41) rfl).rc 49 rfl
  rw [hw62]
  exact Kj43 _ _ _ ⟨s62, _, v28_1, v28_0, rfl, (ue (ue (ue (ue rfl rfl) rfl) rfl) rfl), (K12.st (tr9 p15 p19 p22 p25 p30 p33 p36 p41 p62) rfl), A62, hu28_0_0, (B36.st (Xn p41 p62) rfl), (B25.st (tr5 p30 p33 p36 p41 p62) rfl), (B4.st (tr10 p9 p15 p19 p22 p25 p30 p33 p36 p41 p62) rfl), (B2.st (tr11 p4 p9 p15 p19 p22 p25 p30 p33 p36 p41 p62) rfl), (A24.st (tr6 p25 p30 p33 p36 p41 p62) rfl)⟩
 rintro y43 _ _ ⟨s69, _, vy43_0, uy43_0, rfl, rfl, Ky43, Ay43_0, Fy43_0, By43_b33, By43_b22, By43_b4, By43_b2, Cy43_20⟩
 refine sq (zdraw [[], [], [0, 0], [1, 2, 0, 1, 2]] [some 19, some 20, none, none] [[5], [6], [2, 19], [3, 20]] [0, 2, 1, 3] ⟨by kernel_rfl, by kernel_rfl, by kernel_rfl⟩ (by kernel_rfl) (fun s75 p75 l75 tb75 zd75 => ?_))
 refine Xt 2 [some 20] tb75 ((zd75.add 0 19 (.agg #[v17_0]) rfl).add 1 20 (.agg #[(iI y43.1), (iI y43.2.1), uy43_0, vy43_0]) rfl) (Xa (Yg (es := [(iI y43.1), (iI y43.2.1), uy43_0, vy43_0]) (By43_b33.st p75 rfl) u29 z29 rfl) rfl (Xa (Yg (es := [v17_0]) (By43_b22.st p75 rfl) u26 z26 rfl) rfl Xg)) (by kernel_rfl) rfl (fun l80 e80 zd80 => ?_)
 have A84 := Cy43_20.st p75 rfl
 refine Xx (vs := [v17_0]) (By43_b2.st p75 rfl) z26 rfl (Xb A84.rd.one Xj) rfl (fun s85 p85 B85 => ?_)
 refine zdone0 (L' := [1]) (D' := [0, 0, 2]) zd80 rfl rfl rfl (fun zd87 => ?_)
 refine Yp [3] tb75 zd87 (Xa (Yg (es := [(iI y43.1), (iI y43.2.1), uy43_0, vy43_0]) (By43_b33.st (Xn p75 p85) rfl) u29 z29 rfl) rfl Xg) (by kernel_rfl) (by decide) ?_
 have A90 := Ay43_0.st (Xn p75 p85) rfl
 refine Xx (vs := [(iI y43.1), (iI y43.2.1), uy43_0, vy43_0]) (By43_b4.st (Xn p75 p85) rfl) z29 rfl (Xb rfl (Xb rfl (Xb (FL.one Fy43_0) (Xb A90.rd.one Xj)))) rfl (fun s91 p91 B91 => ?_)
 refine dn ?_
 have A93 : OwF kd26 s91 [v17_0] r17.1 44 := (Xs (fun x : Heap => (x.Pages)) r17.1 (A84.st (Xn p85 p91) rfl))
 have A96 : OwF kd29 s91 [(iI y43.1), (iI y43.2.1), uy43_0, vy43_0] (Item.mk y43.1 y43.2.1 y43.2.2.1 y43.2.2.2) 49 := (Xs (fun x : Item => (x.Kind, x.N, x.F, x.T)) (Item.mk y43.1 y43.2.1 y43.2.2.1 y43.2.2.2) (Xy (Xf .i64 y43.1) (Xy (Xf .i64 y43.2.1) (Xy (Xz Fy43_0) (A90.st p91 rfl)))))
 have K100 := Ky43.st (Yi p75 p85 p91) rfl
 exact re rfl func22 rfl (r_b (B85.st p91 rfl) u26 rfl z26 rfl (r_b B91 u29 rfl z29 rfl Xe)) rfl ⟨_, rfl, v17_0, uy43_0, vy43_0, rfl, A93.fo K100 rfl z.l, A96.fo K100 rfl z.l, z.ky K100⟩
def spec_l8list.b0 (a0 : l1Cur) (x6 : (List Int) × Int × Int × Int) : Option (((List Int) × Int × Int × Int) ⊕ ((List Int) × l1Cur)) :=
 (if (decide (x6.2.1 > (0 : Int))) = true then ((spec_l1Below.f (l1Cur.mk a0.b x6.2.2.1 x6.2.2.2) (3 : Int)).bind fun r13 => ((spec_l1Once.f (l1Cur.mk a0.b r13.2.i r13.2.h) (40 : Int)).bind fun r18 => ((if r18.1 = true then ((spec_l1PickInt.f (l1Cur.mk a0.b r18.2.i r18.2.h) ([(-1 : Int), (3 : Int), (4 : Int)])).bind fun r27 => (some (r27.1, r27.2.i, r27.2.h))) else (some (r13.1, r18.2.i, r18.2.h))).bind fun y21 => (if x6.1.length + ([y21.1]).length ≤ Lim then (some (Sum.inl ((x6.1 ++ [y21.1]), (IntKind.wrap .i64 (x6.2.1 - (1 : Int))), y21.2.1, y21.2.2))) else none)))) else ((some (x6.1, (l1Cur.mk a0.b x6.2.2.1 x6.2.2.2))).bind fun o => some (Sum.inr o)))
def spec_l8list.f (a0 : l1Cur) (a1 : Int) : Option ((List Int) × l1Cur) :=
 ((spec_l1Below.f a0 (IntKind.wrap .i64 (a1 + (1 : Int)))).bind fun r3 => (iter (spec_l8list.b0 a0) (([] : (List Int)), r3.1, r3.2.i, r3.2.h)))
def spec_l8list.Q (w : World) (F : Nat → Prop) (p0 : Nat) (w0_0 : Value) (r : (List Int) × l1Cur) (v : Value) (w' : World) : Prop :=
 FO Yv w w' [v] r.1 ∧ BlW w' p0 184 [w0_0, (iI r.2.i), (iI r.2.h)] ∧ Ky [p0] w w'
theorem spec_l8list.calls (a0 : l1Cur) (a1 : Int) (w : World) (F : Nat → Prop) (p0 : Nat) (w0_0 : Value) (h0_0 : Yr.rd w [w0_0] a0.b F) (hb0 : BlW w p0 184 [w0_0, (iI a0.i), (iI a0.h)]) (hF : ∀ b, F b → b ∉ [p0]) (r : (List Int) × l1Cur) (m : spec_l8list.f a0 a1 = some r) :
  Calls prog 99 #[(pB p0), (iI a1)] w (RT (spec_l8list.Q w F p0 w0_0) r) := by
 obtain ⟨s0, rfl, kp0, z⟩ := start1 w F [p0] hF
 have A0_0 := z.rd h0_0
 have B0 := z.bl hb0 (by simp)
 refine Xd (args := [(pB p0), (iI a1)]) func99 ntmps99 rfl m ?_
 unfold spec_l8list.f
 refine sr (Xc rfl (dn (sr (Xc rfl (dn (sq (sr (Xc rfl (Xc rfl (Xc rfl (clB B0 rfl func74 rfl (spec_l1Below.calls a0 (IntKind.wrap .i64 (a1 + (1 : Int))) s0.w (mm [0] s0) p0 w0_0 A0_0 B0.w (B0.apart rfl)) (fun r3 s4 p4 B4 => ?_))))))))))))
 refine Xc rfl (dn (bl ?_))
 refine lpI (fun (x6 : (List Int) × Int × Int × Int) e w => ∃ (s : St) (e0 : Env) (vx6_0 : Value), w = s.w ∧ e = upd (upd (upd e0 0 (pB p0)) 5 vx6_0) 6 (iI x6.2.1) ∧ Kp s0 s ∧ OwF Yv s [vx6_0] x6.1 42 ∧ BlF s p0 184 [w0_0, (iI x6.2.2.1), (iI x6.2.2.2)] 2) ⟨s4, _, (.slice none 0 0), rfl, (ue (ue (ue rfl rfl) rfl) rfl), (kp0.st p4 rfl), (Ym 3 (Kd.int .i64) _ 42), B4⟩ (fun g6 ih6 => ?_)
 rintro x6 _ _ ⟨s8, _, vx6_0, rfl, rfl, Kx6, Ax6_0, Bx6_p0⟩
 unfold spec_l8list.b0
 refine sq (sr (Xc rfl (Xc rfl (dn (cd rfl (fun h11 => ?_) (fun h11 => ?_))))))
 ·
  refine sk (sq (bl (sr (Xc rfl ?_))))
  refine clB Bx6_p0 rfl func74 rfl (spec_l1Below.calls (l1Cur.mk a0.b x6.2.2.1 x6.2.2.2) (3 : Int) s8.w (mm [0] s8) p0 w0_0 (A0_0.kp Kx6) Bx6_p0.w (Bx6_p0.apart rfl)) (fun r13 s14 p14 B14 => ?_)
  refine Xc rfl (dn (sq (sr (Xc rfl ?_))))
  have K16 := Kx6.st p14 rfl
  refine clB B14 rfl func72 rfl (spec_l1Once.calls (l1Cur.mk a0.b r13.2.i r13.2.h) (40 : Int) s14.w (mm [0] s14) p0 w0_0 (A0_0.kp K16) B14.w (B14.apart rfl)) (fun r18 s19 p19 B19 => ?_)
  refine dn (jc (fun (y21 : Int × Int × Int) e w => ∃ (s : St) (e0 : Env), w = s.w ∧ e = upd (upd (upd (upd e0 0 (pB p0)) 5 vx6_0) 6 (iI x6.2.1)) 7 (iI y21.1) ∧ Kp s0 s ∧ BlF s p0 184 [w0_0, (iI y21.2.1), (iI y21.2.2)] 2 ∧ OwF Yv s [vx6_0] x6.1 42) (fun Gj21 Kj21 => ?_) ?_)
  ·
   refine cd rfl (fun h22 => ?_) (fun h22 => ?_)
   ·
    refine rg (Xc rfl (ltF' (K := (Kd.int .i64)) (cells := [(iI (-1)), (iI 3), (iI 4)]) [(-1 : Int), (3 : Int), (4 : Int)] 45 Xv u50 z3 o3 (fun w => (Yd _ _ _)) rfl (fun v23 s23 p23 A23 => ?_)))
    have K25 := K16.st (Xn p19 p23) rfl
    have A28 := B19.st p23 rfl
    refine clB A28 rfl func75 rfl (spec_l1PickInt.calls (l1Cur.mk a0.b r18.2.i r18.2.h) ([(-1 : Int), (3 : Int), (4 : Int)]) s23.w (mm [0, 45] s23) p0 w0_0 v23 ((A0_0.kp K25).sub (D := [0, 45]) rfl) (A23.rd.sub (D := [0, 45]) rfl) A28.w (A28.apart rfl)) (fun r27 s29 p29 B29 => ?_)
    refine Xc rfl (dn ?_)
    exact Kj21 _ _ _ ⟨s29, _, rfl, (ue (ue (ue (ue rfl rfl) rfl) rfl) rfl), (K25.st p29 rfl), B29, (Ax6_0.st (Yo p14 p19 p23 p29) rfl)⟩
   exact sk (Kj21 _ _ _ ⟨s19, _, rfl, (ue (ue (ue (ue rfl rfl) rfl) rfl) rfl), (K16.st p19 rfl), B19, (Ax6_0.st (Xn p14 p19) rfl)⟩)
  rintro y21 _ _ ⟨s35, _, rfl, rfl, Ky21, By21_p0, Cy21_9⟩
  refine rg (Yc vx6_0 rfl (Xc rfl (ltF' (K := (Kd.int .i64)) (cells := [(iI y21.1)]) [y21.1] 47 Xv u50 z3 o3 (fun w => (Yd _ _ _)) rfl (fun v37 s37 p37 A37 => ?_))))
  refine apF' Xv sl50 (Cy21_9.st p37 rfl) A37.rd rfl (fun v40 s40 p40 A40 => ?_)
  refine Yh v40 rfl (dn (ib (rg (Xc rfl (Xc rfl (Xc rfl (dn ?_)))))))
  exact lb ih6 ⟨s40, _, v40, rfl, (ue (ue (ue rfl rfl) rfl) rfl), (Ky21.st (Xn p37 p40) rfl), A40, (By21_p0.st (Xn p37 p40) rfl)⟩
 exact xt rfl (sgb (sr (Yc vx6_0 rfl (Yh vx6_0 rfl (dn (re rfl func99 rfl (Xu rfl Xe) rfl ⟨_, rfl, Ax6_0.fo Kx6 rfl z.l, Bx6_p0.w, z.ky Kx6⟩))))))
def spec_DrawHeapDead.f (a0 : (List Int)) : Option (Heap × (List Int) × Int) :=
 ((spec_l1New.f a0).bind fun r6 => ((spec_l1Size.f a0 (14 : Int)).bind fun r12 => ((spec_l10heap.f r6 r12).bind fun r15 => ((spec_l8list.f (l1Cur.mk r6.b r15.2.i r15.2.h) (12 : Int)).bind fun r26 => ((spec_l1Below.f (l1Cur.mk r6.b r26.2.i r26.2.h) (13 : Int)).bind fun r32 => (some (r15.1, r26.1, r32.1)))))))
def spec_DrawHeapDead.Q (w : World) (F : Nat → Prop) (r : Heap × (List Int) × Int) (v : Value) (w' : World) : Prop :=
 ∃ (v0 : Value) (v1 : Value), v = .tuple #[(.agg #[v0]), v1, (iI r.2.2)] ∧ FO kd26 w w' [v0] r.1 ∧ FO Yv w w' [v1] r.2.1 ∧ Ky [] w w'
theorem spec_DrawHeapDead.calls (a0 : (List Int)) (w : World) (F : Nat → Prop) (w0_0 : Value) (h0_0 : Yr.rd w [w0_0] a0 F) (r : Heap × (List Int) × Int) (m : spec_DrawHeapDead.f a0 = some r) :
  Calls prog 23 #[w0_0] w (RT (spec_DrawHeapDead.Q w F) r) := by
 obtain ⟨s0, rfl, kp0, z⟩ := Xl w F
 have A0_0 := z.rd h0_0
 refine Xd (args := [w0_0]) func23 ntmps23 rfl m ?_
 unfold spec_DrawHeapDead.f
 refine sr (al' (cs := [(.slice none 0 0)]) 40 rfl o26 rfl (fun b2 s2 p2 B2 => ?_))
 refine Xc rfl (Xc rfl (dn (sr (Yc w0_0 rfl ?_))))
 have K4 := kp0.st p2 rfl
 refine cl' rfl func67 rfl (spec_l1New.calls a0 s2.w (mm [0] s2) w0_0 (A0_0.kp K4)) ?_
 rintro r6 _ w6 m6 ⟨v6_0, v6_1, rfl, f6_0, f6_1, ky6⟩
 obtain ⟨s7, rfl, p7, n7⟩ := nwx s2 w6 41 ky6
 refine Xc rfl (dn (sr (Xc rfl (Yc w0_0 rfl ?_))))
 have K10 := K4.st p7 rfl
 refine Yn 42 rfl func69 rfl (spec_l1Size.calls a0 (14 : Int) s7.w (mm [0] s7) w0_0 (A0_0.kp K10)) (fun r12 s13 p13 n13 => ?_)
 have A14 := (f6_1.c n7).st p13 rfl
 have A16 := BlF.st (f6_0.c n7) p13 rfl
 refine cl' rfl func68 rfl (spec_l10heap.calls r6 r12 s13.w (mm [0] s13) v6_0 v6_1 A14 A16.w (A16.apart rfl)) ?_
 rintro r15 _ w15 m15 ⟨v15_0, rfl, f15_0, bw15, ky15⟩
 obtain ⟨s17, rfl, p17, n17, g17⟩ := nwb 43 A16 ky15
 refine al' (cs := [(.slice none 0 0)]) 44 rfl o26 rfl (fun b20 s20 p20 B20 => ?_)
 have A22 := (ap26 (f15_0.c n17)).st p20 rfl
 refine Xx (vs := [v15_0]) B20 z26 rfl (Xb A22.rd.one Xj) rfl (fun s23 p23 B23 => ?_)
 refine dn (sr (Xc rfl ?_))
 have A25 := A14.st (Yi p17 p20 p23) rfl
 have A27 := BlF.st (blf_mk bw15 g17) (Xn p20 p23) rfl
 refine cl' rfl func99 rfl (spec_l8list.calls (l1Cur.mk r6.b r15.2.i r15.2.h) (12 : Int) s23.w (mm [0] s23) v6_0 v6_1 A25 A27.w (A27.apart rfl)) ?_
 rintro r26 v26_0 w26 m26 ⟨f26_0, bw26, ky26⟩
 obtain ⟨s28, rfl, p28, n28, g28⟩ := nwb 45 A27 ky26
 have B28 := blf_mk bw26 g28
 refine Yh v26_0 rfl (dn (sr (Xc rfl ?_)))
 refine clB B28 rfl func74 rfl (spec_l1Below.calls (l1Cur.mk r6.b r26.2.i r26.2.h) (13 : Int) s28.w (mm [0] s28) v6_0 v6_1 (A25.st p28 rfl) B28.w (B28.apart rfl)) (fun r32 s33 p33 B33 => ?_)
 refine Xc rfl (dn (sr ?_))
 refine Ya (es := [v15_0]) (B23.st (Xn p28 p33) rfl) u26 z26 rfl (Yc v26_0 rfl (Xc rfl ?_))
 have A37 := A22.st (Yi p23 p28 p33) rfl
 refine Xx (vs := [v15_0]) (B2.st (tr7 p7 p13 p17 p20 p23 p28 p33) rfl) z26 rfl (Xb A37.rd.one Xj) rfl (fun s38 p38 B38 => ?_)
 refine Yh v26_0 rfl (Xc rfl (dn ?_))
 have A40 : OwF kd26 s38 [v15_0] r15.1 43 := (Xs (fun x : Heap => (x.Pages)) r15.1 (A37.st p38 rfl))
 have K43 := K10.st (tr7 p13 p17 p20 p23 p28 p33 p38) rfl
 exact re rfl func23 rfl (r_b B38 u26 rfl z26 rfl (Xu rfl (Xu rfl Xe))) rfl ⟨_, rfl, v15_0, v26_0, rfl, A40.fo K43 rfl z.l, ((f26_0.c n28).st (Xn p33 p38) rfl).fo K43 rfl z.l, z.ky K43⟩
def cmp_isNaN_int.f (a0 : Int) : Option (Bool) :=
 (some (a0 != a0))
def cmp_isNaN_int.Q (w : World) (F : Nat → Prop) (r : Bool) (v : Value) (w' : World) : Prop :=
 v = (.bool r) ∧ Ky [] w w'
theorem cmp_isNaN_int.calls (a0 : Int) (w : World) (F : Nat → Prop)   (r : Bool) (m : cmp_isNaN_int.f a0 = some r) :
  Calls prog 248 #[(iI a0)] w (RT (cmp_isNaN_int.Q w F) r) := by
 obtain ⟨s0, rfl, kp0, z⟩ := Xl w F
 refine Xd (args := [(iI a0)]) func248 ntmps248 rfl m ?_
 unfold cmp_isNaN_int.f
 exact sr (Xc rfl (dn (sr (Xc rfl (Xc rfl (Xc rfl (Xc rfl (dn (re rfl func248 rfl (Xu rfl Xe) rfl ⟨_, rfl, rfl, z.ky kp0⟩)))))))))
def cmp_Compare_int.f (a0 : Int) (a1 : Int) : Option (Int) :=
 ((cmp_isNaN_int.f a0).bind fun r1 => ((cmp_isNaN_int.f a1).bind fun r3 => (if r1 = true then (if r3 = true then (some (0 : Int)) else (some (-1 : Int))) else (if r3 = true then (some (1 : Int)) else (if (decide (a0 < a1)) = true then (some (-1 : Int)) else (if (decide (a0 > a1)) = true then (some (1 : Int)) else (some (0 : Int))))))))
def cmp_Compare_int.Q (w : World) (F : Nat → Prop) (r : Int) (v : Value) (w' : World) : Prop :=
 v = (iI r) ∧ Ky [] w w'
theorem cmp_Compare_int.calls (a0 : Int) (a1 : Int) (w : World) (F : Nat → Prop)   (r : Int) (m : cmp_Compare_int.f a0 a1 = some r) :
  Calls prog 192 #[(iI a0), (iI a1)] w (RT (cmp_Compare_int.Q w F) r) := by
 obtain ⟨s0, rfl, kp0, z⟩ := Xl w F
 refine Xd (args := [(iI a0), (iI a1)]) func192 ntmps192 rfl m ?_
 unfold cmp_Compare_int.f
 refine sr (Xc rfl (dn (sr (Xc rfl (Yn 40 rfl func248 rfl (cmp_isNaN_int.calls a0 s0.w (mm [] s0)) (fun r1 s2 p2 n2 => ?_))))))
 refine Xc rfl (dn (sr (Xc rfl (Yn 41 rfl func248 rfl (cmp_isNaN_int.calls a1 s2.w (mm [] s2)) (fun r3 s4 p4 n4 => ?_)))))
 refine Xc rfl (dn (sq (sr (Xc rfl (dn (cd rfl (fun h5 => ?_) (fun h5 => ?_)))))))
 ·
  refine sq (sr (Xc rfl (dn (cd rfl (fun h6 => ?_) (fun h6 => ?_)))))
  ·
   refine sr (Xc rfl (dn ?_))
   exact re rfl func192 rfl (Xu rfl Xe) rfl ⟨_, rfl, rfl, z.ky (kp0.st (Xn p2 p4) rfl)⟩
  refine sk (sr (Xc rfl (dn ?_)))
  exact re rfl func192 rfl (Xu rfl Xe) rfl ⟨_, rfl, rfl, z.ky (kp0.st (Xn p2 p4) rfl)⟩
 refine sk (sq (sr (Xc rfl (dn (cd rfl (fun h9 => ?_) (fun h9 => ?_))))))
 ·
  refine sr (Xc rfl (dn ?_))
  exact re rfl func192 rfl (Xu rfl Xe) rfl ⟨_, rfl, rfl, z.ky (kp0.st (Xn p2 p4) rfl)⟩
 refine sk (sq (sr (Xc rfl (Xc rfl (Xc rfl (dn (cd rfl (fun h11 => ?_) (fun h11 => ?_))))))))
 ·
  refine sr (Xc rfl (dn ?_))
  exact re rfl func192 rfl (Xu rfl Xe) rfl ⟨_, rfl, rfl, z.ky (kp0.st (Xn p2 p4) rfl)⟩
 refine sk (sq (sr (Xc rfl (Xc rfl (Xc rfl (dn (cd rfl (fun h13 => ?_) (fun h13 => ?_))))))))
 ·
  refine sr (Xc rfl (dn ?_))
  exact re rfl func192 rfl (Xu rfl Xe) rfl ⟨_, rfl, rfl, z.ky (kp0.st (Xn p2 p4) rfl)⟩
 refine sk (sr (Xc rfl (dn ?_)))
 exact re rfl func192 rfl (Xu rfl Xe) rfl ⟨_, rfl, rfl, z.ky (kp0.st (Xn p2 p4) rfl)⟩
def cmp_isNaN_uint64.f (a0 : Int) : Option (Bool) :=
 (some (a0 != a0))
def cmp_isNaN_uint64.Q (w : World) (F : Nat → Prop) (r : Bool) (v : Value) (w' : World) : Prop :=
 v = (.bool r) ∧ Ky [] w w'
theorem cmp_isNaN_uint64.calls (a0 : Int) (w : World) (F : Nat → Prop)   (r : Bool) (m : cmp_isNaN_uint64.f a0 = some r) :
  Calls prog 285 #[(.int .u64 a0)] w (RT (cmp_isNaN_uint64.Q w F) r) := by
 obtain ⟨s0, rfl, kp0, z⟩ := Xl w F
 refine Xd (args := [(.int .u64 a0)]) func285 ntmps285 rfl m ?_
 unfold cmp_isNaN_uint64.f
 exact sr (Xc rfl (dn (sr (Xc rfl (Xc rfl (Xc rfl (Xc rfl (dn (re rfl func285 rfl (Xu rfl Xe) rfl ⟨_, rfl, rfl, z.ky kp0⟩)))))))))
def cmp_Compare_uint64.f (a0 : Int) (a1 : Int) : Option (Int) :=
 ((cmp_isNaN_uint64.f a0).bind fun r1 => ((cmp_isNaN_uint64.f a1).bind fun r3 => (if r1 = true then (if r3 = true then (some (0 : Int)) else (some (-1 : Int))) else (if r3 = true then (some (1 : Int)) else (if (decide (a0 < a1)) = true then (some (-1 : Int)) else (if (decide (a0 > a1)) = true then (some (1 : Int)) else (some (0 : Int))))))))
def cmp_Compare_uint64.Q (w : World) (F : Nat → Prop) (r : Int) (v : Value) (w' : World) : Prop :=
 v = (iI r) ∧ Ky [] w w'
theorem cmp_Compare_uint64.calls (a0 : Int) (a1 : Int) (w : World) (F : Nat → Prop)   (r : Int) (m : cmp_Compare_uint64.f a0 a1 = some r) :
  Calls prog 249 #[(.int .u64 a0), (.int .u64 a1)] w (RT (cmp_Compare_uint64.Q w F) r) := by
 obtain ⟨s0, rfl, kp0, z⟩ := Xl w F
 refine Xd (args := [(.int .u64 a0), (.int .u64 a1)]) func249 ntmps249 rfl m ?_
 unfold cmp_Compare_uint64.f
 refine sr (Xc rfl (dn (sr (Xc rfl (Yn 40 rfl func285 rfl (cmp_isNaN_uint64.calls a0 s0.w (mm [] s0)) (fun r1 s2 p2 n2 => ?_))))))
 refine Xc rfl (dn (sr (Xc rfl (Yn 41 rfl func285 rfl (cmp_isNaN_uint64.calls a1 s2.w (mm [] s2)) (fun r3 s4 p4 n4 => ?_)))))
 refine Xc rfl (dn (sq (sr (Xc rfl (dn (cd rfl (fun h5 => ?_) (fun h5 => ?_)))))))
 ·
  refine sq (sr (Xc rfl (dn (cd rfl (fun h6 => ?_) (fun h6 => ?_)))))
  ·
   refine sr (Xc rfl (dn ?_))
   exact re rfl func249 rfl (Xu rfl Xe) rfl ⟨_, rfl, rfl, z.ky (kp0.st (Xn p2 p4) rfl)⟩
  refine sk (sr (Xc rfl (dn ?_)))
  exact re rfl func249 rfl (Xu rfl Xe) rfl ⟨_, rfl, rfl, z.ky (kp0.st (Xn p2 p4) rfl)⟩
 refine sk (sq (sr (Xc rfl (dn (cd rfl (fun h9 => ?_) (fun h9 => ?_))))))
 ·
  refine sr (Xc rfl (dn ?_))
  exact re rfl func249 rfl (Xu rfl Xe) rfl ⟨_, rfl, rfl, z.ky (kp0.st (Xn p2 p4) rfl)⟩
 refine sk (sq (sr (Xc rfl (Xc rfl (Xc rfl (dn (cd rfl (fun h11 => ?_) (fun h11 => ?_))))))))
 ·
  refine sr (Xc rfl (dn ?_))
  exact re rfl func249 rfl (Xu rfl Xe) rfl ⟨_, rfl, rfl, z.ky (kp0.st (Xn p2 p4) rfl)⟩
 refine sk (sq (sr (Xc rfl (Xc rfl (Xc rfl (dn (cd rfl (fun h13 => ?_) (fun h13 => ?_))))))))
 ·
  refine sr (Xc rfl (dn ?_))
  exact re rfl func249 rfl (Xu rfl Xe) rfl ⟨_, rfl, rfl, z.ky (kp0.st (Xn p2 p4) rfl)⟩
 refine sk (sr (Xc rfl (dn ?_)))
 exact re rfl func249 rfl (Xu rfl Xe) rfl ⟨_, rfl, rfl, z.ky (kp0.st (Xn p2 p4) rfl)⟩
def impl_FloatCompare.f (a0 : Nat) (a1 : Nat) : Option (Int) :=
 ((impl_FloatRank.f a0).bind fun r1 => ((impl_FloatRank.f a1).bind fun r3 => ((cmp_Compare_uint64.f r1 r3).bind fun r5 => (some r5))))
def impl_FloatCompare.Q (w : World) (F : Nat → Prop) (r : Int) (v : Value) (w' : World) : Prop :=
 v = (iI r) ∧ Ky [] w w'
theorem impl_FloatCompare.calls (a0 : Nat) (a1 : Nat) (w : World) (F : Nat → Prop) (w0_0 : Value) (w1_0 : Value) (h0_0 : Kd.flt.rd w [w0_0] a0 F) (h1_0 : Kd.flt.rd w [w1_0] a1 F) (r : Int) (m : impl_FloatCompare.f a0 a1 = some r) :
  Calls prog 193 #[w0_0, w1_0] w (RT (impl_FloatCompare.Q w F) r) := by
 obtain ⟨s0, rfl, kp0, z⟩ := Xl w F
 refine Xd (args := [w0_0, w1_0]) func193 ntmps193 rfl m ?_
 unfold impl_FloatCompare.f
 refine sr (Xc rfl (dn (sr (Yc w0_0 rfl (Yn 40 rfl func236 rfl (impl_FloatRank.calls a0 s0.w (mm [] s0) w0_0 (Xq (s := s0) (Yq h0_0))) (fun r1 s2 p2 n2 => ?_))))))
 refine Yc w1_0 rfl (Yn 41 rfl func236 rfl (impl_FloatRank.calls a1 s2.w (mm [] s2) w1_0 (Xq (s := s2) (Yq h1_0))) (fun r3 s4 p4 n4 => ?_))
 refine Yn 42 rfl func249 rfl (cmp_Compare_uint64.calls r1 r3 s4.w (mm [] s4)) (fun r5 s6 p6 n6 => ?_)
 refine Xc rfl (dn ?_)
 exact re rfl func193 rfl (Xu rfl Xe) rfl ⟨_, rfl, rfl, z.ky (kp0.st (Yi p2 p4 p6) rfl)⟩
def bytes_Compare.f (a0 : (List Int)) (a1 : (List Int)) : Option (Int) :=
 (some (bcmpS a0 a1))
def bytes_Compare.Q (w : World) (F : Nat → Prop) (r : Int) (v : Value) (w' : World) : Prop :=
 v = (iI r) ∧ Ky [] w w'
theorem bytes_Compare.calls (a0 : (List Int)) (a1 : (List Int)) (w : World) (F : Nat → Prop) (w0_0 : Value) (w1_0 : Value) (h0_0 : Yr.rd w [w0_0] a0 F) (h1_0 : Yr.rd w [w1_0] a1 F) (r : Int) (m : bytes_Compare.f a0 a1 = some r) :
  Calls prog 194 #[w0_0, w1_0] w (RT (bytes_Compare.Q w F) r) := by
 obtain ⟨s0, rfl, kp0, z⟩ := Xl w F
 refine Xd (args := [w0_0, w1_0]) func194 ntmps194 rfl m ?_
 unfold bytes_Compare.f
 exact sr (Xc rfl (dn (sr (Yc w0_0 rfl (Yc w1_0 rfl (bcx (z.rd h0_0) (z.rd h1_0) rfl rfl rfl rfl rfl func250 rfl rfl xn250 xf250 rfl rfl (Xc rfl (dn (re rfl func194 rfl (Xu rfl Xe) rfl ⟨_, rfl, rfl, z.ky kp0⟩)))))))))
def cmp_Or_int.b0 (a0 : (List Int)) (x2 : Int) : Option (Int ⊕ Int) :=
 (if (decide (x2 < (a0.length : Int))) = true then (if 0 ≤ x2 ∧ x2 < (a0.length : Int) then (if ((at_ a0 x2) != (0 : Int)) = true then (some (Sum.inr (at_ a0 x2))) else (some (Sum.inl (IntKind.wrap .i64 (x2 + (1 : Int)))))) else none) else ((some (0 : Int)).bind fun o => some (Sum.inr o)))
def cmp_Or_int.f (a0 : (List Int)) : Option (Int) :=
 (iter (cmp_Or_int.b0 a0) (0 : Int))
def cmp_Or_int.Q (w : World) (F : Nat → Prop) (r : Int) (v : Value) (w' : World) : Prop :=
 v = (iI r) ∧ Ky [] w w'
theorem cmp_Or_int.calls (a0 : (List Int)) (w : World) (F : Nat → Prop) (w0_0 : Value) (h0_0 : Yv.rd w [w0_0] a0 F) (r : Int) (m : cmp_Or_int.f a0 = some r) :
  Calls prog 191 #[w0_0] w (RT (cmp_Or_int.Q w F) r) := by
 obtain ⟨s0, rfl, kp0, z⟩ := Xl w F
 have A0_0 := z.rd h0_0
 refine Xd (args := [w0_0]) func191 ntmps191 rfl m ?_
 unfold cmp_Or_int.f
 refine sr (Xc rfl (dn (sr (Xc rfl (dn (sq (sr (Yc w0_0 rfl (ln' A0_0 u50 rfl (Xc rfl (dn (bl (lpI (fun (x2 : Int) e w => ∃ (s : St) (e0 : Env), w = s.w ∧ e = upd (upd (upd (upd e0 3 (iI 0)) 6 w0_0) 7 (iI (a0.length : Int))) 8 (iI x2) ∧ Kp s0 s) ⟨s0, _, rfl, (ue (ue (ue (ue rfl rfl) rfl) rfl) rfl), kp0⟩ (fun g2 ih2 => ?_))))))))))))))
 rintro x2 _ _ ⟨s3, _, rfl, rfl, Kx2⟩
 unfold cmp_Or_int.b0
 refine sr (Xc rfl (dn (sq (cd rfl (fun h4 => ?_) (fun h4 => ?_)))))
 ·
  refine sk (sq (bl (sr ?_)))
  refine ix' (A0_0.kp Kx2) u50 z3 rfl (fun ad6 es6 h0_6 h1_6 he6 ce6 ia6 => ?_)
  obtain rfl := he6
  refine lc0' ce6 u3 rfl (Xc rfl (dn (sr (Xc rfl (Xc rfl (Xc rfl (dn (cd rfl (fun h8 => ?_) (fun h8 => ?_)))))))))
  ·
   exact sr (Xc rfl (Xc rfl (dn (sgi (re rfl func191 rfl (Xu rfl Xe) rfl ⟨_, rfl, rfl, z.ky Kx2⟩)))))
  exact sk (ib (rg (Xc rfl (Xc rfl (dn (lb ih2 ⟨s3, _, rfl, (ue (ue (ue (ue rfl rfl) rfl) rfl) rfl), Kx2⟩))))))
 exact xt rfl (sgb (sr (Xc rfl (Xc rfl (dn (re rfl func191 rfl (Xu rfl Xe) rfl ⟨_, rfl, rfl, z.ky Kx2⟩))))))
def impl_compareItems.f (a0 : Item) (a1 : Item) : Option (Int) :=
 ((cmp_Compare_int.f a0.Kind a1.Kind).bind fun r41 => ((cmp_Compare_int.f a0.N a1.N).bind fun r51 => ((impl_FloatCompare.f a0.F a1.F).bind fun r59 => ((bytes_Compare.f a0.T a1.T).bind fun r67 => ((cmp_Or_int.f ([r41, r51, r59, r67])).bind fun r71 => (some r71))))))
def impl_compareItems.Q (w : World) (F : Nat → Prop) (r : Int) (v : Value) (w' : World) : Prop :=
 v = (iI r) ∧ Ky [] w w'
theorem impl_compareItems.calls (a0 : Item) (a1 : Item) (w : World) (F : Nat → Prop) (w0_0 : Value) (w0_1 : Value) (w1_0 : Value) (w1_1 : Value) (h0_0 : Kd.flt.rd w [w0_0] a0.F F) (h0_1 : Yr.rd w [w0_1] a0.T F) (h1_0 : Kd.flt.rd w [w1_0] a1.F F) (h1_1 : Yr.rd w [w1_1] a1.T F) (r : Int) (m : impl_compareItems.f a0 a1 = some r) :
  Calls prog 102 #[(.agg #[(iI a0.Kind), (iI a0.N), w0_0, w0_1]), (.agg #[(iI a1.Kind), (iI a1.N), w1_0, w1_1])] w (RT (impl_compareItems.Q w F) r) := by
 obtain ⟨s0, rfl, kp0, z⟩ := Xl w F
 refine Xd (args := [(.agg #[(iI a0.Kind), (iI a0.N), w0_0, w0_1]), (.agg #[(iI a1.Kind), (iI a1.N), w1_0, w1_1])]) func102 ntmps102 rfl m ?_
 unfold impl_compareItems.f
 refine sr (bx' (cs := [(iI a0.Kind), (iI a0.N), w0_0, w0_1]) 40 rfl rfl (fun b3 s3 p3 B3 => ?_))
 refine bx' (cs := [(iI a1.Kind), (iI a1.N), w1_0, w1_1]) 41 rfl rfl (fun b5 s5 p5 B5 => ?_)
 refine Xc rfl (dn (sq (zdraw [[], [0], [], [2], [1, 3], [], [5], [], [7], [6, 8, 4], [], [10], [], [12], [11, 13, 9], [], [15], [], [17], [16, 18, 14], [4, 9, 14, 19], [20, 19], [21, 21, 0, 1, 2, 3, 4, 5, 6, 7, 8, 9, 10, 11, 12, 13, 14, 15, 16, 17, 18, 19, 20, 21]] [some 5, some 6, some 7, some 8, some 9, some 10, some 11, some 12, some 13, some 14, some 15, some 16, some 17, some 18, some 19, some 20, some 21, some 22, some 23, some 24, some 25, some 26, some 4] [[2], [5], [3], [7], [6, 8], [2], [10], [3], [12], [11, 13], [2], [15], [3], [17], [16, 18], [2], [20], [3], [22], [21, 23], [9, 14, 19, 24], [25], [26]] [0, 1, 2, 3, 4, 5, 6, 7, 8, 9, 10, 11, 12, 13, 14, 15, 16, 17, 18, 19, 20, 21, 22] ⟨by kernel_rfl, by kernel_rfl, by kernel_rfl⟩ (by kernel_rfl) (fun s7 p7 l7 tb7 zd7 => ?_))))
 have zd11 := ((zd7.add 0 5 (pB b3) rfl).add 1 6 (iI a0.Kind) rfl).add 2 7 (pB b5) rfl
 refine Xt 4 [some 23, some 22, some 21, some 20, some 18, some 17, some 16, some 15, some 13, some 12, some 11, some 10] tb7 (((((((((((((zd11.add 3 8 (iI a1.Kind) rfl).add 5 10 (pO b3 1) rfl).add 6 11 (iI a0.N) rfl).add 7 12 (pO b5 1) rfl).add 8 13 (iI a1.N) rfl).add 10 15 (pO b3 2) rfl).add 11 16 w0_0 rfl).add 12 17 (pO b5 2) rfl).add 13 18 w1_0 rfl).add 15 20 (pO b3 3) rfl).add 16 21 w0_1 rfl).add 17 22 (pO b5 3) rfl).add 18 23 w1_1 rfl) (Xa (Xp (B5.st p7 rfl) u22 rfl) rfl (Xa (Xo fa29_3 rfl) rfl (Xa (Xp (B3.st (Xn p5 p7) rfl) u22 rfl) rfl (Xa (Xo fa29_3 rfl) rfl (Xa (Xp (B5.st p7 rfl) u27 rfl) rfl (Xa (Xo fa29_2 rfl) rfl (Xa (Xp (B3.st (Xn p5 p7) rfl) u27 rfl) rfl (Xa (Xo fa29_2 rfl) rfl (Xa (Xp (B5.st p7 rfl) u3 rfl) rfl (Xa (Xo fa29_1 rfl) rfl (Xa (Xp (B3.st (Xn p5 p7) rfl) u3 rfl) rfl (Xa (Xo fa29_1 rfl) rfl (Xa (Xp (B5.st p7 rfl) u3 rfl) rfl (Xa (Xo fa29_0 rfl) rfl (Xa (Xp (B3.st (Xn p5 p7) rfl) u3 rfl) rfl (Xa (Xo fa29_0 rfl) rfl Xg)))))))))))))))) (by kernel_rfl) rfl (fun l32 e32 zd32 => ?_)
 refine Yn 42 rfl func192 rfl (cmp_Compare_int.calls a0.Kind a1.Kind s7.w (mm [] s7)) (fun r41 s42 p42 n42 => ?_)
 refine Xm (L' := [18, 17, 16, 15, 13, 12, 11, 10, 8, 7, 6, 5]) (D' := [0, 2, 1, 3, 4]) zd32 rfl (fun zd43 => ?_)
 refine Xt 9 [some 23, some 22, some 21, some 20, some 18, some 17, some 16, some 15] tb7 zd43 (Xa (Xp (B5.st (Xn p7 p42) rfl) u22 rfl) rfl (Xa (Xo fa29_3 rfl) rfl (Xa (Xp (B3.st (Yi p5 p7 p42) rfl) u22 rfl) rfl (Xa (Xo fa29_3 rfl) rfl (Xa (Xp (B5.st (Xn p7 p42) rfl) u27 rfl) rfl (Xa (Xo fa29_2 rfl) rfl (Xa (Xp (B3.st (Yi p5 p7 p42) rfl) u27 rfl) rfl (Xa (Xo fa29_2 rfl) rfl (Xa (Xp (B5.st (Xn p7 p42) rfl) u3 rfl) rfl (Xa (Xo fa29_1 rfl) rfl (Xa (Xp (B3.st (Yi p5 p7 p42) rfl) u3 rfl) rfl (Xa (Xo fa29_1 rfl) rfl Xg)))))))))))) (by kernel_rfl) rfl (fun l44 e44 zd44 => ?_)
 refine Yn 43 rfl func192 rfl (cmp_Compare_int.calls a0.N a1.N s42.w (mm [] s42)) (fun r51 s52 p52 n52 => ?_)
 refine Xm (L' := [18, 17, 16, 15, 13, 12, 11, 10]) (D' := [5, 7, 6, 8, 9, 0, 2, 1, 3, 4]) zd44 rfl (fun zd53 => ?_)
 refine Xt 14 [some 23, some 22, some 21, some 20] tb7 zd53 (Xa (Xp (B5.st (Yi p7 p42 p52) rfl) u22 rfl) rfl (Xa (Xo fa29_3 rfl) rfl (Xa (Xp (B3.st (Yo p5 p7 p42 p52) rfl) u22 rfl) rfl (Xa (Xo fa29_3 rfl) rfl (Xa (Xp (B5.st (Yi p7 p42 p52) rfl) u27 rfl) rfl (Xa (Xo fa29_2 rfl) rfl (Xa (Xp (B3.st (Yo p5 p7 p42 p52) rfl) u27 rfl) rfl (Xa (Xo fa29_2 rfl) rfl Xg)))))))) (by kernel_rfl) rfl (fun l54 e54 zd54 => ?_)
 refine Yn 44 rfl func193 rfl (impl_FloatCompare.calls a0.F a1.F s52.w (mm [] s52) w0_0 w1_0 (Xq (s := s52) (Yq h0_0)) (Xq (s := s52) (Yq h1_0))) (fun r59 s60 p60 n60 => ?_)
 refine Xm (L' := [18, 17, 16, 15]) (D' := [10, 12, 11, 13, 14, 5, 7, 6, 8, 9, 0, 2, 1, 3, 4]) zd54 rfl (fun zd61 => ?_)
 refine Yp [19, 20, 21, 22] tb7 zd61 (Xa (Xp (B5.st (Yo p7 p42 p52 p60) rfl) u22 rfl) rfl (Xa (Xo fa29_3 rfl) rfl (Xa (Xp (B3.st (tr5 p5 p7 p42 p52 p60) rfl) u22 rfl) rfl (Xa (Xo fa29_3 rfl) rfl Xg)))) (by kernel_rfl) (by decide) ?_
 have K64 := kp0.st (tr6 p3 p5 p7 p42 p52 p60) rfl
 refine Yn 45 rfl func194 rfl (bytes_Compare.calls a0.T a1.T s60.w (mm [0] s60) w0_1 w1_1 ((z.rd h0_1).kp K64) ((z.rd h1_1).kp K64)) (fun r67 s68 p68 n68 => ?_)
 refine ltF' (K := (Kd.int .i64)) (cells := [(iI r41), (iI r51), (iI r59), (iI r67)]) [r41, r51, r59, r67] 46 Xv u50 z3 o3 (fun w => (Yd _ _ _)) rfl (fun v69 s69 p69 A69 => ?_)
 refine Yn 47 rfl func191 rfl (cmp_Or_int.calls ([r41, r51, r59, r67]) s69.w (mm [46] s69) v69 A69.rd) (fun r71 s72 p72 n72 => ?_)
 refine Xc rfl (dn ?_)
 exact re rfl func102 rfl (Xu rfl Xe) rfl ⟨_, rfl, rfl, z.ky (K64.st (Yi p68 p69 p72) rfl)⟩
def impl_HeapVersions_1.f (a0 : Tuple) (a1 : Item) : Option (Bool) :=
 ((impl_compareItems.f a0.Key a1).bind fun r11 => (some (r11 == (0 : Int))))
def impl_HeapVersions_1.Q (w : World) (F : Nat → Prop) (r : Bool) (v : Value) (w' : World) : Prop :=
 v = (.bool r) ∧ Ky [] w w'
theorem impl_HeapVersions_1.calls (a0 : Tuple) (a1 : Item) (w : World) (F : Nat → Prop) (w0_0 : Value) (w0_1 : Value) (w0_2 : Value) (w0_3 : Value) (c1 : Nat) (w1_0 : Value) (w1_1 : Value) (h0_0 : Kd.flt.rd w [w0_0] a0.Key.F F) (h0_1 : Yr.rd w [w0_1] a0.Key.T F) (h0_2 : Kd.flt.rd w [w0_2] a0.Value.F F) (h0_3 : Yr.rd w [w0_3] a0.Value.T F) (h1_0 : Kd.flt.rd w [w1_0] a1.F F) (h1_1 : Yr.rd w [w1_1] a1.T F) (hb1 : BlW w c1 29 [(iI a1.Kind), (iI a1.N), w1_0, w1_1]) (hp1 : F c1) (r : Bool) (m : impl_HeapVersions_1.f a0 a1 = some r) :
  Calls prog 101 #[(.agg #[(iI a0.Xmin), (iI a0.Xmax), (iI a0.Key.Kind), (iI a0.Key.N), w0_0, w0_1, (iI a0.Value.Kind), (iI a0.Value.N), w0_2, w0_3]), (pB c1)] w (RT (impl_HeapVersions_1.Q w F) r) := by
 obtain ⟨s0, rfl, kp0, z⟩ := Xl w F
 refine Xd (args := [(.agg #[(iI a0.Xmin), (iI a0.Xmax), (iI a0.Key.Kind), (iI a0.Key.N), w0_0, w0_1, (iI a0.Value.Kind), (iI a0.Value.N), w0_2, w0_3]), (pB c1)]) func101 ntmps101 rfl m ?_
 unfold impl_HeapVersions_1.f
 refine sr (bx' (cs := [(iI a0.Xmin), (iI a0.Xmax), (iI a0.Key.Kind), (iI a0.Key.N), w0_0, w0_1, (iI a0.Value.Kind), (iI a0.Value.N), w0_2, w0_3]) 40 rfl rfl (fun b5 s5 p5 B5 => ?_))
 refine Xc rfl (dn (sr (Ye fa31_2 rfl (Ya (es := [(iI a0.Key.Kind), (iI a0.Key.N), w0_0, w0_1]) B5 u29 z29 rfl ?_))))
 refine Ya (es := [(iI a1.Kind), (iI a1.N), w1_0, w1_1]) (BlF.st (z.b0 hb1 hp1) p5 rfl) u29 z29 rfl ?_
 have K8 := kp0.st p5 rfl
 refine Yn 41 rfl func102 rfl (impl_compareItems.calls a0.Key a1 s5.w (mm [0] s5) w0_0 w0_1 w1_0 w1_1 ((Xq (s := s5) (Yq h0_0)).sub (D := [0]) rfl) ((z.rd h0_1).kp K8) ((Xq (s := s5) (Yq h1_0)).sub (D := [0]) rfl) ((z.rd h1_1).kp K8)) (fun r11 s12 p12 n12 => ?_)
 refine Xc rfl (Xc rfl (dn ?_))
 exact re rfl func101 rfl (Xu rfl Xe) rfl ⟨_, rfl, rfl, z.ky (K8.st p12 rfl)⟩
def impl_HeapVersions.f (a0 : Heap) (a1 : Item) : Option ((List Row)) :=
 ((impl_KeyOk.f a1).bind fun r9 => (if (!r9) = true then (some ([] : (List Row))) else ((impl_Heap_rowsOf.f a0 (fun x0 => impl_HeapVersions_1.f x0 a1)).bind fun r18 => (some r18))))
def impl_HeapVersions.Q (w : World) (F : Nat → Prop) (r : (List Row)) (v : Value) (w' : World) : Prop :=
 FO Yu w w' [v] r ∧ Ky [] w w'
theorem impl_HeapVersions.calls (a0 : Heap) (a1 : Item) (w : World) (F : Nat → Prop) (w0_0 : Value) (w1_0 : Value) (w1_1 : Value) (h0_0 : Yt.rd w [w0_0] a0.Pages F) (h1_0 : Kd.flt.rd w [w1_0] a1.F F) (h1_1 : Yr.rd w [w1_1] a1.T F) (r : (List Row)) (m : impl_HeapVersions.f a0 a1 = some r) :
  Calls prog 24 #[(.agg #[w0_0]), (.agg #[(iI a1.Kind), (iI a1.N), w1_0, w1_1])] w (RT (impl_HeapVersions.Q w F) r) := by
 obtain ⟨s0, rfl, kp0, z⟩ := Xl w F
 have A1_0 := Yq h1_0
 have A1_1 := z.rd h1_1
 refine Xd (args := [(.agg #[w0_0]), (.agg #[(iI a1.Kind), (iI a1.N), w1_0, w1_1])]) func24 ntmps24 rfl m ?_
 unfold impl_HeapVersions.f
 refine sr (bx' (cs := [w0_0]) 40 rfl rfl (fun b3 s3 p3 B3 => ?_))
 refine bx' (cs := [(iI a1.Kind), (iI a1.N), w1_0, w1_1]) 41 rfl rfl (fun b5 s5 p5 B5 => ?_)
 refine Xc rfl (dn (sq (sr (Ya (es := [(iI a1.Kind), (iI a1.N), w1_0, w1_1]) B5 u29 z29 rfl ?_))))
 have K7 := kp0.st (Xn p3 p5) rfl
 refine Yn 42 rfl func100 rfl (impl_KeyOk.calls a1 s5.w (mm [0] s5) w1_0 w1_1 ((Xq (s := s5) A1_0).sub (D := [0]) rfl) (A1_1.kp K7)) (fun r9 s10 p10 n10 => ?_)
 refine Xc rfl (dn (cd rfl (fun h11 => ?_) (fun h11 => ?_)))
 ·
  refine sr (Xc rfl (dn ?_))
  have K12 := K7.st p10 rfl
  exact re rfl func24 rfl (Xu rfl Xe) rfl ⟨_, rfl, (Ym 47 kd47 s10 40).fo K12 rfl z.l, z.ky K12⟩
 refine sk (sr ?_)
 refine Ya (es := [w0_0]) (B3.st (Xn p5 p10) rfl) u26 z26 rfl (mkf (fs := []) (cs := [(pB b5)]) rfl rfl rfl rfl rfl rfl rfl ?_)
 have K14 := K7.st p10 rfl
 refine clO 43 rfl func86 rfl (impl_Heap_rowsOf.calls a0 (fun x0 => impl_HeapVersions_1.f x0 a1) s10.w (mm [0] s10) w0_0 (.func (.func 101) (List.toArray []) (List.toArray [(pB b5)])) ((z.rd h0_0).kp K14) (fun x0 u0_0 u0_1 u0_2 u0_3 w' k h0 h1 h2 h3 r m =>  ⟨101, _, _, [], [(pB b5)], rfl, func101, rfl, rfl, (impl_HeapVersions_1.calls x0 a1 w' (fun _ => True) u0_0 u0_1 u0_2 u0_3 b5 w1_0 w1_1 h0 h1 h2 h3 (fl_rd A1_0) (RdF.ky (A1_1.kp K14) k) (BlF.ky (B5.st p10 rfl) k) trivial r m).mono fun en w2 hq => by obtain ⟨v, e, q⟩ := hq; exact ⟨v, e, q⟩⟩) rfl) (fun r18 v18_0 s19 p19 A18_0 => ?_)
 refine Yh v18_0 rfl (dn ?_)
 have K21 := K14.st p19 rfl
 exact re rfl func24 rfl (Xu rfl Xe) rfl ⟨_, rfl, A18_0.fo K21 rfl z.l, z.ky K21⟩
def impl_StatusOf.f (a0 : (List Int)) (a1 : Int) : Option (Int) :=
 ((impl_isXid.f a1).bind fun r2 => ((if ((!r2) || (decide (a1 ≥ (a0.length : Int)))) = true then (some true) else (if 0 ≤ a1 ∧ a1 < (a0.length : Int) then ((impl_within.f (at_ a0 a1) (0 : Int) (2 : Int)).bind fun r13 => (some (!r13))) else none)).bind fun y7 => (if y7 = true then (some (0 : Int)) else (if 0 ≤ a1 ∧ a1 < (a0.length : Int) then (some (at_ a0 a1)) else none))))
def impl_StatusOf.Q (w : World) (F : Nat → Prop) (r : Int) (v : Value) (w' : World) : Prop :=
 v = (iI r) ∧ Ky [] w w'
theorem impl_StatusOf.calls (a0 : (List Int)) (a1 : Int) (w : World) (F : Nat → Prop) (w0_0 : Value) (h0_0 : Yv.rd w [w0_0] a0 F) (r : Int) (m : impl_StatusOf.f a0 a1 = some r) :
  Calls prog 154 #[w0_0, (iI a1)] w (RT (impl_StatusOf.Q w F) r) := by
 obtain ⟨s0, rfl, kp0, z⟩ := Xl w F
 have A0_0 := z.rd h0_0
 refine Xd (args := [w0_0, (iI a1)]) func154 ntmps154 rfl m ?_
 unfold impl_StatusOf.f
 refine sr (Xc rfl (dn (sq (sr (Xc rfl (Yn 40 rfl func169 rfl (impl_isXid.calls a1 s0.w (mm [] s0)) (fun r2 s3 p3 n3 => ?_)))))))
 refine Xc rfl (Xc rfl (jy [8, 9, 10, 11, 12, 13] [9, 10, 11, 12, 13, 14, 15, 16] 13 (.bool ((!r2) || (decide (a1 ≥ (a0.length : Int))))) rfl (fun Kg4 => ?_) (fun j4 => ?_)))
 ·
  rcases bft (!r2) with hb4 | hb4
  ·
   exact Yb hb4 (Xk rfl (Xk rfl (Xk rfl (Xk rfl (Xc rfl (Kg4 _ (Ag.put ((Ag.put ((Ag.put ((Ag.put ((Ag.put (Ag.base rfl) rfl)) rfl)) rfl)) rfl)) rfl) (by rw [hb4]; rfl)))))))
  refine Yb hb4 (Xc rfl (Yc w0_0 rfl ?_))
  exact ln' (A0_0.kp (kp0.st p3 rfl)) u50 rfl (Xc rfl (Xc rfl (Kg4 _ (Ag.put ((Ag.put ((Ag.put ((Ag.put ((Ag.put (Ag.base rfl) rfl)) rfl)) rfl)) rfl)) rfl) (by rw [hb4]; rfl))))
 refine Xc rfl (ji [] (fun (y7 : Bool) e w => ∃ (s : St) (e0 : Env), w = s.w ∧ e = upd (upd (upd e0 0 w0_0) 1 (iI a1)) 21 (.bool y7) ∧ Kp s0 s) (fun Gj7 Kj7 => ?_) ?_)
 ·
  rcases bft ((!r2) || (decide (a1 ≥ (a0.length : Int)))) with hb7 | hb7
  ·
   refine Yb hb7 ?_
   rw [if_pos hb7]
   refine Xk rfl (Xk rfl (Xk rfl (Xk rfl (Xk rfl (Xk rfl (Xc rfl ?_))))))
   exact Kj7 _ _ _ ⟨s3, _, rfl, (ue (ue (ue rfl rfl) rfl) rfl), (kp0.st p3 rfl)⟩
  refine Yb hb7 ?_
  rw [if_neg (by rw [hb7]; decide)]
  refine Yc w0_0 rfl (Xc rfl ?_)
  have K9 := kp0.st p3 rfl
  refine ix' (A0_0.kp K9) u50 z3 rfl (fun ad11 es11 h0_11 h1_11 he11 ce11 ia11 => ?_)
  obtain rfl := he11
  refine lc0' ce11 u3 rfl (Yn 41 rfl func94 rfl (impl_within.calls (at_ a0 a1) (0 : Int) (2 : Int) s3.w (mm [] s3)) (fun r13 s14 p14 n14 => ?_))
  refine Xc rfl (Xc rfl ?_)
  exact Kj7 _ _ _ ⟨s14, _, rfl, (ue (ue (ue rfl rfl) rfl) rfl), (K9.st p14 rfl)⟩
 rintro y7 _ _ ⟨s16, _, rfl, rfl, Ky7⟩
 refine dn (cd rfl (fun h17 => ?_) (fun h17 => ?_))
 ·
  exact sr (Xc rfl (dn (re rfl func154 rfl (Xu rfl Xe) rfl ⟨_, rfl, rfl, z.ky Ky7⟩)))
 refine sk (sr (Yc w0_0 rfl (Xc rfl ?_)))
 refine ix' (A0_0.kp Ky7) u50 z3 rfl (fun ad19 es19 h0_19 h1_19 he19 ce19 ia19 => ?_)
 obtain rfl := he19
 exact lc0' ce19 u3 rfl (Xc rfl (dn (re rfl func154 rfl (Xu rfl Xe) rfl ⟨_, rfl, rfl, z.ky Ky7⟩)))
def impl_Dead.f (a0 : (List Int)) (a1 : Int) (a2 : Int) (a3 : Int) : Option (Bool) :=
 ((impl_StatusOf.f a0 a1).bind fun r2 => ((if (r2 == (2 : Int)) = true then (some true) else ((impl_StatusOf.f a0 a2).bind fun r8 => (some ((r8 == (1 : Int)) && (decide (a2 < a3)))))).bind fun y4 => (some y4)))
def impl_Dead.Q (w : World) (F : Nat → Prop) (r : Bool) (v : Value) (w' : World) : Prop :=
 v = (.bool r) ∧ Ky [] w w'
theorem impl_Dead.calls (a0 : (List Int)) (a1 : Int) (a2 : Int) (a3 : Int) (w : World) (F : Nat → Prop) (w0_0 : Value) (h0_0 : Yv.rd w [w0_0] a0 F) (r : Bool) (m : impl_Dead.f a0 a1 a2 a3 = some r) :
  Calls prog 104 #[w0_0, (iI a1), (iI a2), (iI a3)] w (RT (impl_Dead.Q w F) r) := by
 obtain ⟨s0, rfl, kp0, z⟩ := Xl w F
 have A0_0 := z.rd h0_0
 refine Xd (args := [w0_0, (iI a1), (iI a2), (iI a3)]) func104 ntmps104 rfl m ?_
 unfold impl_Dead.f
 refine sr (Xc rfl (dn (sr (Yc w0_0 rfl (Xc rfl (Yn 40 rfl func154 rfl (impl_StatusOf.calls a0 a1 s0.w (mm [0] s0) w0_0 A0_0) (fun r2 s3 p3 n3 => ?_)))))))
 refine Xc rfl (Xc rfl (ji [15] (fun (y4 : Bool) e w => ∃ (s : St) (e0 : Env), w = s.w ∧ e = upd e0 23 (.bool y4) ∧ Kp s0 s) (fun Gj4 Kj4 => ?_) ?_))
 ·
  rcases bft (r2 == (2 : Int)) with hb4 | hb4
  ·
   refine Yb hb4 ?_
   rw [if_pos hb4]
   refine Xk rfl (Xk rfl (Xk rfl (Xk rfl (Xk rfl (Xk rfl (Xk rfl (Xk rfl (Xk rfl (Xc rfl ?_)))))))))
   exact Kj4 _ _ _ ⟨s3, _, rfl, (ue rfl rfl), (kp0.st p3 rfl)⟩
  refine Yb hb4 ?_
  rw [if_neg (by rw [hb4]; decide)]
  refine Yc w0_0 rfl (Xc rfl ?_)
  have K6 := kp0.st p3 rfl
  refine Yn 41 rfl func154 rfl (impl_StatusOf.calls a0 a2 s3.w (mm [0] s3) w0_0 (A0_0.kp K6)) (fun r8 s9 p9 n9 => ?_)
  refine Xc rfl (Xc rfl (jy [18, 19, 20, 21, 22] [14, 15] 22 (.bool ((r8 == (1 : Int)) && (decide (a2 < a3)))) rfl (fun Kg10 => ?_) (fun j10 => ?_)))
  ·
   rcases bft (r8 == (1 : Int)) with hb10 | hb10
   ·
    exact Yb hb10 (Xc rfl (Xc rfl (Xc rfl (Xc rfl (Kg10 _ (Ag.put ((Ag.put ((Ag.put ((Ag.put (Ag.base rfl) rfl)) rfl)) rfl)) rfl) (by rw [hb10]; rfl))))))
   exact Yb hb10 (Xk rfl (Xk rfl (Xk rfl (Xc rfl (Kg10 _ (Ag.put ((Ag.put ((Ag.put ((Ag.put (Ag.base rfl) rfl)) rfl)) rfl)) rfl) (by rw [hb10]; rfl))))))
  exact Xc rfl (Kj4 _ _ _ ⟨s9, _, rfl, (ue rfl rfl), (K6.st p9 rfl)⟩)
 rintro y4 _ _ ⟨s12, _, rfl, rfl, Ky4⟩
 exact Xc rfl (dn (re rfl func104 rfl (Xu rfl Xe) rfl ⟨_, rfl, rfl, z.ky Ky4⟩))
def impl_HeapDead_1.f (a0 : Tuple) (a1 : (List Int)) (a2 : Int) : Option (Bool) :=
 ((impl_Dead.f a1 a0.Xmin a0.Xmax a2).bind fun r12 => (some r12))
def impl_HeapDead_1.Q (w : World) (F : Nat → Prop) (r : Bool) (v : Value) (w' : World) : Prop :=
 v = (.bool r) ∧ Ky [] w w'
theorem impl_HeapDead_1.calls (a0 : Tuple) (a1 : (List Int)) (a2 : Int) (w : World) (F : Nat → Prop) (w0_0 : Value) (w0_1 : Value) (w0_2 : Value) (w0_3 : Value) (c1 : Nat) (w1_0 : Value) (c2 : Nat) (h0_0 : Kd.flt.rd w [w0_0] a0.Key.F F) (h0_1 : Yr.rd w [w0_1] a0.Key.T F) (h0_2 : Kd.flt.rd w [w0_2] a0.Value.F F) (h0_3 : Yr.rd w [w0_3] a0.Value.T F) (h1_0 : Yv.rd w [w1_0] a1 F) (hb1 : BlW w c1 50 [w1_0]) (hp1 : F c1) (hb2 : BlW w c2 3 [(iI a2)]) (hp2 : F c2) (r : Bool) (m : impl_HeapDead_1.f a0 a1 a2 = some r) :
  Calls prog 103 #[(.agg #[(iI a0.Xmin), (iI a0.Xmax), (iI a0.Key.Kind), (iI a0.Key.N), w0_0, w0_1, (iI a0.Value.Kind), (iI a0.Value.N), w0_2, w0_3]), (pB c1), (pB c2)] w (RT (impl_HeapDead_1.Q w F) r) := by
 obtain ⟨s0, rfl, kp0, z⟩ := Xl w F
 refine Xd (args := [(.agg #[(iI a0.Xmin), (iI a0.Xmax), (iI a0.Key.Kind), (iI a0.Key.N), w0_0, w0_1, (iI a0.Value.Kind), (iI a0.Value.N), w0_2, w0_3]), (pB c1), (pB c2)]) func103 ntmps103 rfl m ?_
 unfold impl_HeapDead_1.f
 refine sr (bx' (cs := [(iI a0.Xmin), (iI a0.Xmax), (iI a0.Key.Kind), (iI a0.Key.N), w0_0, w0_1, (iI a0.Value.Kind), (iI a0.Value.N), w0_2, w0_3]) 40 rfl rfl (fun b6 s6 p6 B6 => ?_))
 refine Xc rfl (dn (sr ?_))
 refine Yl (BlF.st (z.b0 hb1 hp1) p6 rfl) u50 rfl (Ye fa31_0 rfl (Yl B6 u3 rfl (Ye fa31_1 rfl (Yl B6 u3 rfl ?_))))
 refine Yl (BlF.st (z.b0 hb2 hp2) p6 rfl) u3 rfl ?_
 have K10 := kp0.st p6 rfl
 refine Yn 41 rfl func104 rfl (impl_Dead.calls a1 a0.Xmin a0.Xmax a2 s6.w (mm [0] s6) w1_0 ((z.rd h1_0).kp K10)) (fun r12 s13 p13 n13 => ?_)
 refine Xc rfl (dn ?_)
 exact re rfl func103 rfl (Xu rfl Xe) rfl ⟨_, rfl, rfl, z.ky (K10.st p13 rfl)⟩
def impl_HeapDead.f (a0 : Heap) (a1 : (List Int)) (a2 : Int) : Option ((List Row)) :=
 ((impl_Heap_rowsOf.f a0 (fun x0 => impl_HeapDead_1.f x0 a1 a2)).bind fun r16 => (some r16))
def impl_HeapDead.Q (w : World) (F : Nat → Prop) (r : (List Row)) (v : Value) (w' : World) : Prop :=
 FO Yu w w' [v] r ∧ Ky [] w w'
theorem impl_HeapDead.calls (a0 : Heap) (a1 : (List Int)) (a2 : Int) (w : World) (F : Nat → Prop) (w0_0 : Value) (w1_0 : Value) (h0_0 : Yt.rd w [w0_0] a0.Pages F) (h1_0 : Yv.rd w [w1_0] a1 F) (r : (List Row)) (m : impl_HeapDead.f a0 a1 a2 = some r) :
  Calls prog 25 #[(.agg #[w0_0]), w1_0, (iI a2)] w (RT (impl_HeapDead.Q w F) r) := by
 obtain ⟨s0, rfl, kp0, z⟩ := Xl w F
 have A1_0 := z.rd h1_0
 refine Xd (args := [(.agg #[w0_0]), w1_0, (iI a2)]) func25 ntmps25 rfl m ?_
 unfold impl_HeapDead.f
 refine sr (bx' (cs := [w0_0]) 40 rfl rfl (fun b3 s3 p3 B3 => ?_))
 have K5 := kp0.st p3 rfl
 refine bx' (cs := [w1_0]) 41 rfl (oc (A1_0.kp K5).one) (fun b7 s7 p7 B7 => ?_)
 refine bx' (cs := [(iI a2)]) 42 rfl rfl (fun b9 s9 p9 B9 => ?_)
 refine Xc rfl (dn (sr ?_))
 refine Ya (es := [w0_0]) (B3.st (Xn p7 p9) rfl) u26 z26 rfl (mkf (fs := []) (cs := [(pB b7), (pB b9)]) rfl rfl rfl rfl rfl rfl rfl ?_)
 have K12 := K5.st (Xn p7 p9) rfl
 refine clO 43 rfl func86 rfl (impl_Heap_rowsOf.calls a0 (fun x0 => impl_HeapDead_1.f x0 a1 a2) s9.w (mm [0] s9) w0_0 (.func (.func 103) (List.toArray []) (List.toArray [(pB b7), (pB b9)])) ((z.rd h0_0).kp K12) (fun x0 u0_0 u0_1 u0_2 u0_3 w' k h0 h1 h2 h3 r m =>  ⟨103, _, _, [], [(pB b7), (pB b9)], rfl, func103, rfl, rfl, (impl_HeapDead_1.calls x0 a1 a2 w' (fun _ => True) u0_0 u0_1 u0_2 u0_3 b7 w1_0 b9 h0 h1 h2 h3 (RdF.ky (A1_0.kp K12) k) (BlF.ky (B7.st p9 rfl) k) trivial (B9.ky k) trivial r m).mono fun en w2 hq => by obtain ⟨v, e, q⟩ := hq; exact ⟨v, e, q⟩⟩) rfl) (fun r16 v16_0 s17 p17 A16_0 => ?_)
 refine Yh v16_0 rfl (dn ?_)
 have K19 := K12.st p17 rfl
 exact re rfl func25 rfl (Xu rfl Xe) rfl ⟨_, rfl, A16_0.fo K19 rfl z.l, z.ky K19⟩
def spec_StatusOf.f (a0 : (List Int)) (a1 : Int) : Option (Int) :=
 ((spec_l5in.f a1 (1 : Int) (400 : Int)).bind fun r2 => ((if ((!r2) || (decide (a1 ≥ (a0.length : Int)))) = true then (some true) else (if 0 ≤ a1 ∧ a1 < (a0.length : Int) then ((spec_l5in.f (at_ a0 a1) (1 : Int) (2 : Int)).bind fun r13 => (some (!r13))) else none)).bind fun y7 => (if y7 = true then (some (0 : Int)) else (if 0 ≤ a1 ∧ a1 < (a0.length : Int) then (some (at_ a0 a1)) else none))))
def spec_StatusOf.Q (w : World) (F : Nat → Prop) (r : Int) (v : Value) (w' : World) : Prop :=
 v = (iI r) ∧ Ky [] w w'
theorem spec_StatusOf.calls (a0 : (List Int)) (a1 : Int) (w : World) (F : Nat → Prop) (w0_0 : Value) (h0_0 : Yv.rd w [w0_0] a0 F) (r : Int) (m : spec_StatusOf.f a0 a1 = some r) :
  Calls prog 106 #[w0_0, (iI a1)] w (RT (spec_StatusOf.Q w F) r) := by
 obtain ⟨s0, rfl, kp0, z⟩ := Xl w F
 have A0_0 := z.rd h0_0
 refine Xd (args := [w0_0, (iI a1)]) func106 ntmps106 rfl m ?_
 unfold spec_StatusOf.f
 refine sr (Xc rfl (dn (sq (sr (Xc rfl (Yn 40 rfl func83 rfl (spec_l5in.calls a1 (1 : Int) (400 : Int) s0.w (mm [] s0)) (fun r2 s3 p3 n3 => ?_)))))))
 refine Xc rfl (Xc rfl (jy [8, 9, 10, 11, 12, 13] [9, 10, 11, 12, 13, 14, 15, 16] 13 (.bool ((!r2) || (decide (a1 ≥ (a0.length : Int))))) rfl (fun Kg4 => ?_) (fun j4 => ?_)))
 ·
  rcases bft (!r2) with hb4 | hb4
  ·
   exact Yb hb4 (Xk rfl (Xk rfl (Xk rfl (Xk rfl (Xc rfl (Kg4 _ (Ag.put ((Ag.put ((Ag.put ((Ag.put ((Ag.put (Ag.base rfl) rfl)) rfl)) rfl)) rfl)) rfl) (by rw [hb4]; rfl)))))))
  refine Yb hb4 (Xc rfl (Yc w0_0 rfl ?_))
  exact ln' (A0_0.kp (kp0.st p3 rfl)) u50 rfl (Xc rfl (Xc rfl (Kg4 _ (Ag.put ((Ag.put ((Ag.put ((Ag.put ((Ag.put (Ag.base rfl) rfl)) rfl)) rfl)) rfl)) rfl) (by rw [hb4]; rfl))))
 refine Xc rfl (ji [] (fun (y7 : Bool) e w => ∃ (s : St) (e0 : Env), w = s.w ∧ e = upd (upd (upd e0 0 w0_0) 1 (iI a1)) 21 (.bool y7) ∧ Kp s0 s) (fun Gj7 Kj7 => ?_) ?_)
 ·
  rcases bft ((!r2) || (decide (a1 ≥ (a0.length : Int)))) with hb7 | hb7
  ·
   refine Yb hb7 ?_
   rw [if_pos hb7]
   refine Xk rfl (Xk rfl (Xk rfl (Xk rfl (Xk rfl (Xk rfl (Xc rfl ?_))))))
   exact Kj7 _ _ _ ⟨s3, _, rfl, (ue (ue (ue rfl rfl) rfl) rfl), (kp0.st p3 rfl)⟩
  refine Yb hb7 ?_
  rw [if_neg (by rw [hb7]; decide)]
  refine Yc w0_0 rfl (Xc rfl ?_)
  have K9 := kp0.st p3 rfl
  refine ix' (A0_0.kp K9) u50 z3 rfl (fun ad11 es11 h0_11 h1_11 he11 ce11 ia11 => ?_)
  obtain rfl := he11
  refine lc0' ce11 u3 rfl (Yn 41 rfl func83 rfl (spec_l5in.calls (at_ a0 a1) (1 : Int) (2 : Int) s3.w (mm [] s3)) (fun r13 s14 p14 n14 => ?_))
  refine Xc rfl (Xc rfl ?_)
  exact Kj7 _ _ _ ⟨s14, _, rfl, (ue (ue (ue rfl rfl) rfl) rfl), (K9.st p14 rfl)⟩
 rintro y7 _ _ ⟨s16, _, rfl, rfl, Ky7⟩
 refine dn (cd rfl (fun h17 => ?_) (fun h17 => ?_))
 ·
  exact sr (Xc rfl (dn (re rfl func106 rfl (Xu rfl Xe) rfl ⟨_, rfl, rfl, z.ky Ky7⟩)))
 refine sk (sr (Yc w0_0 rfl (Xc rfl ?_)))
 refine ix' (A0_0.kp Ky7) u50 z3 rfl (fun ad19 es19 h0_19 h1_19 he19 ce19 ia19 => ?_)
 obtain rfl := he19
 exact lc0' ce19 u3 rfl (Xc rfl (dn (re rfl func106 rfl (Xu rfl Xe) rfl ⟨_, rfl, rfl, z.ky Ky7⟩)))
def spec_Dead.f (a0 : (List Int)) (a1 : Int) (a2 : Int) (a3 : Int) : Option (Bool) :=
 ((spec_StatusOf.f a0 a1).bind fun r2 => ((if (r2 == (2 : Int)) = true then (some true) else ((spec_StatusOf.f a0 a2).bind fun r8 => (some ((r8 == (1 : Int)) && (decide (a2 < a3)))))).bind fun y4 => (some y4)))
def spec_Dead.Q (w : World) (F : Nat → Prop) (r : Bool) (v : Value) (w' : World) : Prop :=
 v = (.bool r) ∧ Ky [] w w'
theorem spec_Dead.calls (a0 : (List Int)) (a1 : Int) (a2 : Int) (a3 : Int) (w : World) (F : Nat → Prop) (w0_0 : Value) (h0_0 : Yv.rd w [w0_0] a0 F) (r : Bool) (m : spec_Dead.f a0 a1 a2 a3 = some r) :
  Calls prog 27 #[w0_0, (iI a1), (iI a2), (iI a3)] w (RT (spec_Dead.Q w F) r) := by
 obtain ⟨s0, rfl, kp0, z⟩ := Xl w F
 have A0_0 := z.rd h0_0
 refine Xd (args := [w0_0, (iI a1), (iI a2), (iI a3)]) func27 ntmps27 rfl m ?_
 unfold spec_Dead.f
 refine sr (Xc rfl (dn (sr (Yc w0_0 rfl (Xc rfl (Yn 40 rfl func106 rfl (spec_StatusOf.calls a0 a1 s0.w (mm [0] s0) w0_0 A0_0) (fun r2 s3 p3 n3 => ?_)))))))
 refine Xc rfl (Xc rfl (ji [15] (fun (y4 : Bool) e w => ∃ (s : St) (e0 : Env), w = s.w ∧ e = upd e0 23 (.bool y4) ∧ Kp s0 s) (fun Gj4 Kj4 => ?_) ?_))
 ·
  rcases bft (r2 == (2 : Int)) with hb4 | hb4
  ·
   refine Yb hb4 ?_
   rw [if_pos hb4]
   refine Xk rfl (Xk rfl (Xk rfl (Xk rfl (Xk rfl (Xk rfl (Xk rfl (Xk rfl (Xk rfl (Xc rfl ?_)))))))))
   exact Kj4 _ _ _ ⟨s3, _, rfl, (ue rfl rfl), (kp0.st p3 rfl)⟩
  refine Yb hb4 ?_
  rw [if_neg (by rw [hb4]; decide)]
  refine Yc w0_0 rfl (Xc rfl ?_)
  have K6 := kp0.st p3 rfl
  refine Yn 41 rfl func106 rfl (spec_StatusOf.calls a0 a2 s3.w (mm [0] s3) w0_0 (A0_0.kp K6)) (fun r8 s9 p9 n9 => ?_)
  refine Xc rfl (Xc rfl (jy [18, 19, 20, 21, 22] [14, 15] 22 (.bool ((r8 == (1 : Int)) && (decide (a2 < a3)))) rfl (fun Kg10 => ?_) (fun j10 => ?_)))
  ·
   rcases bft (r8 == (1 : Int)) with hb10 | hb10
   ·
    exact Yb hb10 (Xc rfl (Xc rfl (Xc rfl (Xc rfl (Kg10 _ (Ag.put ((Ag.put ((Ag.put ((Ag.put (Ag.base rfl) rfl)) rfl)) rfl)) rfl) (by rw [hb10]; rfl))))))
   exact Yb hb10 (Xk rfl (Xk rfl (Xk rfl (Xc rfl (Kg10 _ (Ag.put ((Ag.put ((Ag.put ((Ag.put (Ag.base rfl) rfl)) rfl)) rfl)) rfl) (by rw [hb10]; rfl))))))
  exact Xc rfl (Kj4 _ _ _ ⟨s9, _, rfl, (ue rfl rfl), (K6.st p9 rfl)⟩)
 rintro y4 _ _ ⟨s12, _, rfl, rfl, Ky4⟩
 exact Xc rfl (dn (re rfl func27 rfl (Xu rfl Xe) rfl ⟨_, rfl, rfl, z.ky Ky4⟩))
def spec_DrawTupleBytes.f (a0 : (List Int)) : Option (Tuple) :=
 ((spec_l1New.f a0).bind fun r6 => ((spec_l6tuple.f r6).bind fun r10 => ((spec_l1Once.f (l1Cur.mk r6.b r10.2.i r10.2.h) (8 : Int)).bind fun r23 => ((if r23.1 = true then ((spec_l3any.f (l1Cur.mk r6.b r23.2.i r23.2.h)).bind fun r30 => (some (r30.1.Kind, r30.1.N, r30.1.F, r30.1.T))) else (some (r10.1.Key.Kind, r10.1.Key.N, r10.1.Key.F, r10.1.Key.T))).bind fun y27 => (some (Tuple.mk r10.1.Xmin r10.1.Xmax (Item.mk y27.1 y27.2.1 y27.2.2.1 y27.2.2.2) r10.1.Value))))))
def spec_DrawTupleBytes.Q (w : World) (F : Nat → Prop) (r : Tuple) (v : Value) (w' : World) : Prop :=
 ∃ (v0 : Value) (v1 : Value) (v2 : Value) (v3 : Value), v = (.agg #[(iI r.Xmin), (iI r.Xmax), (iI r.Key.Kind), (iI r.Key.N), v0, v1, (iI r.Value.Kind), (iI r.Value.N), v2, v3]) ∧ FO kd31 w w' [(iI r.Xmin), (iI r.Xmax), (iI r.Key.Kind), (iI r.Key.N), v0, v1, (iI r.Value.Kind), (iI r.Value.N), v2, v3] r ∧ Ky [] w w'
theorem spec_DrawTupleBytes.calls (a0 : (List Int)) (w : World) (F : Nat → Prop) (w0_0 : Value) (h0_0 : Yr.rd w [w0_0] a0 F) (r : Tuple) (m : spec_DrawTupleBytes.f a0 = some r) :
  Calls prog 28 #[w0_0] w (RT (spec_DrawTupleBytes.Q w F) r) := by
 obtain ⟨s0, rfl, kp0, z⟩ := Xl w F
 refine Xd (args := [w0_0]) func28 ntmps28 rfl m ?_
 unfold spec_DrawTupleBytes.f
 refine sr (al' (cs := [(iI 0), (iI 0), (iI 0), (iI 0), (.float .f64 0), (.slice none 0 0), (iI 0), (iI 0), (.float .f64 0), (.slice none 0 0)]) 40 rfl o31 rfl (fun b2 s2 p2 B2 => ?_))
 refine dn (sr (Yc w0_0 rfl ?_))
 have K4 := kp0.st p2 rfl
 refine cl' rfl func67 rfl (spec_l1New.calls a0 s2.w (mm [0] s2) w0_0 ((z.rd h0_0).kp K4)) ?_
 rintro r6 _ w6 m6 ⟨v6_0, v6_1, rfl, f6_0, f6_1, ky6⟩
 obtain ⟨s7, rfl, p7, n7⟩ := nwx s2 w6 41 ky6
 have A6_0 := f6_0.c n7
 have A6_1 := f6_1.c n7
 refine Xc rfl (dn (sr (Xc rfl (cl' rfl func70 rfl (spec_l6tuple.calls r6 s7.w (mm [0] s7) v6_0 v6_1 A6_1 A6_0.w (A6_0.apart rfl)) ?_))))
 rintro r10 _ w10 m10 ⟨v10_0, v10_1, v10_2, v10_3, rfl, f10_0, bw10, ky10⟩
 obtain ⟨s11, rfl, p11, n11, g11⟩ := nwb 42 A6_0 ky10
 obtain ⟨s12, hw12, p12, hu10_0_0, Au10_0_1, hu10_0_2, Au10_0_3⟩ := ap31 43 (f10_0.c n11) rfl
 rw [hw12]
 refine al' (cs := [(iI 0), (iI 0), (iI 0), (iI 0), (.float .f64 0), (.slice none 0 0), (iI 0), (iI 0), (.float .f64 0), (.slice none 0 0)]) 44 rfl o31 rfl (fun b16 s16 p16 B16 => ?_)
 have A18 := Au10_0_3.st p16 rfl
 have A19 := Au10_0_1.st p16 rfl
 refine Xx (vs := [(iI r10.1.Xmin), (iI r10.1.Xmax), (iI r10.1.Key.Kind), (iI r10.1.Key.N), v10_0, v10_1, (iI r10.1.Value.Kind), (iI r10.1.Value.N), v10_2, v10_3]) B16 z31 rfl (Xb rfl (Xb rfl (Xb rfl (Xb rfl (Xb (FL.one hu10_0_0) (Xb A19.rd.one (Xb rfl (Xb rfl (Xb (FL.one hu10_0_2) (Xb A18.rd.one Xj)))))))))) rfl (fun s20 p20 B20 => ?_)
 refine dn (sq (sr (Xc rfl ?_)))
 have A22 := A6_1.st (Yo p11 p12 p16 p20) rfl
 have A24 := BlF.st (blf_mk bw10 g11) (Yi p12 p16 p20) rfl
 refine clB A24 rfl func72 rfl (spec_l1Once.calls (l1Cur.mk r6.b r10.2.i r10.2.h) (8 : Int) s20.w (mm [0] s20) v6_0 v6_1 A22 A24.w (A24.apart rfl)) (fun r23 s25 p25 B25 => ?_)
 refine dn (jc (fun (y27 : Int × Int × Nat × (List Int)) e w => ∃ (s : St) (e0 : Env) (vy27_0 uy27_0 : Value), w = s.w ∧ e = upd (upd e0 2 (pB b2)) 4 (pB b16) ∧ Kp s0 s ∧ OwF Yr s [vy27_0] y27.2.2.2 46 ∧ FL uy27_0 y27.2.2.1 ∧ BlF s b16 31 [(iI r10.1.Xmin), (iI r10.1.Xmax), (iI y27.1), (iI y27.2.1), uy27_0, vy27_0, (iI r10.1.Value.Kind), (iI r10.1.Value.N), v10_2, v10_3] 44 ∧ BlF s b2 31 [(iI 0), (iI 0), (iI 0), (iI 0), (.float .f64 0), (.slice none 0 0), (iI 0), (iI 0), (.float .f64 0), (.slice none 0 0)] 40 ∧ OwF Yr s [v10_3] r10.1.Value.T 43) (fun Gj27 Kj27 => ?_) ?_)
 ·
  refine cd rfl (fun h28 => ?_) (fun h28 => ?_)
  ·
   refine rg (Xc rfl ?_)
   refine cl' rfl func76 rfl (spec_l3any.calls (l1Cur.mk r6.b r23.2.i r23.2.h) s25.w (mm [0] s25) v6_0 v6_1 (A22.st p25 rfl) B25.w (B25.apart rfl)) ?_
   rintro r30 _ w30 m30 ⟨v30_0, v30_1, rfl, f30_0, bw30, ky30⟩
   obtain ⟨s31, rfl, p31, n31, g31⟩ := nwb 47 B25 ky30
   obtain ⟨hu30_0_0, Au30_0_1⟩ := ap29 (f30_0.c n31)
   refine Ye fa31_2 rfl (Xx (vs := [(iI r30.1.Kind), (iI r30.1.N), v30_0, v30_1]) (B20.st (Xn p25 p31) rfl) z29 rfl (Xb rfl (Xb rfl (Xb (FL.one hu30_0_0) (Xb Au30_0_1.rd.one Xj)))) rfl (fun s35 p35 B35 => ?_))
   refine dn ?_
   obtain ⟨s38, hw38, p38, A38⟩ := (Au30_0_1.st p35 rfl).rc 46 rfl
   rw [hw38]
   exact Kj27 _ _ _ ⟨s38, _, v30_1, v30_0, rfl, (ue (ue rfl rfl) rfl), (K4.st (tr9 p7 p11 p12 p16 p20 p25 p31 p35 p38) rfl), A38, hu30_0_0, (B35.st p38 rfl), (B2.st (tr9 p7 p11 p12 p16 p20 p25 p31 p35 p38) rfl), (A18.st (tr5 p20 p25 p31 p35 p38) rfl)⟩
  refine sk ?_
  obtain ⟨s44, hw44, p44, A44⟩ := (A19.st (Xn p20 p25) rfl).rc 46 rfl
  rw [hw44]
  exact Kj27 _ _ _ ⟨s44, _, v10_1, v10_0, rfl, (ue (ue rfl rfl) rfl), (K4.st (tr7 p7 p11 p12 p16 p20 p25 p44) rfl), A44, hu10_0_0, (B20.st (Xn p25 p44) rfl), (B2.st (tr7 p7 p11 p12 p16 p20 p25 p44) rfl), (A18.st (Yi p20 p25 p44) rfl)⟩
 rintro y27 _ _ ⟨s49, _, vy27_0, uy27_0, rfl, rfl, Ky27, Ay27_0, Fy27_0, By27_b16, By27_b2, Cy27_14⟩
 refine sr (Ya (es := [(iI r10.1.Xmin), (iI r10.1.Xmax), (iI y27.1), (iI y27.2.1), uy27_0, vy27_0, (iI r10.1.Value.Kind), (iI r10.1.Value.N), v10_2, v10_3]) By27_b16 u31 z31 rfl (Xx (vs := [(iI r10.1.Xmin), (iI r10.1.Xmax), (iI y27.1), (iI y27.2.1), uy27_0, vy27_0, (iI r10.1.Value.Kind), (iI r10.1.Value.N), v10_2, v10_3]) By27_b2 z31 rfl (Xb rfl (Xb rfl (Xb rfl (Xb rfl (Xb (FL.one Fy27_0) (Xb Ay27_0.rd.one (Xb rfl (Xb rfl (Xb (FL.one hu10_0_2) (Xb Cy27_14.rd.one Xj)))))))))) rfl (fun s53 p53 B53 => ?_)))
 refine dn ?_
 obtain ⟨s57, hw57, p57, A57⟩ := ow_2 (Xs (fun x : Item => (x.Kind, x.N, x.F, x.T)) (Item.mk y27.1 y27.2.1 y27.2.2.1 y27.2.2.2) (Xy (Xf .i64 y27.1) (Xy (Xf .i64 y27.2.1) (Xy (Xz Fy27_0) (Ay27_0.st p53 rfl))))) (Xs (fun x : Item => (x.Kind, x.N, x.F, x.T)) r10.1.Value (Xy (Xf .i64 r10.1.Value.Kind) (Xy (Xf .i64 r10.1.Value.N) (Xy (Xz hu10_0_2) (Cy27_14.st p53 rfl))))) rfl rfl
 rw [hw57]
 have A59 : OwF kd31 s57 [(iI r10.1.Xmin), (iI r10.1.Xmax), (iI y27.1), (iI y27.2.1), uy27_0, vy27_0, (iI r10.1.Value.Kind), (iI r10.1.Value.N), v10_2, v10_3] (Tuple.mk r10.1.Xmin r10.1.Xmax (Item.mk y27.1 y27.2.1 y27.2.2.1 y27.2.2.2) r10.1.Value) 46 := (Xs (fun x : Tuple => (x.Xmin, x.Xmax, x.Key, x.Value)) (Tuple.mk r10.1.Xmin r10.1.Xmax (Item.mk y27.1 y27.2.1 y27.2.2.1 y27.2.2.2) r10.1.Value) (Xy (Xf .i64 r10.1.Xmin) (Xy (Xf .i64 r10.1.Xmax) A57)))
 have K62 := Ky27.st (Xn p53 p57) rfl
 exact re rfl func28 rfl (r_b (B53.st p57 rfl) u31 rfl z31 rfl Xe) rfl ⟨_, rfl, uy27_0, vy27_0, v10_2, v10_3, rfl, A59.fo K62 rfl z.l, z.ky K62⟩
def impl_PagePlace_1.f (a0 : (List Int)) : Option (Bool) :=
 (some ((a0.length : Int) == (0 : Int)))
def impl_PagePlace_1.Q (w : World) (F : Nat → Prop) (r : Bool) (v : Value) (w' : World) : Prop :=
 v = (.bool r) ∧ Ky [] w w'
theorem impl_PagePlace_1.calls (a0 : (List Int)) (w : World) (F : Nat → Prop) (w0_0 : Value) (h0_0 : Yr.rd w [w0_0] a0 F) (r : Bool) (m : impl_PagePlace_1.f a0 = some r) :
  Calls prog 251 #[w0_0] w (RT (impl_PagePlace_1.Q w F) r) := by
 obtain ⟨s0, rfl, kp0, z⟩ := Xl w F
 refine Xd (args := [w0_0]) func251 ntmps251 rfl m ?_
 unfold impl_PagePlace_1.f
 exact sr (Xc rfl (dn (sr (Yc w0_0 rfl (ln' (z.rd h0_0) u22 rfl (Xc rfl (Xc rfl (dn (re rfl func251 rfl (Xu rfl Xe) rfl ⟨_, rfl, rfl, z.ky kp0⟩)))))))))
def impl_PagePlace.f (a0 : Page) (a1 : Int) : Option (Int) :=
 ((impl_PageUsed.f a0).bind fun r6 => ((if (decide (r6 < (0 : Int))) = true then (some true) else ((impl_within.f a1 (1 : Int) (92 : Int)).bind fun r11 => (some (!r11)))).bind fun y8 => (if y8 = true then (some (-1 : Int)) else ((slices_IndexFunc_byte_byte.f a0.Slots impl_PagePlace_1.f).bind fun r19 => (if ((decide (r19 ≥ (0 : Int))) && (decide ((IntKind.wrap .i64 (r6 + a1)) ≤ (240 : Int)))) = true then (some r19) else (if ((decide ((a0.Slots.length : Int) < (16 : Int))) && (decide ((IntKind.wrap .i64 ((IntKind.wrap .i64 (r6 + (1 : Int))) + a1)) ≤ (240 : Int)))) = true then (some (a0.Slots.length : Int)) else (some (-1 : Int))))))))
def impl_PagePlace.Q (w : World) (F : Nat → Prop) (r : Int) (v : Value) (w' : World) : Prop :=
 v = (iI r) ∧ Ky [] w w'
theorem impl_PagePlace.calls (a0 : Page) (a1 : Int) (w : World) (F : Nat → Prop) (w0_0 : Value) (h0_0 : (Kd.sl 22 Yr).rd w [w0_0] a0.Slots F) (r : Int) (m : impl_PagePlace.f a0 a1 = some r) :
  Calls prog 195 #[(.agg #[(iI a0.Lsn), w0_0]), (iI a1)] w (RT (impl_PagePlace.Q w F) r) := by
 obtain ⟨s0, rfl, kp0, z⟩ := Xl w F
 have A0_0 := z.rd h0_0
 refine Xd (args := [(.agg #[(iI a0.Lsn), w0_0]), (iI a1)]) func195 ntmps195 rfl m ?_
 unfold impl_PagePlace.f
 refine sr (bx' (cs := [(iI a0.Lsn), w0_0]) 40 rfl rfl (fun b2 s2 p2 B2 => ?_))
 refine Xc rfl (dn (sr (Ya (es := [(iI a0.Lsn), w0_0]) B2 u116 z116 rfl ?_)))
 have K4 := kp0.st p2 rfl
 refine Yn 41 rfl func90 rfl (impl_PageUsed.calls a0 s2.w (mm [0] s2) w0_0 (A0_0.kp K4)) (fun r6 s7 p7 n7 => ?_)
 refine Xc rfl (dn (sq (sr (Xc rfl (Xc rfl (Xc rfl (ji [] (fun (y8 : Bool) e w => ∃ (s : St) (e0 : Env), w = s.w ∧ e = upd (upd (upd (upd e0 1 (iI a1)) 2 (pB b2)) 5 (iI r6)) 15 (.bool y8) ∧ Kp s0 s ∧ BlF s b2 116 [(iI a0.Lsn), w0_0] 40) (fun Gj8 Kj8 => ?_) ?_)))))))
 ·
  rcases bft (decide (r6 < (0 : Int))) with hb8 | hb8
  ·
   refine Yb hb8 ?_
   rw [if_pos hb8]
   refine Xk rfl (Xk rfl (Xk rfl (Xc rfl ?_)))
   exact Kj8 _ _ _ ⟨s7, _, rfl, (ue (ue (ue (ue rfl rfl) rfl) rfl) rfl), (K4.st p7 rfl), (B2.st p7 rfl)⟩
  refine Yb hb8 ?_
  rw [if_neg (by rw [hb8]; decide)]
  refine Xc rfl (Yn 42 rfl func94 rfl (impl_within.calls a1 (1 : Int) (92 : Int) s7.w (mm [] s7)) (fun r11 s12 p12 n12 => ?_))
  refine Xc rfl (Xc rfl ?_)
  exact Kj8 _ _ _ ⟨s12, _, rfl, (ue (ue (ue (ue rfl rfl) rfl) rfl) rfl), (K4.st (Xn p7 p12) rfl), (B2.st (Xn p7 p12) rfl)⟩
 rintro y8 _ _ ⟨s15, _, rfl, rfl, Ky8, By8_b2⟩
 refine dn (cd rfl (fun h17 => ?_) (fun h17 => ?_))
 ·
  exact sr (Xc rfl (dn (re rfl func195 rfl (Xu rfl Xe) rfl ⟨_, rfl, rfl, z.ky Ky8⟩)))
 refine sk (sr (Ye fa116_1 rfl (Yl By8_b2 u114 rfl ?_)))
 refine Yn 43 rfl func241 rfl (slices_IndexFunc_byte_byte.calls a0.Slots impl_PagePlace_1.f s15.w (mm [0] s15) w0_0 (.func (.func 251) #[] #[]) (A0_0.kp Ky8) (fun x0 u0_0 w' k h0 r m =>  ⟨251, _, _, [], [], rfl, func251, rfl, rfl, (impl_PagePlace_1.calls x0 w' (fun _ => True) u0_0 h0 r m).mono fun en w2 hq => by obtain ⟨v, e, q⟩ := hq; exact ⟨v, e, q⟩⟩) rfl) (fun r19 s20 p20 n20 => ?_)
 refine Xc rfl (dn (sq (bl (sr (Xc rfl (Xc rfl (Xc rfl (jy [22, 23, 24, 25, 26, 27] [8] 27 (.bool ((decide (r19 ≥ (0 : Int))) && (decide ((IntKind.wrap .i64 (r6 + a1)) ≤ (240 : Int))))) rfl (fun Kg21 => ?_) (fun j21 => ?_)))))))))
 ·
  rcases bft (decide (r19 ≥ (0 : Int))) with hb21 | hb21
  ·
   exact Yb hb21 (Xc rfl (Xc rfl (Xc rfl (Xc rfl (Xc rfl (Kg21 _ (Ag.put ((Ag.put ((Ag.put ((Ag.put ((Ag.put (Ag.base rfl) rfl)) rfl)) rfl)) rfl)) rfl) (by rw [hb21]; rfl)))))))
  exact Yb hb21 (Xk rfl (Xk rfl (Xk rfl (Xk rfl (Xc rfl (Kg21 _ (Ag.put ((Ag.put ((Ag.put ((Ag.put ((Ag.put (Ag.base rfl) rfl)) rfl)) rfl)) rfl)) rfl) (by rw [hb21]; rfl)))))))
 refine Xc rfl (dn (cd rfl (fun h22 => ?_) (fun h22 => ?_)))
 ·
  refine sr (Xc rfl (Xc rfl (dn ?_)))
  exact re rfl func195 rfl (Xu rfl Xe) rfl ⟨_, rfl, rfl, z.ky (Ky8.st p20 rfl)⟩
 refine sr (Ye fa116_1 rfl ?_)
 have A24 := By8_b2.st p20 rfl
 refine Yl A24 u114 rfl ?_
 have K25 := Ky8.st p20 rfl
 have A26 := A0_0.kp K25
 refine ln' A26 u114 rfl (Xc rfl (Xc rfl (jy [34, 35, 36, 37, 38, 39, 40] [11] 40 (.bool ((decide ((a0.Slots.length : Int) < (16 : Int))) && (decide ((IntKind.wrap .i64 ((IntKind.wrap .i64 (r6 + (1 : Int))) + a1)) ≤ (240 : Int))))) rfl (fun Kg27 => ?_) (fun j27 => ?_))))
 ·
  rcases bft (decide ((a0.Slots.length : Int) < (16 : Int))) with hb27 | hb27
  ·
   exact Yb hb27 (Xc rfl (Xc rfl (Xc rfl (Xc rfl (Xc rfl (Xc rfl (Kg27 _ (Ag.put ((Ag.put ((Ag.put ((Ag.put ((Ag.put ((Ag.put (Ag.base rfl) rfl)) rfl)) rfl)) rfl)) rfl)) rfl) (by rw [hb27]; rfl))))))))
  exact Yb hb27 (Xk rfl (Xk rfl (Xk rfl (Xk rfl (Xk rfl (Xc rfl (Kg27 _ (Ag.put ((Ag.put ((Ag.put ((Ag.put ((Ag.put ((Ag.put (Ag.base rfl) rfl)) rfl)) rfl)) rfl)) rfl)) rfl) (by rw [hb27]; rfl))))))))
 refine Xc rfl (dn (cd rfl (fun h28 => ?_) (fun h28 => ?_)))
 ·
  exact sr (Ye fa116_1 rfl (Yl A24 u114 rfl (ln' A26 u114 rfl (Xc rfl (dn (re rfl func195 rfl (Xu rfl Xe) rfl ⟨_, rfl, rfl, z.ky K25⟩))))))
 exact sk (ib (sr (Xc rfl (dn (re rfl func195 rfl (Xu rfl Xe) rfl ⟨_, rfl, rfl, z.ky K25⟩)))))
def impl_Heap_place.b0 (a0 : Heap) (a1 : Int) (x6 : Int) : Option (Int ⊕ (Int × Int)) :=
 (if (decide (x6 < (a0.Pages.length : Int))) = true then (if 0 ≤ x6 ∧ x6 < (a0.Pages.length : Int) then ((impl_PagePlace.f (at_ a0.Pages x6) a1).bind fun r20 => (if (decide (r20 ≥ (0 : Int))) = true then (some (Sum.inr (x6, r20))) else (some (Sum.inl (IntKind.wrap .i64 (x6 + (1 : Int))))))) else none) else ((if (decide ((a0.Pages.length : Int) < (16 : Int))) = true then (some ((a0.Pages.length : Int), (0 : Int))) else (some ((-1 : Int), (-1 : Int)))).bind fun o => some (Sum.inr o)))
def impl_Heap_place.f (a0 : Heap) (a1 : Int) : Option (Int × Int) :=
 (iter (impl_Heap_place.b0 a0 a1) (0 : Int))
def impl_Heap_place.Q (w : World) (F : Nat → Prop) (r : Int × Int) (v : Value) (w' : World) : Prop :=
 v = .tuple #[(iI r.1), (iI r.2)] ∧ Ky [] w w'
theorem impl_Heap_place.calls (a0 : Heap) (a1 : Int) (w : World) (F : Nat → Prop) (w0_0 : Value) (h0_0 : Yt.rd w [w0_0] a0.Pages F) (r : Int × Int) (m : impl_Heap_place.f a0 a1 = some r) :
  Calls prog 108 #[(.agg #[w0_0]), (iI a1)] w (RT (impl_Heap_place.Q w F) r) := by
 obtain ⟨s0, rfl, kp0, z⟩ := Xl w F
 have A0_0 := z.rd h0_0
 refine Xd (args := [(.agg #[w0_0]), (iI a1)]) func108 ntmps108 rfl m ?_
 unfold impl_Heap_place.f
 refine sr (bx' (cs := [w0_0]) 40 rfl rfl (fun b2 s2 p2 B2 => ?_))
 refine Xc rfl (Xc rfl (dn (sq (sr (Ye fa26_0 rfl (Yl B2 u24 rfl ?_))))))
 have K4 := kp0.st p2 rfl
 refine ln' (A0_0.kp K4) u24 rfl (Xc rfl (dn (bl (lpI (fun (x6 : Int) e w => ∃ (s : St) (e0 : Env), w = s.w ∧ e = upd (upd (upd (upd (upd e0 1 (iI a1)) 2 (pB b2)) 10 w0_0) 11 (iI (a0.Pages.length : Int))) 12 (iI x6) ∧ Kp s0 s ∧ BlF s b2 26 [w0_0] 40) ⟨s2, _, rfl, (ue (ue (ue (ue (ue rfl rfl) rfl) rfl) rfl) rfl), K4, B2⟩ (fun g6 ih6 => ?_)))))
 rintro x6 _ _ ⟨s7, _, rfl, rfl, Kx6, Bx6_b2⟩
 unfold impl_Heap_place.b0
 refine sr (Xc rfl (dn (sq (cd rfl (fun h9 => ?_) (fun h9 => ?_)))))
 ·
  refine sk (sq (bl (sr (Xc rfl ?_))))
  refine ix' (A0_0.kp Kx6) u24 z116 rfl (fun ad11 es11 h0_11 h1_11 he11 ce11 ia11 => ?_)
  obtain ⟨v11_0, rfl, A11_0⟩ := op116 he11
  refine lca ce11 u116 z116 rfl rfl rfl rfl rfl rfl rfl (al' (cs := [(iI 0), (.slice none 0 0)]) 41 rfl o116 rfl (fun b14 s14 p14 B14 => ?_))
  refine Xc rfl ?_
  have A16 := A11_0.st p14 rfl
  refine Xx (vs := [(iI ((at_ a0.Pages x6).Lsn)), v11_0]) B14 z116 rfl (Xb rfl (Xb A16.one Xj)) rfl (fun s17 p17 B17 => ?_)
  refine dn (sr (Ya (es := [(iI ((at_ a0.Pages x6).Lsn)), v11_0]) B17 u116 z116 rfl (Xc rfl ?_)))
  refine Yn 42 rfl func195 rfl (impl_PagePlace.calls (at_ a0.Pages x6) a1 s17.w (mm [0] s17) v11_0 (A16.st p17 rfl)) (fun r20 s21 p21 n21 => ?_)
  refine Xc rfl (dn (sr (Xc rfl (Xc rfl (dn (cd rfl (fun h22 => ?_) (fun h22 => ?_)))))))
  ·
   refine sr (Xc rfl (Xc rfl (Xc rfl (Xc rfl (dn (sgi ?_))))))
   exact re rfl func108 rfl (Xu rfl (Xu rfl Xe)) rfl ⟨_, rfl, rfl, z.ky (Kx6.st (Yi p14 p17 p21) rfl)⟩
  refine sk (ib (rg (Xc rfl (Xc rfl (dn ?_)))))
  exact lb ih6 ⟨s21, _, rfl, (ue (ue (ue (ue (ue rfl rfl) rfl) rfl) rfl) rfl), (Kx6.st (Yi p14 p17 p21) rfl), (Bx6_b2.st (Yi p14 p17 p21) rfl)⟩
 refine xt rfl (sgb (sq (sr (Ye fa26_0 rfl (Yl Bx6_b2 u24 rfl ?_)))))
 have A26 := A0_0.kp Kx6
 refine ln' A26 u24 rfl (Xc rfl (dn (cd rfl (fun h27 => ?_) (fun h27 => ?_))))
 ·
  exact sr (Ye fa26_0 rfl (Yl Bx6_b2 u24 rfl (ln' A26 u24 rfl (Xc rfl (Xc rfl (dn (re rfl func108 rfl (Xu rfl (Xu rfl Xe)) rfl ⟨_, rfl, rfl, z.ky Kx6⟩)))))))
 exact sk (sr (Xc rfl (Xc rfl (dn (re rfl func108 rfl (Xu rfl (Xu rfl Xe)) rfl ⟨_, rfl, rfl, z.ky Kx6⟩)))))
def impl_HeapPlace.f (a0 : Heap) (a1 : Int) : Option (Int × Int) :=
 ((impl_HeapOk.f a0).bind fun r6 => ((if (!r6) = true then (some true) else ((impl_within.f a1 (1 : Int) (92 : Int)).bind fun r11 => (some (!r11)))).bind fun y8 => (if y8 = true then (some ((-1 : Int), (-1 : Int))) else ((impl_Heap_place.f a0 a1).bind fun r19 => (some (r19.1, r19.2))))))
def impl_HeapPlace.Q (w : World) (F : Nat → Prop) (r : Int × Int) (v : Value) (w' : World) : Prop :=
 v = .tuple #[(iI r.1), (iI r.2)] ∧ Ky [] w w'
theorem impl_HeapPlace.calls (a0 : Heap) (a1 : Int) (w : World) (F : Nat → Prop) (w0_0 : Value) (h0_0 : Yt.rd w [w0_0] a0.Pages F) (r : Int × Int) (m : impl_HeapPlace.f a0 a1 = some r) :
  Calls prog 31 #[(.agg #[w0_0]), (iI a1)] w (RT (impl_HeapPlace.Q w F) r) := by
 obtain ⟨s0, rfl, kp0, z⟩ := Xl w F
 have A0_0 := z.rd h0_0
 refine Xd (args := [(.agg #[w0_0]), (iI a1)]) func31 ntmps31 rfl m ?_
 unfold impl_HeapPlace.f
 refine sr (bx' (cs := [w0_0]) 40 rfl rfl (fun b2 s2 p2 B2 => ?_))
 refine Xc rfl (Xc rfl (dn (sq (sr (Ya (es := [w0_0]) B2 u26 z26 rfl ?_)))))
 have K4 := kp0.st p2 rfl
 refine Yn 41 rfl func17 rfl (impl_HeapOk.calls a0 s2.w (mm [0] s2) w0_0 (A0_0.kp K4)) (fun r6 s7 p7 n7 => ?_)
 refine Xc rfl (Xc rfl (ji [] (fun (y8 : Bool) e w => ∃ (s : St) (e0 : Env), w = s.w ∧ e = upd (upd (upd e0 1 (iI a1)) 2 (pB b2)) 13 (.bool y8) ∧ Kp s0 s ∧ BlF s b2 26 [w0_0] 40) (fun Gj8 Kj8 => ?_) ?_))
 ·
  rcases bft (!r6) with hb8 | hb8
  ·
   refine Yb hb8 ?_
   rw [if_pos hb8]
   refine Xk rfl (Xk rfl (Xk rfl (Xc rfl ?_)))
   exact Kj8 _ _ _ ⟨s7, _, rfl, (ue (ue (ue rfl rfl) rfl) rfl), (K4.st p7 rfl), (B2.st p7 rfl)⟩
  refine Yb hb8 ?_
  rw [if_neg (by rw [hb8]; decide)]
  refine Xc rfl (Yn 42 rfl func94 rfl (impl_within.calls a1 (1 : Int) (92 : Int) s7.w (mm [] s7)) (fun r11 s12 p12 n12 => ?_))
  refine Xc rfl (Xc rfl ?_)
  exact Kj8 _ _ _ ⟨s12, _, rfl, (ue (ue (ue rfl rfl) rfl) rfl), (K4.st (Xn p7 p12) rfl), (B2.st (Xn p7 p12) rfl)⟩
 rintro y8 _ _ ⟨s15, _, rfl, rfl, Ky8, By8_b2⟩
 refine dn (cd rfl (fun h17 => ?_) (fun h17 => ?_))
 ·
  exact sr (Xc rfl (Xc rfl (dn (re rfl func31 rfl (Xu rfl (Xu rfl Xe)) rfl ⟨_, rfl, rfl, z.ky Ky8⟩))))
 refine sk (sr (Ya (es := [w0_0]) By8_b2 u26 z26 rfl (Xc rfl ?_)))
 refine Yn 43 rfl func108 rfl (impl_Heap_place.calls a0 a1 s15.w (mm [0] s15) w0_0 (A0_0.kp Ky8)) (fun r19 s20 p20 n20 => ?_)
 refine Xc (v := (iI r19.1)) rfl (Xc (v := (iI r19.2)) rfl (Xc rfl (Xc rfl (dn ?_))))
 exact re rfl func31 rfl (Xu rfl (Xu rfl Xe)) rfl ⟨_, rfl, rfl, z.ky (Ky8.st p20 rfl)⟩
end Go.Proofs.YtegicanjlefmdaaGreat
