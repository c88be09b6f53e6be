/- The functions as models, and that the calls come to what the models tell. -/
import Derived.Test.YtcagjdngannneaaGreatXsb
set_option linter.unusedVariables false
set_option linter.unusedSimpArgs false
namespace Go.Proofs.YtcagjdngannneaaGreat
open Go V
noncomputable def impl_TupleBytes.f (a0 : Tuple) : Option ((List Int)) :=
 ((impl_TupleOk.f a0).bind fun r8 => (if (!r8) = true then (some ([] : (List Int))) else ((impl_KeyBytes.f a0.Key).bind fun r24 => ((impl_ValueBytes.f a0.Value).bind fun r31 => (((impl_PutNum.f a0.Xmin (4 : Int)).bind fun r59 => ((impl_PutNum.f a0.Xmax (4 : Int)).bind fun r69 => (some (r59, r69, [(IntKind.wrap .u8 (r24.length : Int))], [(IntKind.wrap .u8 (r31.length : Int))])))).bind fun y51 => ((slices_Concat_byte_byte.f ([y51.1, y51.2.1, y51.2.2.1, r24, y51.2.2.2, r31])).bind fun r428 => (some r428)))))))
def impl_TupleBytes.Q (w : World) (F : Nat → Prop) (r : (List Int)) (v : Value) (w' : World) : Prop :=
 FO (Kd.sl 5 (Kd.int .u8)) w w' [v] r ∧ Ky [] w w'
set_option maxHeartbeats 4000000 in
set_option maxRecDepth 100000 in
theorem impl_TupleBytes.calls (a0 : Tuple) (w : World) (F : Nat → Prop) (w0_0 : Value) (w0_1 : Value) (w0_2 : Value) (w0_3 : Value) (h0_0 : Kd.flt.rd w [w0_0] a0.Key.F F) (h0_1 : (Kd.sl 5 (Kd.int .u8)).rd w [w0_1] a0.Key.T F) (h0_2 : Kd.flt.rd w [w0_2] a0.Value.F F) (h0_3 : (Kd.sl 5 (Kd.int .u8)).rd w [w0_3] a0.Value.T F) (r : (List Int)) (m : impl_TupleBytes.f a0 = some r) :
  Calls Tryz.prog 104 #[(.agg #[(.int .i64 a0.Xmin), (.int .i64 a0.Xmax), (.int .i64 a0.Key.Kind), (.int .i64 a0.Key.N), w0_0, w0_1, (.int .i64 a0.Value.Kind), (.int .i64 a0.Value.N), w0_2, w0_3])] w fun en w' => ∃ v, en = .returned v ∧ impl_TupleBytes.Q w F r v w' := by
 obtain ⟨s0, rfl, kp0, z⟩ := start0 w F
 have A0_0 := fl_of h0_0
 have A0_1 := z.rd h0_1
 have A0_2 := fl_of h0_2
 have A0_3 := z.rd h0_3
 refine calls_of_TM (args := [(.agg #[(.int .i64 a0.Xmin), (.int .i64 a0.Xmax), (.int .i64 a0.Key.Kind), (.int .i64 a0.Key.N), w0_0, w0_1, (.int .i64 a0.Value.Kind), (.int .i64 a0.Value.N), w0_2, w0_3])]) (R := fun r en w' => ∃ v, en = .returned v ∧ impl_TupleBytes.Q s0.w F r v w') Tryz.func104 Tryz.ntmps104 rfl rfl m ?_
 unfold impl_TupleBytes.f
 refine sr ?_
 refine bx (cs := [(.int .i64 a0.Xmin), (.int .i64 a0.Xmax), (.int .i64 a0.Key.Kind), (.int .i64 a0.Key.N), w0_0, w0_1, (.int .i64 a0.Value.Kind), (.int .i64 a0.Value.N), w0_2, w0_3]) 40 rfl rfl rfl rfl rfl rfl (fun b3 s3 p3 B3 => ?_)
 refine pu rfl rfl rfl rfl rfl ?_
 refine dn ?_
 refine sq ?_
 refine sr ?_
 refine lda (es := [(.int .i64 a0.Xmin), (.int .i64 a0.Xmax), (.int .i64 a0.Key.Kind), (.int .i64 a0.Key.N), w0_0, w0_1, (.int .i64 a0.Value.Kind), (.int .i64 a0.Value.N), w0_2, w0_3]) B3 Tryz.underlying58 z58 rfl rfl rfl rfl rfl rfl rfl rfl ?_
 have K5 := (kp0.st p3 rfl)
 have A6 := (A0_1.kp K5)
 have A7 := (A0_3.kp K5)
 refine cl rfl rfl rfl rfl rfl Tryz.func112 rfl rfl rfl (fun r8 m8 => impl_TupleOk.calls a0 s3.w (fun b => memb [0] (s3.g b) = true) w0_0 w0_1 w0_2 w0_3 ((fl_rdf (s := s3) A0_0).sub (D := [0]) rfl) A6 ((fl_rdf (s := s3) A0_2).sub (D := [0]) rfl) A7 r8 m8) ?_
 rintro r8 _ w8 m8 ⟨rfl, ky8⟩
 obtain ⟨s9, rfl, p9, n9⟩ := nwx s3 w8 41 ky8
 refine pu rfl rfl rfl rfl rfl ?_
 refine dn ?_
 refine cd rfl (fun h10 => ?_) (fun h10 => ?_)
 ·
  refine sr ?_
  refine pu rfl rfl rfl rfl rfl ?_
  refine dn ?_
  have K11 := (K5.st p9 rfl)
  exact re rfl Tryz.func104 rfl (r_t rfl r_nil) rfl ⟨_, rfl, (ow_nil 5 (Kd.int .u8) s9 40).fo K11 rfl z.l, z.ky K11⟩
 ·
  refine sk ?_
  refine sq ?_
  refine zdraw [[], [0], [1], [], [3], [4, 2], [2, 5, 0, 1, 2], [5, 6, 0, 1, 2, 3, 4, 5, 6]] [some 8, some 9, some 10, some 11, some 12, some 13, some 3, some 4] [[1], [8], [9], [1], [11], [12], [10], [13]] [0, 1, 2, 3, 4, 5, 6, 7] ⟨by kernel_rfl, by kernel_rfl, by kernel_rfl⟩ (by kernel_rfl) (fun s12 p12 l12 tb12 zd12 => ?_)
  have zd13 := zd12.add 0 8 (.pointer (some ⟨b3, 2, none⟩)) rfl
  have A14 := (BlF.st (BlF.st B3 p9 rfl) p12 rfl)
  have zd15 := zd13.add 1 9 (.agg #[(.int .i64 a0.Key.Kind), (.int .i64 a0.Key.N), w0_0, w0_1]) rfl
  have zd16 := zd15.add 3 11 (.pointer (some ⟨b3, 6, none⟩)) rfl
  have A17 := (BlF.st (BlF.st B3 p9 rfl) p12 rfl)
  have zd18 := zd16.add 4 12 (.agg #[(.int .i64 a0.Value.Kind), (.int .i64 a0.Value.N), w0_2, w0_3]) rfl
  have A20 := (BlF.st (BlF.st B3 p9 rfl) p12 rfl)
  have A21 := (BlF.st (BlF.st B3 p9 rfl) p12 rfl)
  refine zstep 2 [some 12, some 11] tb12 zd18 (pq_cons (lda_q (es := [(.int .i64 a0.Value.Kind), (.int .i64 a0.Value.N), w0_2, w0_3]) A21 Tryz.underlying33 z33 rfl rfl rfl rfl rfl rfl rfl rfl) rfl (pq_cons (fa_q fa58_3 rfl rfl rfl rfl rfl rfl) rfl (pq_cons (lda_q (es := [(.int .i64 a0.Key.Kind), (.int .i64 a0.Key.N), w0_0, w0_1]) A20 Tryz.underlying33 z33 rfl rfl rfl rfl rfl rfl rfl rfl) rfl (pq_cons (fa_q fa58_2 rfl rfl rfl rfl rfl rfl) rfl pq_nil)))) (by kernel_rfl) rfl (fun l19 e19 zd19 => ?_)
  have K22 := ((K5.st p9 rfl).st p12 rfl)
  have A23 := (A0_1.kp K22)
  refine cl rfl rfl rfl rfl rfl Tryz.func192 rfl rfl rfl (fun r24 m24 => impl_KeyBytes.calls a0.Key s12.w (fun b => memb [0] (s12.g b) = true) w0_0 w0_1 ((fl_rdf (s := s12) A0_0).sub (D := [0]) rfl) A23 r24 m24) ?_
  rintro r24 v24_0 w24 m24 ⟨f24_0, ky24⟩
  obtain ⟨s25, rfl, p25, n25⟩ := nwx s12 w24 42 ky24
  have A24_0 := f24_0.c n25
  refine zdone (L' := [4, 3]) (D' := [0, 1, 2]) zd19 rfl rfl rfl (fun zd27 => ?_)
  have A28 := (BlF.st (BlF.st (BlF.st B3 p9 rfl) p12 rfl) p25 rfl)
  refine zfin [5, 6, 7] tb12 zd27 (pq_cons (lda_q (es := [(.int .i64 a0.Value.Kind), (.int .i64 a0.Value.N), w0_2, w0_3]) A28 Tryz.underlying33 z33 rfl rfl rfl rfl rfl rfl rfl rfl) rfl (pq_cons (fa_q fa58_3 rfl rfl rfl rfl rfl rfl) rfl pq_nil)) (by kernel_rfl) (by decide) ?_
  have K29 := (K22.st p25 rfl)
  have A30 := (A0_3.kp K29)
  refine cl rfl rfl rfl rfl rfl Tryz.func193 rfl rfl rfl (fun r31 m31 => impl_ValueBytes.calls a0.Value s25.w (fun b => memb [0] (s25.g b) = true) w0_2 w0_3 ((fl_rdf (s := s25) A0_2).sub (D := [0]) rfl) A30 r31 m31) ?_
  rintro r31 v31_0 w31 m31 ⟨f31_0, ky31⟩
  obtain ⟨s32, rfl, p32, n32⟩ := nwx s25 w31 43 ky31
  have A31_0 := f31_0.c n32
  refine asg v24_0 rfl rfl rfl rfl rfl rfl ?_
  refine asg v31_0 rfl rfl rfl rfl rfl rfl ?_
  refine dn ?_
  refine sq ?_
  refine zdraw [[], [0], [1], [], [3], [4, 2], [], [6], [7], [8], [], [], [11], [12], [13], [], [2, 5, 9, 10, 14, 15], [16, 5], [17, 17, 0, 1, 2, 3, 4, 5, 6, 7, 8, 9, 10, 11, 12, 13, 14, 15, 16, 17]] [some 14, some 15, some 16, some 17, some 18, some 19, some 20, some 21, some 22, some 23, some 24, some 25, some 26, some 27, some 28, some 29, some 30, some 31, some 2] [[1], [14], [15], [1], [17], [18], [3], [20], [21], [22], [3], [4], [25], [26], [27], [4], [16, 19, 23, 24, 28, 29], [30], [31]] [0, 1, 2, 3, 4, 5, 6, 7, 8, 9, 10, 11, 12, 13, 14, 15, 16, 17, 18] ⟨by kernel_rfl, by kernel_rfl, by kernel_rfl⟩ (by kernel_rfl) (fun s34 p34 l34 tb34 zd34 => ?_)
  have zd35 := zd34.add 0 14 (.pointer (some ⟨b3, 0, none⟩)) rfl
  have A36 := (BlF.st (BlF.st (BlF.st (BlF.st (BlF.st B3 p9 rfl) p12 rfl) p25 rfl) p32 rfl) p34 rfl)
  have zd37 := zd35.add 1 15 (.int .i64 a0.Xmin) rfl
  have zd38 := zd37.add 3 17 (.pointer (some ⟨b3, 1, none⟩)) rfl
  have A39 := (BlF.st (BlF.st (BlF.st (BlF.st (BlF.st B3 p9 rfl) p12 rfl) p25 rfl) p32 rfl) p34 rfl)
  have zd40 := zd38.add 4 18 (.int .i64 a0.Xmax) rfl
  have zd41 := zd40.add 6 20 v24_0 rfl
  have A42 := ((A24_0.st p32 rfl).st p34 rfl)
  have zd43 := zd41.add 7 21 (.int .i64 (r24.length : Int)) rfl
  have zd44 := zd43.add 8 22 (.int .u8 (IntKind.wrap .u8 (r24.length : Int))) rfl
  have zd45 := zd44.add 10 24 v24_0 rfl
  have zd46 := zd45.add 11 25 v31_0 rfl
  have A47 := (A31_0.st p34 rfl)
  have zd48 := zd46.add 12 26 (.int .i64 (r31.length : Int)) rfl
  have zd49 := zd48.add 13 27 (.int .u8 (IntKind.wrap .u8 (r31.length : Int))) rfl
  have zd50 := zd49.add 15 29 v31_0 rfl
  refine ji [16, 17, 18] (fun (y51 : (List Int) × (List Int) × (List Int) × (List Int)) (e : Env) (w : World) => ∃ (s : St) (e0 : Env) (vy51_0 vy51_1 vy51_2 vy51_3 : Value), w = s.w ∧ e = upd (upd (upd (upd (upd (upd e0 16 vy51_0) 19 vy51_1) 23 vy51_2) 24 v24_0) 28 vy51_3) 29 v31_0 ∧ Kp s0 s ∧ OwF (Kd.sl 5 (Kd.int .u8)) s [vy51_0] y51.1 44 ∧ OwF (Kd.sl 5 (Kd.int .u8)) s [vy51_1] y51.2.1 45 ∧ OwF (Kd.sl 5 (Kd.int .u8)) s [vy51_2] y51.2.2.1 46 ∧ OwF (Kd.sl 5 (Kd.int .u8)) s [vy51_3] y51.2.2.2 47 ∧ OwF (Kd.sl 5 (Kd.int .u8)) s [v24_0] r24 42 ∧ OwF (Kd.sl 5 (Kd.int .u8)) s [v31_0] r31 43) (fun Gj51 Kj51 => ?_) ?_
  ·
   have A55 := (BlF.st (BlF.st (BlF.st (BlF.st (BlF.st B3 p9 rfl) p12 rfl) p25 rfl) p32 rfl) p34 rfl)
   have A56 := (BlF.st (BlF.st (BlF.st (BlF.st (BlF.st B3 p9 rfl) p12 rfl) p25 rfl) p32 rfl) p34 rfl)
   have A57 := ((A24_0.st p32 rfl).st p34 rfl)
   have A58 := (A31_0.st p34 rfl)
   refine zstep3 2 9 14 [some 29, some 27, some 26, some 25, some 24, some 22, some 21, some 20, some 18, some 17] [some 29, some 27, some 26, some 25, some 24, some 18, some 17, some 15, some 14] [some 29, some 24, some 22, some 21, some 20, some 18, some 17, some 15, some 14] tb34 zd50 (pq_cons (mv_q v31_0 rfl rfl rfl rfl rfl rfl) rfl (pq_cons (cv_q Tryz.underlying5 Tryz.underlying3 rfl rfl rfl rfl rfl rfl) rfl (pq_cons (ln_q A58.rd Tryz.underlying24 rfl rfl rfl rfl rfl rfl) rfl (pq_cons (mv_q v31_0 rfl rfl rfl rfl rfl rfl) rfl (pq_cons (mv_q v24_0 rfl rfl rfl rfl rfl rfl) rfl (pq_cons (cv_q Tryz.underlying5 Tryz.underlying3 rfl rfl rfl rfl rfl rfl) rfl (pq_cons (ln_q A57.rd Tryz.underlying24 rfl rfl rfl rfl rfl rfl) rfl (pq_cons (mv_q v24_0 rfl rfl rfl rfl rfl rfl) rfl (pq_cons (ld_q A56 Tryz.underlying3 rfl rfl rfl rfl rfl rfl rfl rfl) rfl (pq_cons (fa_q fa58_1 rfl rfl rfl rfl rfl rfl) rfl (pq_cons (ld_q A55 Tryz.underlying3 rfl rfl rfl rfl rfl rfl rfl rfl) rfl (pq_cons (fa_q fa58_0 rfl rfl rfl rfl rfl rfl) rfl pq_nil)))))))))))) (by kernel_rfl) (by kernel_rfl) (fun l52 e52 zd52 => ?_) (fun l53 e53 zd53 => ?_) (fun l54 e54 zd54 => ?_)
   ·
    refine cl rfl rfl rfl rfl rfl Tryz.func195 rfl rfl rfl (fun r59 m59 => impl_PutNum.calls a0.Xmin (4 : Int) s34.w (fun b => memb [] (s34.g b) = true)  r59 m59) ?_
    rintro r59 v59_0 w59 m59 ⟨f59_0, ky59⟩
    obtain ⟨s60, rfl, p60, n60⟩ := nwx s34 w59 48 ky59
    have A59_0 := f59_0.c n60
    refine zdone (L' := [15, 13, 12, 11, 10, 8, 7, 6, 4, 3]) (D' := [0, 1, 2]) zd52 rfl rfl rfl (fun zd62 => ?_)
    have A66 := (BlF.st (BlF.st (BlF.st (BlF.st (BlF.st (BlF.st B3 p9 rfl) p12 rfl) p25 rfl) p32 rfl) p34 rfl) p60 rfl)
    have A67 := (((A24_0.st p32 rfl).st p34 rfl).st p60 rfl)
    have A68 := ((A31_0.st p34 rfl).st p60 rfl)
    refine zstep3 5 9 14 [some 29, some 27, some 26, some 25, some 24, some 22, some 21, some 20] [some 29, some 27, some 26, some 25, some 24, some 18, some 17] [some 29, some 24, some 22, some 21, some 20, some 18, some 17] tb34 zd62 (pq_cons (mv_q v31_0 rfl rfl rfl rfl rfl rfl) rfl (pq_cons (cv_q Tryz.underlying5 Tryz.underlying3 rfl rfl rfl rfl rfl rfl) rfl (pq_cons (ln_q A68.rd Tryz.underlying24 rfl rfl rfl rfl rfl rfl) rfl (pq_cons (mv_q v31_0 rfl rfl rfl rfl rfl rfl) rfl (pq_cons (mv_q v24_0 rfl rfl rfl rfl rfl rfl) rfl (pq_cons (cv_q Tryz.underlying5 Tryz.underlying3 rfl rfl rfl rfl rfl rfl) rfl (pq_cons (ln_q A67.rd Tryz.underlying24 rfl rfl rfl rfl rfl rfl) rfl (pq_cons (mv_q v24_0 rfl rfl rfl rfl rfl rfl) rfl (pq_cons (ld_q A66 Tryz.underlying3 rfl rfl rfl rfl rfl rfl rfl rfl) rfl (pq_cons (fa_q fa58_1 rfl rfl rfl rfl rfl rfl) rfl pq_nil)))))))))) (by kernel_rfl) (by kernel_rfl) (fun l63 e63 zd63 => ?_) (fun l64 e64 zd64 => ?_) (fun l65 e65 zd65 => ?_)
    ·
     refine cl rfl rfl rfl rfl rfl Tryz.func195 rfl rfl rfl (fun r69 m69 => impl_PutNum.calls a0.Xmax (4 : Int) s60.w (fun b => memb [] (s60.g b) = true)  r69 m69) ?_
     rintro r69 v69_0 w69 m69 ⟨f69_0, ky69⟩
     obtain ⟨s70, rfl, p70, n70⟩ := nwx s60 w69 49 ky69
     have A69_0 := f69_0.c n70
     refine zdone (L' := [15, 13, 12, 11, 10, 8, 7, 6]) (D' := [3, 4, 5, 0, 1, 2]) zd63 rfl rfl rfl (fun zd72 => ?_)
     have A75 := ((((A24_0.st p32 rfl).st p34 rfl).st p60 rfl).st p70 rfl)
     have A76 := (((A31_0.st p34 rfl).st p60 rfl).st p70 rfl)
     refine zstep2 9 14 [some 29, some 27, some 26, some 25, some 24] [some 29, some 24, some 22, some 21, some 20] tb34 zd72 (pq_cons (mv_q v31_0 rfl rfl rfl rfl rfl rfl) rfl (pq_cons (cv_q Tryz.underlying5 Tryz.underlying3 rfl rfl rfl rfl rfl rfl) rfl (pq_cons (ln_q A76.rd Tryz.underlying24 rfl rfl rfl rfl rfl rfl) rfl (pq_cons (mv_q v31_0 rfl rfl rfl rfl rfl rfl) rfl (pq_cons (mv_q v24_0 rfl rfl rfl rfl rfl rfl) rfl (pq_cons (cv_q Tryz.underlying5 Tryz.underlying3 rfl rfl rfl rfl rfl rfl) rfl (pq_cons (ln_q A75.rd Tryz.underlying24 rfl rfl rfl rfl rfl rfl) rfl (pq_cons (mv_q v24_0 rfl rfl rfl rfl rfl rfl) rfl pq_nil)))))))) (by kernel_rfl) (by kernel_rfl) (fun l73 e73 zd73 => ?_) (fun l74 e74 zd74 => ?_)
     ·
      refine ltF (K := (Kd.int .u8)) (cells := [(.int .u8 (IntKind.wrap .u8 (r24.length : Int)))]) [(IntKind.wrap .u8 (r24.length : Int))] 50 fl_int Tryz.underlying24 z5 o5 (fun w => (els_flat _ _ _)) rfl rfl rfl rfl rfl rfl rfl rfl rfl rfl (fun v77 s77 p77 A77 => ?_)
      refine zdone (L' := [15, 13, 12, 11, 10]) (D' := [6, 7, 8, 9, 3, 4, 5, 0, 1, 2]) zd73 rfl rfl rfl (fun zd79 => ?_)
      have A81 := ((((A31_0.st p34 rfl).st p60 rfl).st p70 rfl).st p77 rfl)
      refine zstep 14 [some 29, some 24] tb34 zd79 (pq_cons (mv_q v31_0 rfl rfl rfl rfl rfl rfl) rfl (pq_cons (cv_q Tryz.underlying5 Tryz.underlying3 rfl rfl rfl rfl rfl rfl) rfl (pq_cons (ln_q A81.rd Tryz.underlying24 rfl rfl rfl rfl rfl rfl) rfl (pq_cons (mv_q v31_0 rfl rfl rfl rfl rfl rfl) rfl (pq_cons (mv_q v24_0 rfl rfl rfl rfl rfl rfl) rfl pq_nil))))) (by kernel_rfl) rfl (fun l80 e80 zd80 => ?_)
      refine ltF (K := (Kd.int .u8)) (cells := [(.int .u8 (IntKind.wrap .u8 (r31.length : Int)))]) [(IntKind.wrap .u8 (r31.length : Int))] 51 fl_int Tryz.underlying24 z5 o5 (fun w => (els_flat _ _ _)) rfl rfl rfl rfl rfl rfl rfl rfl rfl rfl (fun v82 s82 p82 A82 => ?_)
      refine zdone (L' := [15, 10]) (D' := [11, 12, 13, 14, 6, 7, 8, 9, 3, 4, 5, 0, 1, 2]) zd80 rfl rfl rfl (fun zd84 => ?_)
      refine zfin [16, 17, 18] tb34 zd84 (pq_cons (mv_q v31_0 rfl rfl rfl rfl rfl rfl) rfl (pq_cons (mv_q v24_0 rfl rfl rfl rfl rfl rfl) rfl pq_nil)) (by kernel_rfl) (by decide) ?_
      have A85 := (((A59_0.st p70 rfl).st p77 rfl).st p82 rfl)
      obtain ⟨s86, hw86, p86, A86⟩ := A85.rc 44 rfl
      rw [hw86]
      have A87 := (((A69_0.st p77 rfl).st p82 rfl).st p86 rfl)
      obtain ⟨s88, hw88, p88, A88⟩ := A87.rc 45 rfl
      rw [hw88]
      have A89 := (((A77.st p82 rfl).st p86 rfl).st p88 rfl)
      obtain ⟨s90, hw90, p90, A90⟩ := A89.rc 46 rfl
      rw [hw90]
      have A91 := (((A82.st p86 rfl).st p88 rfl).st p90 rfl)
      obtain ⟨s92, hw92, p92, A92⟩ := A91.rc 47 rfl
      rw [hw92]
      have A93 := (((A86.st p88 rfl).st p90 rfl).st p92 rfl)
      have A94 := ((A88.st p90 rfl).st p92 rfl)
      have A95 := (A90.st p92 rfl)
      have A96 := ((((((((((A24_0.st p32 rfl).st p34 rfl).st p60 rfl).st p70 rfl).st p77 rfl).st p82 rfl).st p86 rfl).st p88 rfl).st p90 rfl).st p92 rfl)
      have A97 := (((((((((A31_0.st p34 rfl).st p60 rfl).st p70 rfl).st p77 rfl).st p82 rfl).st p86 rfl).st p88 rfl).st p90 rfl).st p92 rfl)
      have K98 := ((((((((((K29.st p32 rfl).st p34 rfl).st p60 rfl).st p70 rfl).st p77 rfl).st p82 rfl).st p86 rfl).st p88 rfl).st p90 rfl).st p92 rfl)
      exact Kj51 _ _ _ ⟨s92, _, v59_0, v69_0, v77, v82, rfl, (ue (ue (ue (ue (ue (ue rfl rfl) rfl) rfl) rfl) rfl) rfl), K98, A93, A94, A95, A92, A96, A97⟩
     ·
      refine ltF (K := (Kd.int .u8)) (cells := [(.int .u8 (IntKind.wrap .u8 (r31.length : Int)))]) [(IntKind.wrap .u8 (r31.length : Int))] 52 fl_int Tryz.underlying24 z5 o5 (fun w => (els_flat _ _ _)) rfl rfl rfl rfl rfl rfl rfl rfl rfl rfl (fun v99 s99 p99 A99 => ?_)
      refine zdone (L' := [15, 10, 8, 7, 6]) (D' := [11, 12, 13, 14, 3, 4, 5, 0, 1, 2]) zd74 rfl rfl rfl (fun zd101 => ?_)
      have A103 := (((((A24_0.st p32 rfl).st p34 rfl).st p60 rfl).st p70 rfl).st p99 rfl)
      refine zstep 9 [some 29, some 24] tb34 zd101 (pq_cons (mv_q v31_0 rfl rfl rfl rfl rfl rfl) rfl (pq_cons (mv_q v24_0 rfl rfl rfl rfl rfl rfl) rfl (pq_cons (cv_q Tryz.underlying5 Tryz.underlying3 rfl rfl rfl rfl rfl rfl) rfl (pq_cons (ln_q A103.rd Tryz.underlying24 rfl rfl rfl rfl rfl rfl) rfl (pq_cons (mv_q v24_0 rfl rfl rfl rfl rfl rfl) rfl pq_nil))))) (by kernel_rfl) rfl (fun l102 e102 zd102 => ?_)
      refine ltF (K := (Kd.int .u8)) (cells := [(.int .u8 (IntKind.wrap .u8 (r24.length : Int)))]) [(IntKind.wrap .u8 (r24.length : Int))] 53 fl_int Tryz.underlying24 z5 o5 (fun w => (els_flat _ _ _)) rfl rfl rfl rfl rfl rfl rfl rfl rfl rfl (fun v104 s104 p104 A104 => ?_)
      refine zdone (L' := [15, 10]) (D' := [6, 7, 8, 9, 11, 12, 13, 14, 3, 4, 5, 0, 1, 2]) zd102 rfl rfl rfl (fun zd106 => ?_)
      refine zfin [16, 17, 18] tb34 zd106 (pq_cons (mv_q v31_0 rfl rfl rfl rfl rfl rfl) rfl (pq_cons (mv_q v24_0 rfl rfl rfl rfl rfl rfl) rfl pq_nil)) (by kernel_rfl) (by decide) ?_
      have A107 := (((A59_0.st p70 rfl).st p99 rfl).st p104 rfl)
      obtain ⟨s108, hw108, p108, A108⟩ := A107.rc 44 rfl
      rw [hw108]
      have A109 := (((A69_0.st p99 rfl).st p104 rfl).st p108 rfl)
      obtain ⟨s110, hw110, p110, A110⟩ := A109.rc 45 rfl
      rw [hw110]
      have A111 := ((A104.st p108 rfl).st p110 rfl)
      obtain ⟨s112, hw112, p112, A112⟩ := A111.rc 46 rfl
      rw [hw112]
      have A113 := ((((A99.st p104 rfl).st p108 rfl).st p110 rfl).st p112 rfl)
      obtain ⟨s114, hw114, p114, A114⟩ := A113.rc 47 rfl
      rw [hw114]
      have A115 := (((A108.st p110 rfl).st p112 rfl).st p114 rfl)
      have A116 := ((A110.st p112 rfl).st p114 rfl)
      have A117 := (A112.st p114 rfl)
      have A118 := ((((((((((A24_0.st p32 rfl).st p34 rfl).st p60 rfl).st p70 rfl).st p99 rfl).st p104 rfl).st p108 rfl).st p110 rfl).st p112 rfl).st p114 rfl)
      have A119 := (((((((((A31_0.st p34 rfl).st p60 rfl).st p70 rfl).st p99 rfl).st p104 rfl).st p108 rfl).st p110 rfl).st p112 rfl).st p114 rfl)
      have K120 := ((((((((((K29.st p32 rfl).st p34 rfl).st p60 rfl).st p70 rfl).st p99 rfl).st p104 rfl).st p108 rfl).st p110 rfl).st p112 rfl).st p114 rfl)
      exact Kj51 _ _ _ ⟨s114, _, v59_0, v69_0, v104, v99, rfl, (ue (ue (ue (ue (ue (ue rfl rfl) rfl) rfl) rfl) rfl) rfl), K120, A115, A116, A117, A114, A118, A119⟩
    ·
     refine ltF (K := (Kd.int .u8)) (cells := [(.int .u8 (IntKind.wrap .u8 (r24.length : Int)))]) [(IntKind.wrap .u8 (r24.length : Int))] 54 fl_int Tryz.underlying24 z5 o5 (fun w => (els_flat _ _ _)) rfl rfl rfl rfl rfl rfl rfl rfl rfl rfl (fun v121 s121 p121 A121 => ?_)
     refine zdone (L' := [15, 13, 12, 11, 10, 4, 3]) (D' := [6, 7, 8, 9, 0, 1, 2]) zd64 rfl rfl rfl (fun zd123 => ?_)
     have A126 := (BlF.st (BlF.st (BlF.st (BlF.st (BlF.st (BlF.st (BlF.st B3 p9 rfl) p12 rfl) p25 rfl) p32 rfl) p34 rfl) p60 rfl) p121 rfl)
     have A127 := (((A31_0.st p34 rfl).st p60 rfl).st p121 rfl)
     refine zstep2 5 14 [some 29, some 27, some 26, some 25, some 24] [some 29, some 24, some 18, some 17] tb34 zd123 (pq_cons (mv_q v31_0 rfl rfl rfl rfl rfl rfl) rfl (pq_cons (cv_q Tryz.underlying5 Tryz.underlying3 rfl rfl rfl rfl rfl rfl) rfl (pq_cons (ln_q A127.rd Tryz.underlying24 rfl rfl rfl rfl rfl rfl) rfl (pq_cons (mv_q v31_0 rfl rfl rfl rfl rfl rfl) rfl (pq_cons (mv_q v24_0 rfl rfl rfl rfl rfl rfl) rfl (pq_cons (ld_q A126 Tryz.underlying3 rfl rfl rfl rfl rfl rfl rfl rfl) rfl (pq_cons (fa_q fa58_1 rfl rfl rfl rfl rfl rfl) rfl pq_nil))))))) (by kernel_rfl) (by kernel_rfl) (fun l124 e124 zd124 => ?_) (fun l125 e125 zd125 => ?_)
     ·
      refine cl rfl rfl rfl rfl rfl Tryz.func195 rfl rfl rfl (fun r128 m128 => impl_PutNum.calls a0.Xmax (4 : Int) s121.w (fun b => memb [] (s121.g b) = true)  r128 m128) ?_
      rintro r128 v128_0 w128 m128 ⟨f128_0, ky128⟩
      obtain ⟨s129, rfl, p129, n129⟩ := nwx s121 w128 55 ky128
      have A128_0 := f128_0.c n129
      refine zdone (L' := [15, 13, 12, 11, 10]) (D' := [3, 4, 5, 6, 7, 8, 9, 0, 1, 2]) zd124 rfl rfl rfl (fun zd131 => ?_)
      have A133 := ((((A31_0.st p34 rfl).st p60 rfl).st p121 rfl).st p129 rfl)
      refine zstep 14 [some 29, some 24] tb34 zd131 (pq_cons (mv_q v31_0 rfl rfl rfl rfl rfl rfl) rfl (pq_cons (cv_q Tryz.underlying5 Tryz.underlying3 rfl rfl rfl rfl rfl rfl) rfl (pq_cons (ln_q A133.rd Tryz.underlying24 rfl rfl rfl rfl rfl rfl) rfl (pq_cons (mv_q v31_0 rfl rfl rfl rfl rfl rfl) rfl (pq_cons (mv_q v24_0 rfl rfl rfl rfl rfl rfl) rfl pq_nil))))) (by kernel_rfl) rfl (fun l132 e132 zd132 => ?_)
      refine ltF (K := (Kd.int .u8)) (cells := [(.int .u8 (IntKind.wrap .u8 (r31.length : Int)))]) [(IntKind.wrap .u8 (r31.length : Int))] 56 fl_int Tryz.underlying24 z5 o5 (fun w => (els_flat _ _ _)) rfl rfl rfl rfl rfl rfl rfl rfl rfl rfl (fun v134 s134 p134 A134 => ?_)
      refine zdone (L' := [15, 10]) (D' := [11, 12, 13, 14, 3, 4, 5, 6, 7, 8, 9, 0, 1, 2]) zd132 rfl rfl rfl (fun zd136 => ?_)
      refine zfin [16, 17, 18] tb34 zd136 (pq_cons (mv_q v31_0 rfl rfl rfl rfl rfl rfl) rfl (pq_cons (mv_q v24_0 rfl rfl rfl rfl rfl rfl) rfl pq_nil)) (by kernel_rfl) (by decide) ?_
      have A137 := (((A59_0.st p121 rfl).st p129 rfl).st p134 rfl)
      obtain ⟨s138, hw138, p138, A138⟩ := A137.rc 44 rfl
      rw [hw138]
      have A139 := ((A128_0.st p134 rfl).st p138 rfl)
      obtain ⟨s140, hw140, p140, A140⟩ := A139.rc 45 rfl
      rw [hw140]
      have A141 := ((((A121.st p129 rfl).st p134 rfl).st p138 rfl).st p140 rfl)
      obtain ⟨s142, hw142, p142, A142⟩ := A141.rc 46 rfl
      rw [hw142]
      have A143 := (((A134.st p138 rfl).st p140 rfl).st p142 rfl)
      obtain ⟨s144, hw144, p144, A144⟩ := A143.rc 47 rfl
      rw [hw144]
      have A145 := (((A138.st p140 rfl).st p142 rfl).st p144 rfl)
      have A146 := ((A140.st p142 rfl).st p144 rfl)
      have A147 := (A142.st p144 rfl)
      have A148 := ((((((((((A24_0.st p32 rfl).st p34 rfl).st p60 rfl).st p121 rfl).st p129 rfl).st p134 rfl).st p138 rfl).st p140 rfl).st p142 rfl).st p144 rfl)
      have A149 := (((((((((A31_0.st p34 rfl).st p60 rfl).st p121 rfl).st p129 rfl).st p134 rfl).st p138 rfl).st p140 rfl).st p142 rfl).st p144 rfl)
      have K150 := ((((((((((K29.st p32 rfl).st p34 rfl).st p60 rfl).st p121 rfl).st p129 rfl).st p134 rfl).st p138 rfl).st p140 rfl).st p142 rfl).st p144 rfl)
      exact Kj51 _ _ _ ⟨s144, _, v59_0, v128_0, v121, v134, rfl, (ue (ue (ue (ue (ue (ue rfl rfl) rfl) rfl) rfl) rfl) rfl), K150, A145, A146, A147, A144, A148, A149⟩
     ·
      refine ltF (K := (Kd.int .u8)) (cells := [(.int .u8 (IntKind.wrap .u8 (r31.length : Int)))]) [(IntKind.wrap .u8 (r31.length : Int))] 57 fl_int Tryz.underlying24 z5 o5 (fun w => (els_flat _ _ _)) rfl rfl rfl rfl rfl rfl rfl rfl rfl rfl (fun v151 s151 p151 A151 => ?_)
      refine zdone (L' := [15, 10, 4, 3]) (D' := [11, 12, 13, 14, 6, 7, 8, 9, 0, 1, 2]) zd125 rfl rfl rfl (fun zd153 => ?_)
      have A155 := (BlF.st (BlF.st (BlF.st (BlF.st (BlF.st (BlF.st (BlF.st (BlF.st B3 p9 rfl) p12 rfl) p25 rfl) p32 rfl) p34 rfl) p60 rfl) p121 rfl) p151 rfl)
      refine zstep 5 [some 29, some 24] tb34 zd153 (pq_cons (mv_q v31_0 rfl rfl rfl rfl rfl rfl) rfl (pq_cons (mv_q v24_0 rfl rfl rfl rfl rfl rfl) rfl (pq_cons (ld_q A155 Tryz.underlying3 rfl rfl rfl rfl rfl rfl rfl rfl) rfl (pq_cons (fa_q fa58_1 rfl rfl rfl rfl rfl rfl) rfl pq_nil)))) (by kernel_rfl) rfl (fun l154 e154 zd154 => ?_)
      refine cl rfl rfl rfl rfl rfl Tryz.func195 rfl rfl rfl (fun r156 m156 => impl_PutNum.calls a0.Xmax (4 : Int) s151.w (fun b => memb [] (s151.g b) = true)  r156 m156) ?_
      rintro r156 v156_0 w156 m156 ⟨f156_0, ky156⟩
      obtain ⟨s157, rfl, p157, n157⟩ := nwx s151 w156 58 ky156
      have A156_0 := f156_0.c n157
      refine zdone (L' := [15, 10]) (D' := [3, 4, 5, 11, 12, 13, 14, 6, 7, 8, 9, 0, 1, 2]) zd154 rfl rfl rfl (fun zd159 => ?_)
      refine zfin [16, 17, 18] tb34 zd159 (pq_cons (mv_q v31_0 rfl rfl rfl rfl rfl rfl) rfl (pq_cons (mv_q v24_0 rfl rfl rfl rfl rfl rfl) rfl pq_nil)) (by kernel_rfl) (by decide) ?_
      have A160 := (((A59_0.st p121 rfl).st p151 rfl).st p157 rfl)
      obtain ⟨s161, hw161, p161, A161⟩ := A160.rc 44 rfl
      rw [hw161]
      have A162 := (A156_0.st p161 rfl)
      obtain ⟨s163, hw163, p163, A163⟩ := A162.rc 45 rfl
      rw [hw163]
      have A164 := ((((A121.st p151 rfl).st p157 rfl).st p161 rfl).st p163 rfl)
      obtain ⟨s165, hw165, p165, A165⟩ := A164.rc 46 rfl
      rw [hw165]
      have A166 := ((((A151.st p157 rfl).st p161 rfl).st p163 rfl).st p165 rfl)
      obtain ⟨s167, hw167, p167, A167⟩ := A166.rc 47 rfl
      rw [hw167]
      have A168 := (((A161.st p163 rfl).st p165 rfl).st p167 rfl)
      have A169 := ((A163.st p165 rfl).st p167 rfl)
      have A170 := (A165.st p167 rfl)
      have A171 := ((((((((((A24_0.st p32 rfl).st p34 rfl).st p60 rfl).st p121 rfl).st p151 rfl).st p157 rfl).st p161 rfl).st p163 rfl).st p165 rfl).st p167 rfl)
      have A172 := (((((((((A31_0.st p34 rfl).st p60 rfl).st p121 rfl).st p151 rfl).st p157 rfl).st p161 rfl).st p163 rfl).st p165 rfl).st p167 rfl)
      have K173 := ((((((((((K29.st p32 rfl).st p34 rfl).st p60 rfl).st p121 rfl).st p151 rfl).st p157 rfl).st p161 rfl).st p163 rfl).st p165 rfl).st p167 rfl)
      exact Kj51 _ _ _ ⟨s167, _, v59_0, v156_0, v121, v151, rfl, (ue (ue (ue (ue (ue (ue rfl rfl) rfl) rfl) rfl) rfl) rfl), K173, A168, A169, A170, A167, A171, A172⟩
    ·
     refine ltF (K := (Kd.int .u8)) (cells := [(.int .u8 (IntKind.wrap .u8 (r31.length : Int)))]) [(IntKind.wrap .u8 (r31.length : Int))] 59 fl_int Tryz.underlying24 z5 o5 (fun w => (els_flat _ _ _)) rfl rfl rfl rfl rfl rfl rfl rfl rfl rfl (fun v174 s174 p174 A174 => ?_)
     refine zdone (L' := [15, 10, 8, 7, 6, 4, 3]) (D' := [11, 12, 13, 14, 0, 1, 2]) zd65 rfl rfl rfl (fun zd176 => ?_)
     have A179 := (BlF.st (BlF.st (BlF.st (BlF.st (BlF.st (BlF.st (BlF.st B3 p9 rfl) p12 rfl) p25 rfl) p32 rfl) p34 rfl) p60 rfl) p174 rfl)
     have A180 := ((((A24_0.st p32 rfl).st p34 rfl).st p60 rfl).st p174 rfl)
     refine zstep2 5 9 [some 29, some 24, some 22, some 21, some 20] [some 29, some 24, some 18, some 17] tb34 zd176 (pq_cons (mv_q v31_0 rfl rfl rfl rfl rfl rfl) rfl (pq_cons (mv_q v24_0 rfl rfl rfl rfl rfl rfl) rfl (pq_cons (cv_q Tryz.underlying5 Tryz.underlying3 rfl rfl rfl rfl rfl rfl) rfl (pq_cons (ln_q A180.rd Tryz.underlying24 rfl rfl rfl rfl rfl rfl) rfl (pq_cons (mv_q v24_0 rfl rfl rfl rfl rfl rfl) rfl (pq_cons (ld_q A179 Tryz.underlying3 rfl rfl rfl rfl rfl rfl rfl rfl) rfl (pq_cons (fa_q fa58_1 rfl rfl rfl rfl rfl rfl) rfl pq_nil))))))) (by kernel_rfl) (by kernel_rfl) (fun l177 e177 zd177 => ?_) (fun l178 e178 zd178 => ?_)
     ·
      refine cl rfl rfl rfl rfl rfl Tryz.func195 rfl rfl rfl (fun r181 m181 => impl_PutNum.calls a0.Xmax (4 : Int) s174.w (fun b => memb [] (s174.g b) = true)  r181 m181) ?_
      rintro r181 v181_0 w181 m181 ⟨f181_0, ky181⟩
      obtain ⟨s182, rfl, p182, n182⟩ := nwx s174 w181 60 ky181
      have A181_0 := f181_0.c n182
      refine zdone (L' := [15, 10, 8, 7, 6]) (D' := [3, 4, 5, 11, 12, 13, 14, 0, 1, 2]) zd177 rfl rfl rfl (fun zd184 => ?_)
      have A186 := (((((A24_0.st p32 rfl).st p34 rfl).st p60 rfl).st p174 rfl).st p182 rfl)
      refine zstep 9 [some 29, some 24] tb34 zd184 (pq_cons (mv_q v31_0 rfl rfl rfl rfl rfl rfl) rfl (pq_cons (mv_q v24_0 rfl rfl rfl rfl rfl rfl) rfl (pq_cons (cv_q Tryz.underlying5 Tryz.underlying3 rfl rfl rfl rfl rfl rfl) rfl (pq_cons (ln_q A186.rd Tryz.underlying24 rfl rfl rfl rfl rfl rfl) rfl (pq_cons (mv_q v24_0 rfl rfl rfl rfl rfl rfl) rfl pq_nil))))) (by kernel_rfl) rfl (fun l185 e185 zd185 => ?_)
      refine ltF (K := (Kd.int .u8)) (cells := [(.int .u8 (IntKind.wrap .u8 (r24.length : Int)))]) [(IntKind.wrap .u8 (r24.length : Int))] 61 fl_int Tryz.underlying24 z5 o5 (fun w => (els_flat _ _ _)) rfl rfl rfl rfl rfl rfl rfl rfl rfl rfl (fun v187 s187 p187 A187 => ?_)
      refine zdone (L' := [15, 10]) (D' := [6, 7, 8, 9, 3, 4, 5, 11, 12, 13, 14, 0, 1, 2]) zd185 rfl rfl rfl (fun zd189 => ?_)
      refine zfin [16, 17, 18] tb34 zd189 (pq_cons (mv_q v31_0 rfl rfl rfl rfl rfl rfl) rfl (pq_cons (mv_q v24_0 rfl rfl rfl rfl rfl rfl) rfl pq_nil)) (by kernel_rfl) (by decide) ?_
      have A190 := (((A59_0.st p174 rfl).st p182 rfl).st p187 rfl)
      obtain ⟨s191, hw191, p191, A191⟩ := A190.rc 44 rfl
      rw [hw191]
      have A192 := ((A181_0.st p187 rfl).st p191 rfl)
      obtain ⟨s193, hw193, p193, A193⟩ := A192.rc 45 rfl
      rw [hw193]
      have A194 := ((A187.st p191 rfl).st p193 rfl)
      obtain ⟨s195, hw195, p195, A195⟩ := A194.rc 46 rfl
      rw [hw195]
      have A196 := (((((A174.st p182 rfl).st p187 rfl).st p191 rfl).st p193 rfl).st p195 rfl)
      obtain ⟨s197, hw197, p197, A197⟩ := A196.rc 47 rfl
      rw [hw197]
      have A198 := (((A191.st p193 rfl).st p195 rfl).st p197 rfl)
      have A199 := ((A193.st p195 rfl).st p197 rfl)
      have A200 := (A195.st p197 rfl)
      have A201 := ((((((((((A24_0.st p32 rfl).st p34 rfl).st p60 rfl).st p174 rfl).st p182 rfl).st p187 rfl).st p191 rfl).st p193 rfl).st p195 rfl).st p197 rfl)
      have A202 := (((((((((A31_0.st p34 rfl).st p60 rfl).st p174 rfl).st p182 rfl).st p187 rfl).st p191 rfl).st p193 rfl).st p195 rfl).st p197 rfl)
      have K203 := ((((((((((K29.st p32 rfl).st p34 rfl).st p60 rfl).st p174 rfl).st p182 rfl).st p187 rfl).st p191 rfl).st p193 rfl).st p195 rfl).st p197 rfl)
      exact Kj51 _ _ _ ⟨s197, _, v59_0, v181_0, v187, v174, rfl, (ue (ue (ue (ue (ue (ue rfl rfl) rfl) rfl) rfl) rfl) rfl), K203, A198, A199, A200, A197, A201, A202⟩
     ·
      refine ltF (K := (Kd.int .u8)) (cells := [(.int .u8 (IntKind.wrap .u8 (r24.length : Int)))]) [(IntKind.wrap .u8 (r24.length : Int))] 62 fl_int Tryz.underlying24 z5 o5 (fun w => (els_flat _ _ _)) rfl rfl rfl rfl rfl rfl rfl rfl rfl rfl (fun v204 s204 p204 A204 => ?_)
      refine zdone (L' := [15, 10, 4, 3]) (D' := [6, 7, 8, 9, 11, 12, 13, 14, 0, 1, 2]) zd178 rfl rfl rfl (fun zd206 => ?_)
      have A208 := (BlF.st (BlF.st (BlF.st (BlF.st (BlF.st (BlF.st (BlF.st (BlF.st B3 p9 rfl) p12 rfl) p25 rfl) p32 rfl) p34 rfl) p60 rfl) p174 rfl) p204 rfl)
      refine zstep 5 [some 29, some 24] tb34 zd206 (pq_cons (mv_q v31_0 rfl rfl rfl rfl rfl rfl) rfl (pq_cons (mv_q v24_0 rfl rfl rfl rfl rfl rfl) rfl (pq_cons (ld_q A208 Tryz.underlying3 rfl rfl rfl rfl rfl rfl rfl rfl) rfl (pq_cons (fa_q fa58_1 rfl rfl rfl rfl rfl rfl) rfl pq_nil)))) (by kernel_rfl) rfl (fun l207 e207 zd207 => ?_)
      refine cl rfl rfl rfl rfl rfl Tryz.func195 rfl rfl rfl (fun r209 m209 => impl_PutNum.calls a0.Xmax (4 : Int) s204.w (fun b => memb [] (s204.g b) = true)  r209 m209) ?_
      rintro r209 v209_0 w209 m209 ⟨f209_0, ky209⟩
      obtain ⟨s210, rfl, p210, n210⟩ := nwx s204 w209 63 ky209
      have A209_0 := f209_0.c n210
      refine zdone (L' := [15, 10]) (D' := [3, 4, 5, 6, 7, 8, 9, 11, 12, 13, 14, 0, 1, 2]) zd207 rfl rfl rfl (fun zd212 => ?_)
      refine zfin [16, 17, 18] tb34 zd212 (pq_cons (mv_q v31_0 rfl rfl rfl rfl rfl rfl) rfl (pq_cons (mv_q v24_0 rfl rfl rfl rfl rfl rfl) rfl pq_nil)) (by kernel_rfl) (by decide) ?_
      have A213 := (((A59_0.st p174 rfl).st p204 rfl).st p210 rfl)
      obtain ⟨s214, hw214, p214, A214⟩ := A213.rc 44 rfl
      rw [hw214]
      have A215 := (A209_0.st p214 rfl)
      obtain ⟨s216, hw216, p216, A216⟩ := A215.rc 45 rfl
      rw [hw216]
      have A217 := (((A204.st p210 rfl).st p214 rfl).st p216 rfl)
      obtain ⟨s218, hw218, p218, A218⟩ := A217.rc 46 rfl
      rw [hw218]
      have A219 := (((((A174.st p204 rfl).st p210 rfl).st p214 rfl).st p216 rfl).st p218 rfl)
      obtain ⟨s220, hw220, p220, A220⟩ := A219.rc 47 rfl
      rw [hw220]
      have A221 := (((A214.st p216 rfl).st p218 rfl).st p220 rfl)
      have A222 := ((A216.st p218 rfl).st p220 rfl)
      have A223 := (A218.st p220 rfl)
      have A224 := ((((((((((A24_0.st p32 rfl).st p34 rfl).st p60 rfl).st p174 rfl).st p204 rfl).st p210 rfl).st p214 rfl).st p216 rfl).st p218 rfl).st p220 rfl)
      have A225 := (((((((((A31_0.st p34 rfl).st p60 rfl).st p174 rfl).st p204 rfl).st p210 rfl).st p214 rfl).st p216 rfl).st p218 rfl).st p220 rfl)
      have K226 := ((((((((((K29.st p32 rfl).st p34 rfl).st p60 rfl).st p174 rfl).st p204 rfl).st p210 rfl).st p214 rfl).st p216 rfl).st p218 rfl).st p220 rfl)
      exact Kj51 _ _ _ ⟨s220, _, v59_0, v209_0, v204, v174, rfl, (ue (ue (ue (ue (ue (ue rfl rfl) rfl) rfl) rfl) rfl) rfl), K226, A221, A222, A223, A220, A224, A225⟩
   ·
    refine ltF (K := (Kd.int .u8)) (cells := [(.int .u8 (IntKind.wrap .u8 (r24.length : Int)))]) [(IntKind.wrap .u8 (r24.length : Int))] 64 fl_int Tryz.underlying24 z5 o5 (fun w => (els_flat _ _ _)) rfl rfl rfl rfl rfl rfl rfl rfl rfl rfl (fun v227 s227 p227 A227 => ?_)
    refine zdone (L' := [15, 13, 12, 11, 10, 4, 3, 1, 0]) (D' := [6, 7, 8, 9]) zd53 rfl rfl rfl (fun zd229 => ?_)
    have A232 := (BlF.st (BlF.st (BlF.st (BlF.st (BlF.st (BlF.st B3 p9 rfl) p12 rfl) p25 rfl) p32 rfl) p34 rfl) p227 rfl)
    have A233 := (BlF.st (BlF.st (BlF.st (BlF.st (BlF.st (BlF.st B3 p9 rfl) p12 rfl) p25 rfl) p32 rfl) p34 rfl) p227 rfl)
    have A234 := ((A31_0.st p34 rfl).st p227 rfl)
    refine zstep2 2 14 [some 29, some 27, some 26, some 25, some 24, some 18, some 17] [some 29, some 24, some 18, some 17, some 15, some 14] tb34 zd229 (pq_cons (mv_q v31_0 rfl rfl rfl rfl rfl rfl) rfl (pq_cons (cv_q Tryz.underlying5 Tryz.underlying3 rfl rfl rfl rfl rfl rfl) rfl (pq_cons (ln_q A234.rd Tryz.underlying24 rfl rfl rfl rfl rfl rfl) rfl (pq_cons (mv_q v31_0 rfl rfl rfl rfl rfl rfl) rfl (pq_cons (mv_q v24_0 rfl rfl rfl rfl rfl rfl) rfl (pq_cons (ld_q A233 Tryz.underlying3 rfl rfl rfl rfl rfl rfl rfl rfl) rfl (pq_cons (fa_q fa58_1 rfl rfl rfl rfl rfl rfl) rfl (pq_cons (ld_q A232 Tryz.underlying3 rfl rfl rfl rfl rfl rfl rfl rfl) rfl (pq_cons (fa_q fa58_0 rfl rfl rfl rfl rfl rfl) rfl pq_nil))))))))) (by kernel_rfl) (by kernel_rfl) (fun l230 e230 zd230 => ?_) (fun l231 e231 zd231 => ?_)
    ·
     refine cl rfl rfl rfl rfl rfl Tryz.func195 rfl rfl rfl (fun r235 m235 => impl_PutNum.calls a0.Xmin (4 : Int) s227.w (fun b => memb [] (s227.g b) = true)  r235 m235) ?_
     rintro r235 v235_0 w235 m235 ⟨f235_0, ky235⟩
     obtain ⟨s236, rfl, p236, n236⟩ := nwx s227 w235 65 ky235
     have A235_0 := f235_0.c n236
     refine zdone (L' := [15, 13, 12, 11, 10, 4, 3]) (D' := [0, 1, 2, 6, 7, 8, 9]) zd230 rfl rfl rfl (fun zd238 => ?_)
     have A241 := (BlF.st (BlF.st (BlF.st (BlF.st (BlF.st (BlF.st (BlF.st B3 p9 rfl) p12 rfl) p25 rfl) p32 rfl) p34 rfl) p227 rfl) p236 rfl)
     have A242 := (((A31_0.st p34 rfl).st p227 rfl).st p236 rfl)
     refine zstep2 5 14 [some 29, some 27, some 26, some 25, some 24] [some 29, some 24, some 18, some 17] tb34 zd238 (pq_cons (mv_q v31_0 rfl rfl rfl rfl rfl rfl) rfl (pq_cons (cv_q Tryz.underlying5 Tryz.underlying3 rfl rfl rfl rfl rfl rfl) rfl (pq_cons (ln_q A242.rd Tryz.underlying24 rfl rfl rfl rfl rfl rfl) rfl (pq_cons (mv_q v31_0 rfl rfl rfl rfl rfl rfl) rfl (pq_cons (mv_q v24_0 rfl rfl rfl rfl rfl rfl) rfl (pq_cons (ld_q A241 Tryz.underlying3 rfl rfl rfl rfl rfl rfl rfl rfl) rfl (pq_cons (fa_q fa58_1 rfl rfl rfl rfl rfl rfl) rfl pq_nil))))))) (by kernel_rfl) (by kernel_rfl) (fun l239 e239 zd239 => ?_) (fun l240 e240 zd240 => ?_)
     ·
      refine cl rfl rfl rfl rfl rfl Tryz.func195 rfl rfl rfl (fun r243 m243 => impl_PutNum.calls a0.Xmax (4 : Int) s236.w (fun b => memb [] (s236.g b) = true)  r243 m243) ?_
      rintro r243 v243_0 w243 m243 ⟨f243_0, ky243⟩
      obtain ⟨s244, rfl, p244, n244⟩ := nwx s236 w243 66 ky243
      have A243_0 := f243_0.c n244
      refine zdone (L' := [15, 13, 12, 11, 10]) (D' := [3, 4, 5, 0, 1, 2, 6, 7, 8, 9]) zd239 rfl rfl rfl (fun zd246 => ?_)
      have A248 := ((((A31_0.st p34 rfl).st p227 rfl).st p236 rfl).st p244 rfl)
      refine zstep 14 [some 29, some 24] tb34 zd246 (pq_cons (mv_q v31_0 rfl rfl rfl rfl rfl rfl) rfl (pq_cons (cv_q Tryz.underlying5 Tryz.underlying3 rfl rfl rfl rfl rfl rfl) rfl (pq_cons (ln_q A248.rd Tryz.underlying24 rfl rfl rfl rfl rfl rfl) rfl (pq_cons (mv_q v31_0 rfl rfl rfl rfl rfl rfl) rfl (pq_cons (mv_q v24_0 rfl rfl rfl rfl rfl rfl) rfl pq_nil))))) (by kernel_rfl) rfl (fun l247 e247 zd247 => ?_)
      refine ltF (K := (Kd.int .u8)) (cells := [(.int .u8 (IntKind.wrap .u8 (r31.length : Int)))]) [(IntKind.wrap .u8 (r31.length : Int))] 67 fl_int Tryz.underlying24 z5 o5 (fun w => (els_flat _ _ _)) rfl rfl rfl rfl rfl rfl rfl rfl rfl rfl (fun v249 s249 p249 A249 => ?_)
      refine zdone (L' := [15, 10]) (D' := [11, 12, 13, 14, 3, 4, 5, 0, 1, 2, 6, 7, 8, 9]) zd247 rfl rfl rfl (fun zd251 => ?_)
      refine zfin [16, 17, 18] tb34 zd251 (pq_cons (mv_q v31_0 rfl rfl rfl rfl rfl rfl) rfl (pq_cons (mv_q v24_0 rfl rfl rfl rfl rfl rfl) rfl pq_nil)) (by kernel_rfl) (by decide) ?_
      have A252 := ((A235_0.st p244 rfl).st p249 rfl)
      obtain ⟨s253, hw253, p253, A253⟩ := A252.rc 44 rfl
      rw [hw253]
      have A254 := ((A243_0.st p249 rfl).st p253 rfl)
      obtain ⟨s255, hw255, p255, A255⟩ := A254.rc 45 rfl
      rw [hw255]
      have A256 := (((((A227.st p236 rfl).st p244 rfl).st p249 rfl).st p253 rfl).st p255 rfl)
      obtain ⟨s257, hw257, p257, A257⟩ := A256.rc 46 rfl
      rw [hw257]
      have A258 := (((A249.st p253 rfl).st p255 rfl).st p257 rfl)
      obtain ⟨s259, hw259, p259, A259⟩ := A258.rc 47 rfl
      rw [hw259]
      have A260 := (((A253.st p255 rfl).st p257 rfl).st p259 rfl)
      have A261 := ((A255.st p257 rfl).st p259 rfl)
      have A262 := (A257.st p259 rfl)
      have A263 := ((((((((((A24_0.st p32 rfl).st p34 rfl).st p227 rfl).st p236 rfl).st p244 rfl).st p249 rfl).st p253 rfl).st p255 rfl).st p257 rfl).st p259 rfl)
      have A264 := (((((((((A31_0.st p34 rfl).st p227 rfl).st p236 rfl).st p244 rfl).st p249 rfl).st p253 rfl).st p255 rfl).st p257 rfl).st p259 rfl)
      have K265 := ((((((((((K29.st p32 rfl).st p34 rfl).st p227 rfl).st p236 rfl).st p244 rfl).st p249 rfl).st p253 rfl).st p255 rfl).st p257 rfl).st p259 rfl)
      exact Kj51 _ _ _ ⟨s259, _, v235_0, v243_0, v227, v249, rfl, (ue (ue (ue (ue (ue (ue rfl rfl) rfl) rfl) rfl) rfl) rfl), K265, A260, A261, A262, A259, A263, A264⟩
     ·
      refine ltF (K := (Kd.int .u8)) (cells := [(.int .u8 (IntKind.wrap .u8 (r31.length : Int)))]) [(IntKind.wrap .u8 (r31.length : Int))] 68 fl_int Tryz.underlying24 z5 o5 (fun w => (els_flat _ _ _)) rfl rfl rfl rfl rfl rfl rfl rfl rfl rfl (fun v266 s266 p266 A266 => ?_)
      refine zdone (L' := [15, 10, 4, 3]) (D' := [11, 12, 13, 14, 0, 1, 2, 6, 7, 8, 9]) zd240 rfl rfl rfl (fun zd268 => ?_)
      have A270 := (BlF.st (BlF.st (BlF.st (BlF.st (BlF.st (BlF.st (BlF.st (BlF.st B3 p9 rfl) p12 rfl) p25 rfl) p32 rfl) p34 rfl) p227 rfl) p236 rfl) p266 rfl)
      refine zstep 5 [some 29, some 24] tb34 zd268 (pq_cons (mv_q v31_0 rfl rfl rfl rfl rfl rfl) rfl (pq_cons (mv_q v24_0 rfl rfl rfl rfl rfl rfl) rfl (pq_cons (ld_q A270 Tryz.underlying3 rfl rfl rfl rfl rfl rfl rfl rfl) rfl (pq_cons (fa_q fa58_1 rfl rfl rfl rfl rfl rfl) rfl pq_nil)))) (by kernel_rfl) rfl (fun l269 e269 zd269 => ?_)
      refine cl rfl rfl rfl rfl rfl Tryz.func195 rfl rfl rfl (fun r271 m271 => impl_PutNum.calls a0.Xmax (4 : Int) s266.w (fun b => memb [] (s266.g b) = true)  r271 m271) ?_
      rintro r271 v271_0 w271 m271 ⟨f271_0, ky271⟩
      obtain ⟨s272, rfl, p272, n272⟩ := nwx s266 w271 69 ky271
      have A271_0 := f271_0.c n272
      refine zdone (L' := [15, 10]) (D' := [3, 4, 5, 11, 12, 13, 14, 0, 1, 2, 6, 7, 8, 9]) zd269 rfl rfl rfl (fun zd274 => ?_)
      refine zfin [16, 17, 18] tb34 zd274 (pq_cons (mv_q v31_0 rfl rfl rfl rfl rfl rfl) rfl (pq_cons (mv_q v24_0 rfl rfl rfl rfl rfl rfl) rfl pq_nil)) (by kernel_rfl) (by decide) ?_
      have A275 := ((A235_0.st p266 rfl).st p272 rfl)
      obtain ⟨s276, hw276, p276, A276⟩ := A275.rc 44 rfl
      rw [hw276]
      have A277 := (A271_0.st p276 rfl)
      obtain ⟨s278, hw278, p278, A278⟩ := A277.rc 45 rfl
      rw [hw278]
      have A279 := (((((A227.st p236 rfl).st p266 rfl).st p272 rfl).st p276 rfl).st p278 rfl)
      obtain ⟨s280, hw280, p280, A280⟩ := A279.rc 46 rfl
      rw [hw280]
      have A281 := ((((A266.st p272 rfl).st p276 rfl).st p278 rfl).st p280 rfl)
      obtain ⟨s282, hw282, p282, A282⟩ := A281.rc 47 rfl
      rw [hw282]
      have A283 := (((A276.st p278 rfl).st p280 rfl).st p282 rfl)
      have A284 := ((A278.st p280 rfl).st p282 rfl)
      have A285 := (A280.st p282 rfl)
      have A286 := ((((((((((A24_0.st p32 rfl).st p34 rfl).st p227 rfl).st p236 rfl).st p266 rfl).st p272 rfl).st p276 rfl).st p278 rfl).st p280 rfl).st p282 rfl)
      have A287 := (((((((((A31_0.st p34 rfl).st p227 rfl).st p236 rfl).st p266 rfl).st p272 rfl).st p276 rfl).st p278 rfl).st p280 rfl).st p282 rfl)
      have K288 := ((((((((((K29.st p32 rfl).st p34 rfl).st p227 rfl).st p236 rfl).st p266 rfl).st p272 rfl).st p276 rfl).st p278 rfl).st p280 rfl).st p282 rfl)
      exact Kj51 _ _ _ ⟨s282, _, v235_0, v271_0, v227, v266, rfl, (ue (ue (ue (ue (ue (ue rfl rfl) rfl) rfl) rfl) rfl) rfl), K288, A283, A284, A285, A282, A286, A287⟩
    ·
     refine ltF (K := (Kd.int .u8)) (cells := [(.int .u8 (IntKind.wrap .u8 (r31.length : Int)))]) [(IntKind.wrap .u8 (r31.length : Int))] 70 fl_int Tryz.underlying24 z5 o5 (fun w => (els_flat _ _ _)) rfl rfl rfl rfl rfl rfl rfl rfl rfl rfl (fun v289 s289 p289 A289 => ?_)
     refine zdone (L' := [15, 10, 4, 3, 1, 0]) (D' := [11, 12, 13, 14, 6, 7, 8, 9]) zd231 rfl rfl rfl (fun zd291 => ?_)
     have A293 := (BlF.st (BlF.st (BlF.st (BlF.st (BlF.st (BlF.st (BlF.st B3 p9 rfl) p12 rfl) p25 rfl) p32 rfl) p34 rfl) p227 rfl) p289 rfl)
     have A294 := (BlF.st (BlF.st (BlF.st (BlF.st (BlF.st (BlF.st (BlF.st B3 p9 rfl) p12 rfl) p25 rfl) p32 rfl) p34 rfl) p227 rfl) p289 rfl)
     refine zstep 2 [some 29, some 24, some 18, some 17] tb34 zd291 (pq_cons (mv_q v31_0 rfl rfl rfl rfl rfl rfl) rfl (pq_cons (mv_q v24_0 rfl rfl rfl rfl rfl rfl) rfl (pq_cons (ld_q A294 Tryz.underlying3 rfl rfl rfl rfl rfl rfl rfl rfl) rfl (pq_cons (fa_q fa58_1 rfl rfl rfl rfl rfl rfl) rfl (pq_cons (ld_q A293 Tryz.underlying3 rfl rfl rfl rfl rfl rfl rfl rfl) rfl (pq_cons (fa_q fa58_0 rfl rfl rfl rfl rfl rfl) rfl pq_nil)))))) (by kernel_rfl) rfl (fun l292 e292 zd292 => ?_)
     refine cl rfl rfl rfl rfl rfl Tryz.func195 rfl rfl rfl (fun r295 m295 => impl_PutNum.calls a0.Xmin (4 : Int) s289.w (fun b => memb [] (s289.g b) = true)  r295 m295) ?_
     rintro r295 v295_0 w295 m295 ⟨f295_0, ky295⟩
     obtain ⟨s296, rfl, p296, n296⟩ := nwx s289 w295 71 ky295
     have A295_0 := f295_0.c n296
     refine zdone (L' := [15, 10, 4, 3]) (D' := [0, 1, 2, 11, 12, 13, 14, 6, 7, 8, 9]) zd292 rfl rfl rfl (fun zd298 => ?_)
     have A300 := (BlF.st (BlF.st (BlF.st (BlF.st (BlF.st (BlF.st (BlF.st (BlF.st B3 p9 rfl) p12 rfl) p25 rfl) p32 rfl) p34 rfl) p227 rfl) p289 rfl) p296 rfl)
     refine zstep 5 [some 29, some 24] tb34 zd298 (pq_cons (mv_q v31_0 rfl rfl rfl rfl rfl rfl) rfl (pq_cons (mv_q v24_0 rfl rfl rfl rfl rfl rfl) rfl (pq_cons (ld_q A300 Tryz.underlying3 rfl rfl rfl rfl rfl rfl rfl rfl) rfl (pq_cons (fa_q fa58_1 rfl rfl rfl rfl rfl rfl) rfl pq_nil)))) (by kernel_rfl) rfl (fun l299 e299 zd299 => ?_)
     refine cl rfl rfl rfl rfl rfl Tryz.func195 rfl rfl rfl (fun r301 m301 => impl_PutNum.calls a0.Xmax (4 : Int) s296.w (fun b => memb [] (s296.g b) = true)  r301 m301) ?_
     rintro r301 v301_0 w301 m301 ⟨f301_0, ky301⟩
     obtain ⟨s302, rfl, p302, n302⟩ := nwx s296 w301 72 ky301
     have A301_0 := f301_0.c n302
     refine zdone (L' := [15, 10]) (D' := [3, 4, 5, 0, 1, 2, 11, 12, 13, 14, 6, 7, 8, 9]) zd299 rfl rfl rfl (fun zd304 => ?_)
     refine zfin [16, 17, 18] tb34 zd304 (pq_cons (mv_q v31_0 rfl rfl rfl rfl rfl rfl) rfl (pq_cons (mv_q v24_0 rfl rfl rfl rfl rfl rfl) rfl pq_nil)) (by kernel_rfl) (by decide) ?_
     have A305 := (A295_0.st p302 rfl)
     obtain ⟨s306, hw306, p306, A306⟩ := A305.rc 44 rfl
     rw [hw306]
     have A307 := (A301_0.st p306 rfl)
     obtain ⟨s308, hw308, p308, A308⟩ := A307.rc 45 rfl
     rw [hw308]
     have A309 := (((((A227.st p289 rfl).st p296 rfl).st p302 rfl).st p306 rfl).st p308 rfl)
     obtain ⟨s310, hw310, p310, A310⟩ := A309.rc 46 rfl
     rw [hw310]
     have A311 := (((((A289.st p296 rfl).st p302 rfl).st p306 rfl).st p308 rfl).st p310 rfl)
     obtain ⟨s312, hw312, p312, A312⟩ := A311.rc 47 rfl
     rw [hw312]
     have A313 := (((A306.st p308 rfl).st p310 rfl).st p312 rfl)
     have A314 := ((A308.st p310 rfl).st p312 rfl)
     have A315 := (A310.st p312 rfl)
     have A316 := ((((((((((A24_0.st p32 rfl).st p34 rfl).st p227 rfl).st p289 rfl).st p296 rfl).st p302 rfl).st p306 rfl).st p308 rfl).st p310 rfl).st p312 rfl)
     have A317 := (((((((((A31_0.st p34 rfl).st p227 rfl).st p289 rfl).st p296 rfl).st p302 rfl).st p306 rfl).st p308 rfl).st p310 rfl).st p312 rfl)
     have K318 := ((((((((((K29.st p32 rfl).st p34 rfl).st p227 rfl).st p289 rfl).st p296 rfl).st p302 rfl).st p306 rfl).st p308 rfl).st p310 rfl).st p312 rfl)
     exact Kj51 _ _ _ ⟨s312, _, v295_0, v301_0, v227, v289, rfl, (ue (ue (ue (ue (ue (ue rfl rfl) rfl) rfl) rfl) rfl) rfl), K318, A313, A314, A315, A312, A316, A317⟩
   ·
    refine ltF (K := (Kd.int .u8)) (cells := [(.int .u8 (IntKind.wrap .u8 (r31.length : Int)))]) [(IntKind.wrap .u8 (r31.length : Int))] 73 fl_int Tryz.underlying24 z5 o5 (fun w => (els_flat _ _ _)) rfl rfl rfl rfl rfl rfl rfl rfl rfl rfl (fun v319 s319 p319 A319 => ?_)
    refine zdone (L' := [15, 10, 8, 7, 6, 4, 3, 1, 0]) (D' := [11, 12, 13, 14]) zd54 rfl rfl rfl (fun zd321 => ?_)
    have A324 := (BlF.st (BlF.st (BlF.st (BlF.st (BlF.st (BlF.st B3 p9 rfl) p12 rfl) p25 rfl) p32 rfl) p34 rfl) p319 rfl)
    have A325 := (BlF.st (BlF.st (BlF.st (BlF.st (BlF.st (BlF.st B3 p9 rfl) p12 rfl) p25 rfl) p32 rfl) p34 rfl) p319 rfl)
    have A326 := (((A24_0.st p32 rfl).st p34 rfl).st p319 rfl)
    refine zstep2 2 9 [some 29, some 24, some 22, some 21, some 20, some 18, some 17] [some 29, some 24, some 18, some 17, some 15, some 14] tb34 zd321 (pq_cons (mv_q v31_0 rfl rfl rfl rfl rfl rfl) rfl (pq_cons (mv_q v24_0 rfl rfl rfl rfl rfl rfl) rfl (pq_cons (cv_q Tryz.underlying5 Tryz.underlying3 rfl rfl rfl rfl rfl rfl) rfl (pq_cons (ln_q A326.rd Tryz.underlying24 rfl rfl rfl rfl rfl rfl) rfl (pq_cons (mv_q v24_0 rfl rfl rfl rfl rfl rfl) rfl (pq_cons (ld_q A325 Tryz.underlying3 rfl rfl rfl rfl rfl rfl rfl rfl) rfl (pq_cons (fa_q fa58_1 rfl rfl rfl rfl rfl rfl) rfl (pq_cons (ld_q A324 Tryz.underlying3 rfl rfl rfl rfl rfl rfl rfl rfl) rfl (pq_cons (fa_q fa58_0 rfl rfl rfl rfl rfl rfl) rfl pq_nil))))))))) (by kernel_rfl) (by kernel_rfl) (fun l322 e322 zd322 => ?_) (fun l323 e323 zd323 => ?_)
    ·
     refine cl rfl rfl rfl rfl rfl Tryz.func195 rfl rfl rfl (fun r327 m327 => impl_PutNum.calls a0.Xmin (4 : Int) s319.w (fun b => memb [] (s319.g b) = true)  r327 m327) ?_
     rintro r327 v327_0 w327 m327 ⟨f327_0, ky327⟩
     obtain ⟨s328, rfl, p328, n328⟩ := nwx s319 w327 74 ky327
     have A327_0 := f327_0.c n328
     refine zdone (L' := [15, 10, 8, 7, 6, 4, 3]) (D' := [0, 1, 2, 11, 12, 13, 14]) zd322 rfl rfl rfl (fun zd330 => ?_)
     have A333 := (BlF.st (BlF.st (BlF.st (BlF.st (BlF.st (BlF.st (BlF.st B3 p9 rfl) p12 rfl) p25 rfl) p32 rfl) p34 rfl) p319 rfl) p328 rfl)
     have A334 := ((((A24_0.st p32 rfl).st p34 rfl).st p319 rfl).st p328 rfl)
     refine zstep2 5 9 [some 29, some 24, some 22, some 21, some 20] [some 29, some 24, some 18, some 17] tb34 zd330 (pq_cons (mv_q v31_0 rfl rfl rfl rfl rfl rfl) rfl (pq_cons (mv_q v24_0 rfl rfl rfl rfl rfl rfl) rfl (pq_cons (cv_q Tryz.underlying5 Tryz.underlying3 rfl rfl rfl rfl rfl rfl) rfl (pq_cons (ln_q A334.rd Tryz.underlying24 rfl rfl rfl rfl rfl rfl) rfl (pq_cons (mv_q v24_0 rfl rfl rfl rfl rfl rfl) rfl (pq_cons (ld_q A333 Tryz.underlying3 rfl rfl rfl rfl rfl rfl rfl rfl) rfl (pq_cons (fa_q fa58_1 rfl rfl rfl rfl rfl rfl) rfl pq_nil))))))) (by kernel_rfl) (by kernel_rfl) (fun l331 e331 zd331 => ?_) (fun l332 e332 zd332 => ?_)
     ·
      refine cl rfl rfl rfl rfl rfl Tryz.func195 rfl rfl rfl (fun r335 m335 => impl_PutNum.calls a0.Xmax (4 : Int) s328.w (fun b => memb [] (s328.g b) = true)  r335 m335) ?_
      rintro r335 v335_0 w335 m335 ⟨f335_0, ky335⟩
      obtain ⟨s336, rfl, p336, n336⟩ := nwx s328 w335 75 ky335
      have A335_0 := f335_0.c n336
      refine zdone (L' := [15, 10, 8, 7, 6]) (D' := [3, 4, 5, 0, 1, 2, 11, 12, 13, 14]) zd331 rfl rfl rfl (fun zd338 => ?_)
      have A340 := (((((A24_0.st p32 rfl).st p34 rfl).st p319 rfl).st p328 rfl).st p336 rfl)
      refine zstep 9 [some 29, some 24] tb34 zd338 (pq_cons (mv_q v31_0 rfl rfl rfl rfl rfl rfl) rfl (pq_cons (mv_q v24_0 rfl rfl rfl rfl rfl rfl) rfl (pq_cons (cv_q Tryz.underlying5 Tryz.underlying3 rfl rfl rfl rfl rfl rfl) rfl (pq_cons (ln_q A340.rd Tryz.underlying24 rfl rfl rfl rfl rfl rfl) rfl (pq_cons (mv_q v24_0 rfl rfl rfl rfl rfl rfl) rfl pq_nil))))) (by kernel_rfl) rfl (fun l339 e339 zd339 => ?_)
      refine ltF (K := (Kd.int .u8)) (cells := [(.int .u8 (IntKind.wrap .u8 (r24.length : Int)))]) [(IntKind.wrap .u8 (r24.length : Int))] 76 fl_int Tryz.underlying24 z5 o5 (fun w => (els_flat _ _ _)) rfl rfl rfl rfl rfl rfl rfl rfl rfl rfl (fun v341 s341 p341 A341 => ?_)
      refine zdone (L' := [15, 10]) (D' := [6, 7, 8, 9, 3, 4, 5, 0, 1, 2, 11, 12, 13, 14]) zd339 rfl rfl rfl (fun zd343 => ?_)
      refine zfin [16, 17, 18] tb34 zd343 (pq_cons (mv_q v31_0 rfl rfl rfl rfl rfl rfl) rfl (pq_cons (mv_q v24_0 rfl rfl rfl rfl rfl rfl) rfl pq_nil)) (by kernel_rfl) (by decide) ?_
      have A344 := ((A327_0.st p336 rfl).st p341 rfl)
      obtain ⟨s345, hw345, p345, A345⟩ := A344.rc 44 rfl
      rw [hw345]
      have A346 := ((A335_0.st p341 rfl).st p345 rfl)
      obtain ⟨s347, hw347, p347, A347⟩ := A346.rc 45 rfl
      rw [hw347]
      have A348 := ((A341.st p345 rfl).st p347 rfl)
      obtain ⟨s349, hw349, p349, A349⟩ := A348.rc 46 rfl
      rw [hw349]
      have A350 := ((((((A319.st p328 rfl).st p336 rfl).st p341 rfl).st p345 rfl).st p347 rfl).st p349 rfl)
      obtain ⟨s351, hw351, p351, A351⟩ := A350.rc 47 rfl
      rw [hw351]
      have A352 := (((A345.st p347 rfl).st p349 rfl).st p351 rfl)
      have A353 := ((A347.st p349 rfl).st p351 rfl)
      have A354 := (A349.st p351 rfl)
      have A355 := ((((((((((A24_0.st p32 rfl).st p34 rfl).st p319 rfl).st p328 rfl).st p336 rfl).st p341 rfl).st p345 rfl).st p347 rfl).st p349 rfl).st p351 rfl)
      have A356 := (((((((((A31_0.st p34 rfl).st p319 rfl).st p328 rfl).st p336 rfl).st p341 rfl).st p345 rfl).st p347 rfl).st p349 rfl).st p351 rfl)
      have K357 := ((((((((((K29.st p32 rfl).st p34 rfl).st p319 rfl).st p328 rfl).st p336 rfl).st p341 rfl).st p345 rfl).st p347 rfl).st p349 rfl).st p351 rfl)
      exact Kj51 _ _ _ ⟨s351, _, v327_0, v335_0, v341, v319, rfl, (ue (ue (ue (ue (ue (ue rfl rfl) rfl) rfl) rfl) rfl) rfl), K357, A352, A353, A354, A351, A355, A356⟩
     ·
      refine ltF (K := (Kd.int .u8)) (cells := [(.int .u8 (IntKind.wrap .u8 (r24.length : Int)))]) [(IntKind.wrap .u8 (r24.length : Int))] 77 fl_int Tryz.underlying24 z5 o5 (fun w => (els_flat _ _ _)) rfl rfl rfl rfl rfl rfl rfl rfl rfl rfl (fun v358 s358 p358 A358 => ?_)
      refine zdone (L' := [15, 10, 4, 3]) (D' := [6, 7, 8, 9, 0, 1, 2, 11, 12, 13, 14]) zd332 rfl rfl rfl (fun zd360 => ?_)
      have A362 := (BlF.st (BlF.st (BlF.st (BlF.st (BlF.st (BlF.st (BlF.st (BlF.st B3 p9 rfl) p12 rfl) p25 rfl) p32 rfl) p34 rfl) p319 rfl) p328 rfl) p358 rfl)
      refine zstep 5 [some 29, some 24] tb34 zd360 (pq_cons (mv_q v31_0 rfl rfl rfl rfl rfl rfl) rfl (pq_cons (mv_q v24_0 rfl rfl rfl rfl rfl rfl) rfl (pq_cons (ld_q A362 Tryz.underlying3 rfl rfl rfl rfl rfl rfl rfl rfl) rfl (pq_cons (fa_q fa58_1 rfl rfl rfl rfl rfl rfl) rfl pq_nil)))) (by kernel_rfl) rfl (fun l361 e361 zd361 => ?_)
      refine cl rfl rfl rfl rfl rfl Tryz.func195 rfl rfl rfl (fun r363 m363 => impl_PutNum.calls a0.Xmax (4 : Int) s358.w (fun b => memb [] (s358.g b) = true)  r363 m363) ?_
      rintro r363 v363_0 w363 m363 ⟨f363_0, ky363⟩
      obtain ⟨s364, rfl, p364, n364⟩ := nwx s358 w363 78 ky363
      have A363_0 := f363_0.c n364
      refine zdone (L' := [15, 10]) (D' := [3, 4, 5, 6, 7, 8, 9, 0, 1, 2, 11, 12, 13, 14]) zd361 rfl rfl rfl (fun zd366 => ?_)
      refine zfin [16, 17, 18] tb34 zd366 (pq_cons (mv_q v31_0 rfl rfl rfl rfl rfl rfl) rfl (pq_cons (mv_q v24_0 rfl rfl rfl rfl rfl rfl) rfl pq_nil)) (by kernel_rfl) (by decide) ?_
      have A367 := ((A327_0.st p358 rfl).st p364 rfl)
      obtain ⟨s368, hw368, p368, A368⟩ := A367.rc 44 rfl
      rw [hw368]
      have A369 := (A363_0.st p368 rfl)
      obtain ⟨s370, hw370, p370, A370⟩ := A369.rc 45 rfl
      rw [hw370]
      have A371 := (((A358.st p364 rfl).st p368 rfl).st p370 rfl)
      obtain ⟨s372, hw372, p372, A372⟩ := A371.rc 46 rfl
      rw [hw372]
      have A373 := ((((((A319.st p328 rfl).st p358 rfl).st p364 rfl).st p368 rfl).st p370 rfl).st p372 rfl)
      obtain ⟨s374, hw374, p374, A374⟩ := A373.rc 47 rfl
      rw [hw374]
      have A375 := (((A368.st p370 rfl).st p372 rfl).st p374 rfl)
      have A376 := ((A370.st p372 rfl).st p374 rfl)
      have A377 := (A372.st p374 rfl)
      have A378 := ((((((((((A24_0.st p32 rfl).st p34 rfl).st p319 rfl).st p328 rfl).st p358 rfl).st p364 rfl).st p368 rfl).st p370 rfl).st p372 rfl).st p374 rfl)
      have A379 := (((((((((A31_0.st p34 rfl).st p319 rfl).st p328 rfl).st p358 rfl).st p364 rfl).st p368 rfl).st p370 rfl).st p372 rfl).st p374 rfl)
      have K380 := ((((((((((K29.st p32 rfl).st p34 rfl).st p319 rfl).st p328 rfl).st p358 rfl).st p364 rfl).st p368 rfl).st p370 rfl).st p372 rfl).st p374 rfl)
      exact Kj51 _ _ _ ⟨s374, _, v327_0, v363_0, v358, v319, rfl, (ue (ue (ue (ue (ue (ue rfl rfl) rfl) rfl) rfl) rfl) rfl), K380, A375, A376, A377, A374, A378, A379⟩
    ·
     refine ltF (K := (Kd.int .u8)) (cells := [(.int .u8 (IntKind.wrap .u8 (r24.length : Int)))]) [(IntKind.wrap .u8 (r24.length : Int))] 79 fl_int Tryz.underlying24 z5 o5 (fun w => (els_flat _ _ _)) rfl rfl rfl rfl rfl rfl rfl rfl rfl rfl (fun v381 s381 p381 A381 => ?_)
     refine zdone (L' := [15, 10, 4, 3, 1, 0]) (D' := [6, 7, 8, 9, 11, 12, 13, 14]) zd323 rfl rfl rfl (fun zd383 => ?_)
     have A385 := (BlF.st (BlF.st (BlF.st (BlF.st (BlF.st (BlF.st (BlF.st B3 p9 rfl) p12 rfl) p25 rfl) p32 rfl) p34 rfl) p319 rfl) p381 rfl)
     have A386 := (BlF.st (BlF.st (BlF.st (BlF.st (BlF.st (BlF.st (BlF.st B3 p9 rfl) p12 rfl) p25 rfl) p32 rfl) p34 rfl) p319 rfl) p381 rfl)
     refine zstep 2 [some 29, some 24, some 18, some 17] tb34 zd383 (pq_cons (mv_q v31_0 rfl rfl rfl rfl rfl rfl) rfl (pq_cons (mv_q v24_0 rfl rfl rfl rfl rfl rfl) rfl (pq_cons (ld_q A386 Tryz.underlying3 rfl rfl rfl rfl rfl rfl rfl rfl) rfl (pq_cons (fa_q fa58_1 rfl rfl rfl rfl rfl rfl) rfl (pq_cons (ld_q A385 Tryz.underlying3 rfl rfl rfl rfl rfl rfl rfl rfl) rfl (pq_cons (fa_q fa58_0 rfl rfl rfl rfl rfl rfl) rfl pq_nil)))))) (by kernel_rfl) rfl (fun l384 e384 zd384 => ?_)
     refine cl rfl rfl rfl rfl rfl Tryz.func195 rfl rfl rfl (fun r387 m387 => impl_PutNum.calls a0.Xmin (4 : Int) s381.w (fun b => memb [] (s381.g b) = true)  r387 m387) ?_
     rintro r387 v387_0 w387 m387 ⟨f387_0, ky387⟩
     obtain ⟨s388, rfl, p388, n388⟩ := nwx s381 w387 80 ky387
     have A387_0 := f387_0.c n388
     refine zdone (L' := [15, 10, 4, 3]) (D' := [0, 1, 2, 6, 7, 8, 9, 11, 12, 13, 14]) zd384 rfl rfl rfl (fun zd390 => ?_)
     have A392 := (BlF.st (BlF.st (BlF.st (BlF.st (BlF.st (BlF.st (BlF.st (BlF.st B3 p9 rfl) p12 rfl) p25 rfl) p32 rfl) p34 rfl) p319 rfl) p381 rfl) p388 rfl)
     refine zstep 5 [some 29, some 24] tb34 zd390 (pq_cons (mv_q v31_0 rfl rfl rfl rfl rfl rfl) rfl (pq_cons (mv_q v24_0 rfl rfl rfl rfl rfl rfl) rfl (pq_cons (ld_q A392 Tryz.underlying3 rfl rfl rfl rfl rfl rfl rfl rfl) rfl (pq_cons (fa_q fa58_1 rfl rfl rfl rfl rfl rfl) rfl pq_nil)))) (by kernel_rfl) rfl (fun l391 e391 zd391 => ?_)
     refine cl rfl rfl rfl rfl rfl Tryz.func195 rfl rfl rfl (fun r393 m393 => impl_PutNum.calls a0.Xmax (4 : Int) s388.w (fun b => memb [] (s388.g b) = true)  r393 m393) ?_
     rintro r393 v393_0 w393 m393 ⟨f393_0, ky393⟩
     obtain ⟨s394, rfl, p394, n394⟩ := nwx s388 w393 81 ky393
     have A393_0 := f393_0.c n394
     refine zdone (L' := [15, 10]) (D' := [3, 4, 5, 0, 1, 2, 6, 7, 8, 9, 11, 12, 13, 14]) zd391 rfl rfl rfl (fun zd396 => ?_)
     refine zfin [16, 17, 18] tb34 zd396 (pq_cons (mv_q v31_0 rfl rfl rfl rfl rfl rfl) rfl (pq_cons (mv_q v24_0 rfl rfl rfl rfl rfl rfl) rfl pq_nil)) (by kernel_rfl) (by decide) ?_
     have A397 := (A387_0.st p394 rfl)
     obtain ⟨s398, hw398, p398, A398⟩ := A397.rc 44 rfl
     rw [hw398]
     have A399 := (A393_0.st p398 rfl)
     obtain ⟨s400, hw400, p400, A400⟩ := A399.rc 45 rfl
     rw [hw400]
     have A401 := ((((A381.st p388 rfl).st p394 rfl).st p398 rfl).st p400 rfl)
     obtain ⟨s402, hw402, p402, A402⟩ := A401.rc 46 rfl
     rw [hw402]
     have A403 := ((((((A319.st p381 rfl).st p388 rfl).st p394 rfl).st p398 rfl).st p400 rfl).st p402 rfl)
     obtain ⟨s404, hw404, p404, A404⟩ := A403.rc 47 rfl
     rw [hw404]
     have A405 := (((A398.st p400 rfl).st p402 rfl).st p404 rfl)
     have A406 := ((A400.st p402 rfl).st p404 rfl)
     have A407 := (A402.st p404 rfl)
     have A408 := ((((((((((A24_0.st p32 rfl).st p34 rfl).st p319 rfl).st p381 rfl).st p388 rfl).st p394 rfl).st p398 rfl).st p400 rfl).st p402 rfl).st p404 rfl)
     have A409 := (((((((((A31_0.st p34 rfl).st p319 rfl).st p381 rfl).st p388 rfl).st p394 rfl).st p398 rfl).st p400 rfl).st p402 rfl).st p404 rfl)
     have K410 := ((((((((((K29.st p32 rfl).st p34 rfl).st p319 rfl).st p381 rfl).st p388 rfl).st p394 rfl).st p398 rfl).st p400 rfl).st p402 rfl).st p404 rfl)
     exact Kj51 _ _ _ ⟨s404, _, v387_0, v393_0, v381, v319, rfl, (ue (ue (ue (ue (ue (ue rfl rfl) rfl) rfl) rfl) rfl) rfl), K410, A405, A406, A407, A404, A408, A409⟩
  rintro y51 _ _ ⟨s411, _, vy51_0, vy51_1, vy51_2, vy51_3, rfl, rfl, Ky51, Ay51_0, Ay51_1, Ay51_2, Ay51_3, Cy51_26, Cy51_33⟩
  have L416 := lo_one Cy51_33
  obtain ⟨s417, hw417, p417, L417⟩ := lo_cons Ay51_3 L416 rfl rfl
  rw [hw417]
  have A418 := (Cy51_26.st p417 rfl)
  obtain ⟨s419, hw419, p419, L419⟩ := lo_cons A418 L417 rfl rfl
  rw [hw419]
  have A420 := ((Ay51_2.st p417 rfl).st p419 rfl)
  obtain ⟨s421, hw421, p421, L421⟩ := lo_cons A420 L419 rfl rfl
  rw [hw421]
  have A422 := (((Ay51_1.st p417 rfl).st p419 rfl).st p421 rfl)
  obtain ⟨s423, hw423, p423, L423⟩ := lo_cons A422 L421 rfl rfl
  rw [hw423]
  have A424 := ((((Ay51_0.st p417 rfl).st p419 rfl).st p421 rfl).st p423 rfl)
  obtain ⟨s425, hw425, p425, L425⟩ := lo_cons A424 L423 rfl rfl
  rw [hw425]
  refine ltO (K := (Kd.sl 5 (Kd.int .u8))) (cells := [vy51_0, vy51_1, vy51_2, v24_0, vy51_3, v31_0]) [y51.1, y51.2.1, y51.2.2.1, r24, y51.2.2.2, r31] 44 Tryz.underlying140 z24 o24 L425 rfl rfl rfl rfl rfl rfl rfl rfl rfl (lfill_pc (pc_c (oc Ay51_0.rd.one) (pc_c (oc Ay51_1.rd.one) (pc_c (oc Ay51_2.rd.one) (pc_c (oc Cy51_26.rd.one) (pc_c (oc Ay51_3.rd.one) (pc_c (oc Cy51_33.rd.one) pc_n)))))) rfl) (fun v426 s426 p426 A426 => ?_)
  refine cl rfl rfl rfl rfl rfl Tryz.func194 rfl rfl rfl (fun r428 m428 => slices_Concat_byte_byte.calls ([y51.1, y51.2.1, y51.2.2.1, r24, y51.2.2.2, r31]) s426.w (fun b => memb [44] (s426.g b) = true) v426 A426.rd r428 m428) ?_
  rintro r428 v428_0 w428 m428 ⟨f428_0, ky428⟩
  obtain ⟨s429, rfl, p429, n429⟩ := nwx s426 w428 83 ky428
  have A428_0 := f428_0.c n429
  refine asg v428_0 rfl rfl rfl rfl rfl rfl ?_
  refine dn ?_
  have K431 := (((((((Ky51.st p417 rfl).st p419 rfl).st p421 rfl).st p423 rfl).st p425 rfl).st p426 rfl).st p429 rfl)
  exact re rfl Tryz.func104 rfl (r_t rfl r_nil) rfl ⟨_, rfl, A428_0.fo K431 rfl z.l, z.ky K431⟩
noncomputable def impl_TupleRead.f (a0 : (List Int)) : Option (Tuple × Bool) :=
 ((impl_GetNum.f a0 (0 : Int) (4 : Int)).bind fun r6 => ((impl_GetNum.f a0 (4 : Int) (4 : Int)).bind fun r10 => ((if (((!r6.2) || (!r10.2)) || (decide ((a0.length : Int) < (9 : Int)))) = true then (some true) else (if 0 ≤ (8 : Int) ∧ (8 : Int) < (a0.length : Int) then (some (decide ((a0.length : Int) < (IntKind.wrap .i64 ((10 : Int) + (IntKind.wrap .i64 (at_ a0 (8 : Int)))))))) else none)).bind fun y16 => (if y16 = true then (some ((Tuple.mk (0 : Int) (0 : Int) (Item.mk (0 : Int) (0 : Int) (0 : Nat) ([] : (List Int))) (Item.mk (0 : Int) (0 : Int) (0 : Nat) ([] : (List Int)))), false)) else (if 0 ≤ (8 : Int) ∧ (8 : Int) < (a0.length : Int) then (if 0 ≤ (9 : Int) ∧ (9 : Int) ≤ (IntKind.wrap .i64 ((9 : Int) + (IntKind.wrap .i64 (at_ a0 (8 : Int))))) ∧ (IntKind.wrap .i64 ((9 : Int) + (IntKind.wrap .i64 (at_ a0 (8 : Int))))) ≤ (a0.length : Int) then ((impl_KeyRead.f ((a0.take ((IntKind.wrap .i64 ((9 : Int) + (IntKind.wrap .i64 (at_ a0 (8 : Int)))))).toNat).drop ((9 : Int)).toNat)).bind fun r37 => (if 0 ≤ (IntKind.wrap .i64 ((IntKind.wrap .i64 ((9 : Int) + (IntKind.wrap .i64 (at_ a0 (8 : Int))))) + (1 : Int))) ∧ (IntKind.wrap .i64 ((IntKind.wrap .i64 ((9 : Int) + (IntKind.wrap .i64 (at_ a0 (8 : Int))))) + (1 : Int))) ≤ (a0.length : Int) then ((impl_ValueRead.f (a0.drop ((IntKind.wrap .i64 ((IntKind.wrap .i64 ((9 : Int) + (IntKind.wrap .i64 (at_ a0 (8 : Int))))) + (1 : Int)))).toNat)).bind fun r49 => ((if ((!r37.2) || (!r49.2)) = true then (some true) else ((impl_TupleOk.f (Tuple.mk r6.1 r10.1 r37.1 r49.1)).bind fun r72 => (some (!r72)))).bind fun y65 => ((if y65 = true then (some true) else ((impl_TupleBytes.f (Tuple.mk r6.1 r10.1 r37.1 r49.1)).bind fun r83 => ((bytes_Equal.f r83 a0).bind fun r88 => (some (!r88))))).bind fun y82 => (if y82 = true then (some ((Tuple.mk (0 : Int) (0 : Int) (Item.mk (0 : Int) (0 : Int) (0 : Nat) ([] : (List Int))) (Item.mk (0 : Int) (0 : Int) (0 : Nat) ([] : (List Int)))), false)) else (some ((Tuple.mk r6.1 r10.1 r37.1 r49.1), true)))))) else none)) else none) else none)))))
def impl_TupleRead.Q (w : World) (F : Nat → Prop) (r : Tuple × Bool) (v : Value) (w' : World) : Prop :=
 ∃ (v0 : Value) (v1 : Value) (v2 : Value) (v3 : Value), v = .tuple #[(.agg #[(.int .i64 r.1.Xmin), (.int .i64 r.1.Xmax), (.int .i64 r.1.Key.Kind), (.int .i64 r.1.Key.N), v0, v1, (.int .i64 r.1.Value.Kind), (.int .i64 r.1.Value.N), v2, v3]), (.bool r.2)] ∧ FO kd58 w w' [(.int .i64 r.1.Xmin), (.int .i64 r.1.Xmax), (.int .i64 r.1.Key.Kind), (.int .i64 r.1.Key.N), v0, v1, (.int .i64 r.1.Value.Kind), (.int .i64 r.1.Value.N), v2, v3] r.1 ∧ Ky [] w w'
set_option maxHeartbeats 4000000 in
set_option maxRecDepth 100000 in
theorem impl_TupleRead.calls (a0 : (List Int)) (w : World) (F : Nat → Prop) (w0_0 : Value) (h0_0 : (Kd.sl 5 (Kd.int .u8)).rd w [w0_0] a0 F) (r : Tuple × Bool) (m : impl_TupleRead.f a0 = some r) :
  Calls Tryz.prog 199 #[w0_0] w fun en w' => ∃ v, en = .returned v ∧ impl_TupleRead.Q w F r v w' := by
 obtain ⟨s0, rfl, kp0, z⟩ := start0 w F
 have A0_0 := z.rd h0_0
 refine calls_of_TM (args := [w0_0]) (R := fun r en w' => ∃ v, en = .returned v ∧ impl_TupleRead.Q s0.w F r v w') Tryz.func199 Tryz.ntmps199 rfl rfl m ?_
 unfold impl_TupleRead.f
 refine sr ?_
 refine al (cs := [(.int .i64 (0 : Int)), (.int .i64 (0 : Int)), (.int .i64 (0 : Int)), (.int .i64 (0 : Int)), (.float .f64 0), (.slice none 0 0), (.int .i64 (0 : Int)), (.int .i64 (0 : Int)), (.float .f64 0), (.slice none 0 0)]) 40 rfl rfl rfl rfl rfl o58 rfl (fun b2 s2 p2 B2 => ?_)
 refine pu rfl rfl rfl rfl rfl ?_
 refine dn ?_
 refine sr ?_
 refine mv w0_0 rfl rfl rfl rfl rfl rfl ?_
 have K4 := (kp0.st p2 rfl)
 have A5 := (A0_0.kp K4)
 refine cl rfl rfl rfl rfl rfl Tryz.func267 rfl rfl rfl (fun r6 m6 => impl_GetNum.calls a0 (0 : Int) (4 : Int) s2.w (fun b => memb [0] (s2.g b) = true) w0_0 A5 r6 m6) ?_
 rintro r6 _ w6 m6 ⟨rfl, ky6⟩
 obtain ⟨s7, rfl, p7, n7⟩ := nwx s2 w6 41 ky6
 refine pu rfl rfl rfl rfl rfl ?_
 refine pu (v := (.int .i64 r6.1)) rfl rfl rfl rfl rfl ?_
 refine pu (v := (.bool r6.2)) rfl rfl rfl rfl rfl ?_
 refine pu rfl rfl rfl rfl rfl ?_
 refine pu rfl rfl rfl rfl rfl ?_
 refine dn ?_
 refine sr ?_
 refine mv w0_0 rfl rfl rfl rfl rfl rfl ?_
 have K8 := (K4.st p7 rfl)
 have A9 := (A0_0.kp K8)
 refine cl rfl rfl rfl rfl rfl Tryz.func267 rfl rfl rfl (fun r10 m10 => impl_GetNum.calls a0 (4 : Int) (4 : Int) s7.w (fun b => memb [0] (s7.g b) = true) w0_0 A9 r10 m10) ?_
 rintro r10 _ w10 m10 ⟨rfl, ky10⟩
 obtain ⟨s11, rfl, p11, n11⟩ := nwx s7 w10 42 ky10
 refine pu rfl rfl rfl rfl rfl ?_
 refine pu (v := (.int .i64 r10.1)) rfl rfl rfl rfl rfl ?_
 refine pu (v := (.bool r10.2)) rfl rfl rfl rfl rfl ?_
 refine pu rfl rfl rfl rfl rfl ?_
 refine pu rfl rfl rfl rfl rfl ?_
 refine dn ?_
 refine sq ?_
 refine sr ?_
 refine pu rfl rfl rfl rfl rfl ?_
 refine pu rfl rfl rfl rfl rfl ?_
 refine pu rfl rfl rfl rfl rfl ?_
 refine jy [26, 27, 28, 29] [6, 7, 8, 9, 10, 11, 12, 13, 14, 15, 16, 17, 18, 19, 20] 29 (.bool ((!r6.2) || (!r10.2))) rfl (fun Kg12 => ?_) (fun j12 => ?_)
 ·
  rcases Bool.eq_false_or_eq_true (!r6.2) with hb12 | hb12
  ·
   refine sbT hb12 ?_
   refine uw rfl rfl rfl rfl ?_
   refine uw rfl rfl rfl rfl ?_
   refine pu rfl rfl rfl rfl rfl ?_
   exact Kg12 _ (Ag.put ((Ag.put ((Ag.put (Ag.base rfl) rfl)) rfl)) rfl) (by rw [hb12]; rfl)
  ·
   refine sbT hb12 ?_
   refine pu rfl rfl rfl rfl rfl ?_
   refine pu rfl rfl rfl rfl rfl ?_
   refine pu rfl rfl rfl rfl rfl ?_
   exact Kg12 _ (Ag.put ((Ag.put ((Ag.put (Ag.base rfl) rfl)) rfl)) rfl) (by rw [hb12]; rfl)
 refine pu rfl rfl rfl rfl rfl ?_
 refine jy [30, 31, 32, 33, 34] [11, 12, 13, 14, 15, 16, 17, 18, 19, 20] 34 (.bool (((!r6.2) || (!r10.2)) || (decide ((a0.length : Int) < (9 : Int))))) rfl (fun Kg13 => ?_) (fun j13 => ?_)
 ·
  rcases Bool.eq_false_or_eq_true ((!r6.2) || (!r10.2)) with hb13 | hb13
  ·
   refine sbT hb13 ?_
   refine uw rfl rfl rfl rfl ?_
   refine uw rfl rfl rfl rfl ?_
   refine uw rfl rfl rfl rfl ?_
   refine pu rfl rfl rfl rfl rfl ?_
   exact Kg13 _ (Ag.put ((Ag.put ((Ag.put ((Ag.put (Ag.base rfl) rfl)) rfl)) rfl)) rfl) (by rw [hb13]; rfl)
  ·
   refine sbT hb13 ?_
   refine mv w0_0 rfl rfl rfl rfl rfl rfl ?_
   have K14 := (K8.st p11 rfl)
   have A15 := (A0_0.kp K14)
   refine ln A15 Tryz.underlying24 rfl rfl rfl rfl rfl rfl ?_
   refine pu rfl rfl rfl rfl rfl ?_
   refine pu rfl rfl rfl rfl rfl ?_
   exact Kg13 _ (Ag.put ((Ag.put ((Ag.put ((Ag.put (Ag.base rfl) rfl)) rfl)) rfl)) rfl) (by rw [hb13]; rfl)
 refine pu rfl rfl rfl rfl rfl ?_
 refine ji [] (fun (y16 : Bool) (e : Env) (w : World) => ∃ (s : St) (e0 : Env), w = s.w ∧ e = upd (upd (upd (upd (upd e0 0 w0_0) 2 (.pointer (some ⟨b2, 0, none⟩))) 4 (.int .i64 r6.1)) 6 (.int .i64 r10.1)) 44 (.bool y16) ∧ Kp s0 s ∧ BlF s b2 58 [(.int .i64 (0 : Int)), (.int .i64 (0 : Int)), (.int .i64 (0 : Int)), (.int .i64 (0 : Int)), (.float .f64 0), (.slice none 0 0), (.int .i64 (0 : Int)), (.int .i64 (0 : Int)), (.float .f64 0), (.slice none 0 0)] 40) (fun Gj16 Kj16 => ?_) ?_
 ·
  rcases Bool.eq_false_or_eq_true (((!r6.2) || (!r10.2)) || (decide ((a0.length : Int) < (9 : Int)))) with hb16 | hb16
  ·
   refine sbT hb16 ?_
   rw [if_pos hb16]
   refine uw rfl rfl rfl rfl ?_
   refine uw rfl rfl rfl rfl ?_
   refine uw rfl rfl rfl rfl ?_
   refine uw rfl rfl rfl rfl ?_
   refine uw rfl rfl rfl rfl ?_
   refine uw rfl rfl rfl rfl ?_
   refine uw rfl rfl rfl rfl ?_
   refine uw rfl rfl rfl rfl ?_
   refine pu rfl rfl rfl rfl rfl ?_
   have A17 := (BlF.st (BlF.st B2 p7 rfl) p11 rfl)
   have K18 := (K8.st p11 rfl)
   exact Kj16 _ _ _ ⟨s11, _, rfl, (ue (ue (ue (ue (ue rfl rfl) rfl) rfl) rfl) rfl), K18, A17⟩
  ·
   refine sbT hb16 ?_
   rw [if_neg (by rw [hb16]; decide)]
   refine mv w0_0 rfl rfl rfl rfl rfl rfl ?_
   have K19 := (K8.st p11 rfl)
   have A20 := (A0_0.kp K19)
   refine ln A20 Tryz.underlying24 rfl rfl rfl rfl rfl rfl ?_
   refine mv w0_0 rfl rfl rfl rfl rfl rfl ?_
   refine ix A20 Tryz.underlying24 z5 rfl rfl rfl rfl rfl rfl rfl rfl (fun ad21 es21 h0_21 h1_21 he21 ce21 ia21 => ?_)
   obtain rfl := he21
   refine lc0 ce21 Tryz.underlying5 rfl rfl rfl rfl rfl rfl rfl rfl ?_
   refine cv Tryz.underlying3 Tryz.underlying5 rfl rfl rfl rfl rfl rfl ?_
   refine pu rfl rfl rfl rfl rfl ?_
   refine pu rfl rfl rfl rfl rfl ?_
   refine pu rfl rfl rfl rfl rfl ?_
   have A23 := (BlF.st (BlF.st B2 p7 rfl) p11 rfl)
   exact Kj16 _ _ _ ⟨s11, _, rfl, (ue (ue (ue (ue (ue rfl rfl) rfl) rfl) rfl) rfl), K19, A23⟩
 rintro y16 _ _ ⟨s24, _, rfl, rfl, Ky16, By16_b2⟩
 refine dn ?_
 refine cd rfl (fun h26 => ?_) (fun h26 => ?_)
 ·
  refine sr ?_
  refine bd (cells := [(.int .i64 (0 : Int)), (.int .i64 (0 : Int)), (.int .i64 (0 : Int)), (.int .i64 (0 : Int)), (.float .f64 0), (.slice none 0 0), (.int .i64 (0 : Int)), (.int .i64 (0 : Int)), (.float .f64 0), (.slice none 0 0)]) pl58 o58 rfl rfl rfl rfl rfl rfl ?_
  refine sva (vs := [(.int .i64 (0 : Int)), (.int .i64 (0 : Int)), (.int .i64 (0 : Int)), (.int .i64 (0 : Int)), (.float .f64 0), (.slice none 0 0), (.int .i64 (0 : Int)), (.int .i64 (0 : Int)), (.float .f64 0), (.slice none 0 0)]) By16_b2 z58 rfl rfl rfl rfl rfl rfl (on_cons rfl (on_cons rfl (on_cons rfl (on_cons rfl (on_cons (FL.one (fl_c rfl)) (on_cons rfl (on_cons rfl (on_cons rfl (on_cons (FL.one (fl_c rfl)) (on_cons rfl on_nil)))))))))) rfl (fun s27 p27 B27 => ?_)
  refine pu rfl rfl rfl rfl rfl ?_
  refine dn ?_
  have A29 : OwF kd58 s27 [(.int .i64 (0 : Int)), (.int .i64 (0 : Int)), (.int .i64 (0 : Int)), (.int .i64 (0 : Int)), (.float .f64 0), (.slice none 0 0), (.int .i64 (0 : Int)), (.int .i64 (0 : Int)), (.float .f64 0), (.slice none 0 0)] (Tuple.mk (0 : Int) (0 : Int) (Item.mk (0 : Int) (0 : Int) (0 : Nat) ([] : (List Int))) (Item.mk (0 : Int) (0 : Int) (0 : Nat) ([] : (List Int)))) 43 := ow_z _ _ (fz_iso (fun x : Tuple => (x.Xmin, x.Xmax, x.Key, x.Value)) (Tuple.mk (0 : Int) (0 : Int) (Item.mk (0 : Int) (0 : Int) (0 : Nat) ([] : (List Int))) (Item.mk (0 : Int) (0 : Int) (0 : Nat) ([] : (List Int)))) (fz_pair (fz_int .i64 (0 : Int)) (fz_pair (fz_int .i64 (0 : Int)) (fz_pair (fz_iso (fun x : Item => (x.Kind, x.N, x.F, x.T)) (Item.mk (0 : Int) (0 : Int) (0 : Nat) ([] : (List Int))) (fz_pair (fz_int .i64 (0 : Int)) (fz_pair (fz_int .i64 (0 : Int)) (fz_pair (fz_flt (fl_c rfl)) (fz_nil 5 (Kd.int .u8)))))) (fz_iso (fun x : Item => (x.Kind, x.N, x.F, x.T)) (Item.mk (0 : Int) (0 : Int) (0 : Nat) ([] : (List Int))) (fz_pair (fz_int .i64 (0 : Int)) (fz_pair (fz_int .i64 (0 : Int)) (fz_pair (fz_flt (fl_c rfl)) (fz_nil 5 (Kd.int .u8))))))))))
  have K31 := (Ky16.st p27 rfl)
  exact re rfl Tryz.func199 rfl (r_b B27 Tryz.underlying58 rfl z58 rfl (r_t rfl r_nil)) rfl ⟨_, rfl, (.float .f64 0), (.slice none 0 0), (.float .f64 0), (.slice none 0 0), rfl, A29.fo K31 rfl z.l, z.ky K31⟩
 ·
  refine sk ?_
  refine sr ?_
  refine mv w0_0 rfl rfl rfl rfl rfl rfl ?_
  have A32 := (A0_0.kp Ky16)
  refine ix A32 Tryz.underlying24 z5 rfl rfl rfl rfl rfl rfl rfl rfl (fun ad33 es33 h0_33 h1_33 he33 ce33 ia33 => ?_)
  obtain rfl := he33
  refine lc0 ce33 Tryz.underlying5 rfl rfl rfl rfl rfl rfl rfl rfl ?_
  refine cv Tryz.underlying3 Tryz.underlying5 rfl rfl rfl rfl rfl rfl ?_
  refine pu rfl rfl rfl rfl rfl ?_
  refine pu rfl rfl rfl rfl rfl ?_
  refine dn ?_
  refine sr ?_
  refine mv w0_0 rfl rfl rfl rfl rfl rfl ?_
  refine pu rfl rfl rfl rfl rfl ?_
  refine slb A32 Tryz.underlying24 z5 rfl rfl rfl rfl rfl rfl rfl rfl (fun v35 A35 => ?_)
  refine cl rfl rfl rfl rfl rfl Tryz.func268 rfl rfl rfl (fun r37 m37 => impl_KeyRead.calls ((a0.take ((IntKind.wrap .i64 ((9 : Int) + (IntKind.wrap .i64 (at_ a0 (8 : Int)))))).toNat).drop ((9 : Int)).toNat) s24.w (fun b => memb [0] (s24.g b) = true) v35 A35 r37 m37) ?_
  rintro r37 _ w37 m37 ⟨v37_0, v37_1, rfl, f37_0, ky37⟩
  obtain ⟨s38, rfl, p38, n38⟩ := nwx s24 w37 44 ky37
  have A37_0 := f37_0.c n38
  obtain ⟨os37_0, ho37_0, hn37_0, hc37_0⟩ := A37_0
  obtain ⟨u37_0_0, u37_0_1, qu37_0_1, e37_0, eo37_0, hu37_0_0, hu37_0_1⟩ := po33 ho37_0
  have yu37_0_0 : v37_0 = u37_0_0 := congrArg (fun l => (List.drop 2 l).headD undef) e37_0
  have yu37_0_1 : v37_1 = u37_0_1 := congrArg (fun l => (List.drop 3 l).headD undef) e37_0
  subst yu37_0_0
  subst yu37_0_1
  subst eo37_0
  have Au37_0_1 : OwF (Kd.sl 5 (Kd.int .u8)) s38 [v37_1] r37.1.T 44 := sp1 hu37_0_1 hn37_0 hc37_0
  refine pu rfl rfl rfl rfl rfl ?_
  refine pu (v := (.agg #[(.int .i64 r37.1.Kind), (.int .i64 r37.1.N), v37_0, v37_1])) rfl rfl rfl rfl rfl ?_
  refine pu (v := (.bool r37.2)) rfl rfl rfl rfl rfl ?_
  refine al (cs := [(.int .i64 (0 : Int)), (.int .i64 (0 : Int)), (.float .f64 0), (.slice none 0 0)]) 45 rfl rfl rfl rfl rfl o33 rfl (fun b40 s40 p40 B40 => ?_)
  have A42 := (Au37_0_1.st p40 rfl)
  refine sva (vs := [(.int .i64 r37.1.Kind), (.int .i64 r37.1.N), v37_0, v37_1]) B40 z33 rfl rfl rfl rfl rfl rfl (on_cons rfl (on_cons rfl (on_cons (FL.one hu37_0_0) (on_cons A42.rd.one on_nil)))) rfl (fun s43 p43 B43 => ?_)
  refine pu rfl rfl rfl rfl rfl ?_
  refine dn ?_
  refine sr ?_
  refine mv w0_0 rfl rfl rfl rfl rfl rfl ?_
  refine pu rfl rfl rfl rfl rfl ?_
  refine pu rfl rfl rfl rfl rfl ?_
  have K45 := (((Ky16.st p38 rfl).st p40 rfl).st p43 rfl)
  have A46 := (A0_0.kp K45)
  refine sla A46 Tryz.underlying24 z5 rfl rfl rfl rfl rfl rfl rfl (fun v47 A47 => ?_)
  refine cl rfl rfl rfl rfl rfl Tryz.func269 rfl rfl rfl (fun r49 m49 => impl_ValueRead.calls (a0.drop ((IntKind.wrap .i64 ((IntKind.wrap .i64 ((9 : Int) + (IntKind.wrap .i64 (at_ a0 (8 : Int))))) + (1 : Int)))).toNat) s43.w (fun b => memb [0] (s43.g b) = true) v47 A47 r49 m49) ?_
  rintro r49 _ w49 m49 ⟨v49_0, v49_1, rfl, f49_0, ky49⟩
  obtain ⟨s50, rfl, p50, n50⟩ := nwx s43 w49 46 ky49
  have A49_0 := f49_0.c n50
  obtain ⟨os49_0, ho49_0, hn49_0, hc49_0⟩ := A49_0
  obtain ⟨u49_0_0, u49_0_1, qu49_0_1, e49_0, eo49_0, hu49_0_0, hu49_0_1⟩ := po33 ho49_0
  have yu49_0_0 : v49_0 = u49_0_0 := congrArg (fun l => (List.drop 2 l).headD undef) e49_0
  have yu49_0_1 : v49_1 = u49_0_1 := congrArg (fun l => (List.drop 3 l).headD undef) e49_0
  subst yu49_0_0
  subst yu49_0_1
  subst eo49_0
  have Au49_0_1 : OwF (Kd.sl 5 (Kd.int .u8)) s50 [v49_1] r49.1.T 46 := sp1 hu49_0_1 hn49_0 hc49_0
  refine pu rfl rfl rfl rfl rfl ?_
  refine pu (v := (.agg #[(.int .i64 r49.1.Kind), (.int .i64 r49.1.N), v49_0, v49_1])) rfl rfl rfl rfl rfl ?_
  refine pu (v := (.bool r49.2)) rfl rfl rfl rfl rfl ?_
  refine al (cs := [(.int .i64 (0 : Int)), (.int .i64 (0 : Int)), (.float .f64 0), (.slice none 0 0)]) 47 rfl rfl rfl rfl rfl o33 rfl (fun b52 s52 p52 B52 => ?_)
  have A54 := (Au49_0_1.st p52 rfl)
  refine sva (vs := [(.int .i64 r49.1.Kind), (.int .i64 r49.1.N), v49_0, v49_1]) B52 z33 rfl rfl rfl rfl rfl rfl (on_cons rfl (on_cons rfl (on_cons (FL.one hu49_0_0) (on_cons A54.rd.one on_nil)))) rfl (fun s55 p55 B55 => ?_)
  refine pu rfl rfl rfl rfl rfl ?_
  refine dn ?_
  refine sr ?_
  refine pu rfl rfl rfl rfl rfl ?_
  refine pu rfl rfl rfl rfl rfl ?_
  have A57 := (BlF.st (BlF.st (BlF.st B43 p50 rfl) p52 rfl) p55 rfl)
  refine lda (es := [(.int .i64 r37.1.Kind), (.int .i64 r37.1.N), v37_0, v37_1]) A57 Tryz.underlying33 z33 rfl rfl rfl rfl rfl rfl rfl rfl ?_
  refine lda (es := [(.int .i64 r49.1.Kind), (.int .i64 r49.1.N), v49_0, v49_1]) B55 Tryz.underlying33 z33 rfl rfl rfl rfl rfl rfl rfl rfl ?_
  refine bd (cells := [(.int .i64 r6.1), (.int .i64 r10.1), (.int .i64 r37.1.Kind), (.int .i64 r37.1.N), v37_0, v37_1, (.int .i64 r49.1.Kind), (.int .i64 r49.1.N), v49_0, v49_1]) pl58 o58 rfl rfl rfl rfl rfl rfl ?_
  refine al (cs := [(.int .i64 (0 : Int)), (.int .i64 (0 : Int)), (.int .i64 (0 : Int)), (.int .i64 (0 : Int)), (.float .f64 0), (.slice none 0 0), (.int .i64 (0 : Int)), (.int .i64 (0 : Int)), (.float .f64 0), (.slice none 0 0)]) 48 rfl rfl rfl rfl rfl o58 rfl (fun b58 s58 p58 B58 => ?_)
  have A60 := ((A54.st p55 rfl).st p58 rfl)
  have A61 := (((((A42.st p43 rfl).st p50 rfl).st p52 rfl).st p55 rfl).st p58 rfl)
  refine sva (vs := [(.int .i64 r6.1), (.int .i64 r10.1), (.int .i64 r37.1.Kind), (.int .i64 r37.1.N), v37_0, v37_1, (.int .i64 r49.1.Kind), (.int .i64 r49.1.N), v49_0, v49_1]) B58 z58 rfl rfl rfl rfl rfl rfl (on_cons rfl (on_cons rfl (on_cons rfl (on_cons rfl (on_cons (FL.one hu37_0_0) (on_cons A61.rd.one (on_cons rfl (on_cons rfl (on_cons (FL.one hu49_0_0) (on_cons A60.rd.one on_nil)))))))))) rfl (fun s62 p62 B62 => ?_)
  refine dn ?_
  refine sq ?_
  refine sr ?_
  refine pu rfl rfl rfl rfl rfl ?_
  refine pu rfl rfl rfl rfl rfl ?_
  refine pu rfl rfl rfl rfl rfl ?_
  refine jy [73, 74, 75, 76] [6, 7, 8, 9, 10, 11, 12, 13, 14, 15, 16, 17] 76 (.bool ((!r37.2) || (!r49.2))) rfl (fun Kg64 => ?_) (fun j64 => ?_)
  ·
   rcases Bool.eq_false_or_eq_true (!r37.2) with hb64 | hb64
   ·
    refine sbT hb64 ?_
    refine uw rfl rfl rfl rfl ?_
    refine uw rfl rfl rfl rfl ?_
    refine pu rfl rfl rfl rfl rfl ?_
    exact Kg64 _ (Ag.put ((Ag.put ((Ag.put (Ag.base rfl) rfl)) rfl)) rfl) (by rw [hb64]; rfl)
   ·
    refine sbT hb64 ?_
    refine pu rfl rfl rfl rfl rfl ?_
    refine pu rfl rfl rfl rfl rfl ?_
    refine pu rfl rfl rfl rfl rfl ?_
    exact Kg64 _ (Ag.put ((Ag.put ((Ag.put (Ag.base rfl) rfl)) rfl)) rfl) (by rw [hb64]; rfl)
  refine pu rfl rfl rfl rfl rfl ?_
  refine ji [11, 12, 13, 14, 15, 16, 17] (fun (y65 : Bool) (e : Env) (w : World) => ∃ (s : St) (e0 : Env), w = s.w ∧ e = upd (upd (upd (upd e0 0 w0_0) 2 (.pointer (some ⟨b2, 0, none⟩))) 13 (.pointer (some ⟨b58, 0, none⟩))) 81 (.bool y65) ∧ Kp s0 s ∧ BlF s b58 58 [(.int .i64 r6.1), (.int .i64 r10.1), (.int .i64 r37.1.Kind), (.int .i64 r37.1.N), v37_0, v37_1, (.int .i64 r49.1.Kind), (.int .i64 r49.1.N), v49_0, v49_1] 48 ∧ BlF s b2 58 [(.int .i64 (0 : Int)), (.int .i64 (0 : Int)), (.int .i64 (0 : Int)), (.int .i64 (0 : Int)), (.float .f64 0), (.slice none 0 0), (.int .i64 (0 : Int)), (.int .i64 (0 : Int)), (.float .f64 0), (.slice none 0 0)] 40 ∧ OwF (Kd.sl 5 (Kd.int .u8)) s [v37_1] r37.1.T 44 ∧ OwF (Kd.sl 5 (Kd.int .u8)) s [v49_1] r49.1.T 46) (fun Gj65 Kj65 => ?_) ?_
  ·
   rcases Bool.eq_false_or_eq_true ((!r37.2) || (!r49.2)) with hb65 | hb65
   ·
    refine sbT hb65 ?_
    rw [if_pos hb65]
    refine uw rfl rfl rfl rfl ?_
    refine uw rfl rfl rfl rfl ?_
    refine uw rfl rfl rfl rfl ?_
    refine pu rfl rfl rfl rfl rfl ?_
    have A66 := (BlF.st (BlF.st (BlF.st (BlF.st (BlF.st (BlF.st (BlF.st (BlF.st By16_b2 p38 rfl) p40 rfl) p43 rfl) p50 rfl) p52 rfl) p55 rfl) p58 rfl) p62 rfl)
    have A67 := (A61.st p62 rfl)
    have A68 := (A60.st p62 rfl)
    have K69 := (((((K45.st p50 rfl).st p52 rfl).st p55 rfl).st p58 rfl).st p62 rfl)
    exact Kj65 _ _ _ ⟨s62, _, rfl, (ue (ue (ue (ue rfl rfl) rfl) rfl) rfl), K69, B62, A66, A67, A68⟩
   ·
    refine sbT hb65 ?_
    rw [if_neg (by rw [hb65]; decide)]
    refine lda (es := [(.int .i64 r6.1), (.int .i64 r10.1), (.int .i64 r37.1.Kind), (.int .i64 r37.1.N), v37_0, v37_1, (.int .i64 r49.1.Kind), (.int .i64 r49.1.N), v49_0, v49_1]) B62 Tryz.underlying58 z58 rfl rfl rfl rfl rfl rfl rfl rfl ?_
    have A70 := (A61.st p62 rfl)
    have A71 := (A60.st p62 rfl)
    refine cl rfl rfl rfl rfl rfl Tryz.func112 rfl rfl rfl (fun r72 m72 => impl_TupleOk.calls (Tuple.mk r6.1 r10.1 r37.1 r49.1) s62.w (fun b => memb [44, 46] (s62.g b) = true) v37_0 v37_1 v49_0 v49_1 ((fl_rdf (s := s62) hu37_0_0).sub (D := [44, 46]) rfl) (A70.rd.sub (D := [44, 46]) rfl) ((fl_rdf (s := s62) hu49_0_0).sub (D := [44, 46]) rfl) (A71.rd.sub (D := [44, 46]) rfl) r72 m72) ?_
    rintro r72 _ w72 m72 ⟨rfl, ky72⟩
    obtain ⟨s73, rfl, p73, n73⟩ := nwx s62 w72 49 ky72
    refine pu rfl rfl rfl rfl rfl ?_
    refine pu rfl rfl rfl rfl rfl ?_
    have A74 := (BlF.st B62 p73 rfl)
    have A75 := (BlF.st (BlF.st (BlF.st (BlF.st (BlF.st (BlF.st (BlF.st (BlF.st (BlF.st By16_b2 p38 rfl) p40 rfl) p43 rfl) p50 rfl) p52 rfl) p55 rfl) p58 rfl) p62 rfl) p73 rfl)
    have A76 := (A70.st p73 rfl)
    have A77 := (A71.st p73 rfl)
    have K78 := ((((((K45.st p50 rfl).st p52 rfl).st p55 rfl).st p58 rfl).st p62 rfl).st p73 rfl)
    exact Kj65 _ _ _ ⟨s73, _, rfl, (ue (ue (ue (ue rfl rfl) rfl) rfl) rfl), K78, A74, A75, A76, A77⟩
  rintro y65 _ _ ⟨s79, _, rfl, rfl, Ky65, By65_b58, By65_b2, Cy65_39, Cy65_51⟩
  refine pu rfl rfl rfl rfl rfl ?_
  refine ji [] (fun (y82 : Bool) (e : Env) (w : World) => ∃ (s : St) (e0 : Env), w = s.w ∧ e = upd (upd (upd e0 2 (.pointer (some ⟨b2, 0, none⟩))) 13 (.pointer (some ⟨b58, 0, none⟩))) 88 (.bool y82) ∧ Kp s0 s ∧ BlF s b58 58 [(.int .i64 r6.1), (.int .i64 r10.1), (.int .i64 r37.1.Kind), (.int .i64 r37.1.N), v37_0, v37_1, (.int .i64 r49.1.Kind), (.int .i64 r49.1.N), v49_0, v49_1] 48 ∧ BlF s b2 58 [(.int .i64 (0 : Int)), (.int .i64 (0 : Int)), (.int .i64 (0 : Int)), (.int .i64 (0 : Int)), (.float .f64 0), (.slice none 0 0), (.int .i64 (0 : Int)), (.int .i64 (0 : Int)), (.float .f64 0), (.slice none 0 0)] 40 ∧ OwF (Kd.sl 5 (Kd.int .u8)) s [v37_1] r37.1.T 44 ∧ OwF (Kd.sl 5 (Kd.int .u8)) s [v49_1] r49.1.T 46) (fun Gj82 Kj82 => ?_) ?_
  ·
   rcases Bool.eq_false_or_eq_true y65 with hb82 | hb82
   ·
    refine sbT hb82 ?_
    rw [if_pos hb82]
    refine uw rfl rfl rfl rfl ?_
    refine uw rfl rfl rfl rfl ?_
    refine uw rfl rfl rfl rfl ?_
    refine uw rfl rfl rfl rfl ?_
    refine uw rfl rfl rfl rfl ?_
    refine pu rfl rfl rfl rfl rfl ?_
    exact Kj82 _ _ _ ⟨s79, _, rfl, (ue (ue (ue rfl rfl) rfl) rfl), Ky65, By65_b58, By65_b2, Cy65_39, Cy65_51⟩
   ·
    refine sbT hb82 ?_
    rw [if_neg (by rw [hb82]; decide)]
    refine lda (es := [(.int .i64 r6.1), (.int .i64 r10.1), (.int .i64 r37.1.Kind), (.int .i64 r37.1.N), v37_0, v37_1, (.int .i64 r49.1.Kind), (.int .i64 r49.1.N), v49_0, v49_1]) By65_b58 Tryz.underlying58 z58 rfl rfl rfl rfl rfl rfl rfl rfl ?_
    refine cl rfl rfl rfl rfl rfl Tryz.func104 rfl rfl rfl (fun r83 m83 => impl_TupleBytes.calls (Tuple.mk r6.1 r10.1 r37.1 r49.1) s79.w (fun b => memb [44, 46] (s79.g b) = true) v37_0 v37_1 v49_0 v49_1 ((fl_rdf (s := s79) hu37_0_0).sub (D := [44, 46]) rfl) (Cy65_39.rd.sub (D := [44, 46]) rfl) ((fl_rdf (s := s79) hu49_0_0).sub (D := [44, 46]) rfl) (Cy65_51.rd.sub (D := [44, 46]) rfl) r83 m83) ?_
    rintro r83 v83_0 w83 m83 ⟨f83_0, ky83⟩
    obtain ⟨s84, rfl, p84, n84⟩ := nwx s79 w83 50 ky83
    have A83_0 := f83_0.c n84
    refine mv w0_0 rfl rfl rfl rfl rfl rfl ?_
    have K86 := (Ky65.st p84 rfl)
    have A87 := (A0_0.kp K86)
    refine cl rfl rfl rfl rfl rfl Tryz.func270 rfl rfl rfl (fun r88 m88 => bytes_Equal.calls r83 a0 s84.w (fun b => memb [50, 0] (s84.g b) = true) v83_0 w0_0 (A83_0.rd.sub (D := [50, 0]) rfl) (A87.sub (D := [50, 0]) rfl) r88 m88) ?_
    rintro r88 _ w88 m88 ⟨rfl, ky88⟩
    obtain ⟨s89, rfl, p89, n89⟩ := nwx s84 w88 51 ky88
    refine pu rfl rfl rfl rfl rfl ?_
    refine pu rfl rfl rfl rfl rfl ?_
    have A90 := (BlF.st (BlF.st By65_b58 p84 rfl) p89 rfl)
    have A91 := (BlF.st (BlF.st By65_b2 p84 rfl) p89 rfl)
    have A92 := ((Cy65_39.st p84 rfl).st p89 rfl)
    have A93 := ((Cy65_51.st p84 rfl).st p89 rfl)
    have K94 := (K86.st p89 rfl)
    exact Kj82 _ _ _ ⟨s89, _, rfl, (ue (ue (ue rfl rfl) rfl) rfl), K94, A90, A91, A92, A93⟩
  rintro y82 _ _ ⟨s95, _, rfl, rfl, Ky82, By82_b58, By82_b2, Cy82_39, Cy82_51⟩
  refine dn ?_
  refine cd rfl (fun h98 => ?_) (fun h98 => ?_)
  ·
   refine sr ?_
   refine bd (cells := [(.int .i64 (0 : Int)), (.int .i64 (0 : Int)), (.int .i64 (0 : Int)), (.int .i64 (0 : Int)), (.float .f64 0), (.slice none 0 0), (.int .i64 (0 : Int)), (.int .i64 (0 : Int)), (.float .f64 0), (.slice none 0 0)]) pl58 o58 rfl rfl rfl rfl rfl rfl ?_
   refine sva (vs := [(.int .i64 (0 : Int)), (.int .i64 (0 : Int)), (.int .i64 (0 : Int)), (.int .i64 (0 : Int)), (.float .f64 0), (.slice none 0 0), (.int .i64 (0 : Int)), (.int .i64 (0 : Int)), (.float .f64 0), (.slice none 0 0)]) By82_b2 z58 rfl rfl rfl rfl rfl rfl (on_cons rfl (on_cons rfl (on_cons rfl (on_cons rfl (on_cons (FL.one (fl_c rfl)) (on_cons rfl (on_cons rfl (on_cons rfl (on_cons (FL.one (fl_c rfl)) (on_cons rfl on_nil)))))))))) rfl (fun s99 p99 B99 => ?_)
   refine pu rfl rfl rfl rfl rfl ?_
   refine dn ?_
   have A101 : OwF kd58 s99 [(.int .i64 (0 : Int)), (.int .i64 (0 : Int)), (.int .i64 (0 : Int)), (.int .i64 (0 : Int)), (.float .f64 0), (.slice none 0 0), (.int .i64 (0 : Int)), (.int .i64 (0 : Int)), (.float .f64 0), (.slice none 0 0)] (Tuple.mk (0 : Int) (0 : Int) (Item.mk (0 : Int) (0 : Int) (0 : Nat) ([] : (List Int))) (Item.mk (0 : Int) (0 : Int) (0 : Nat) ([] : (List Int)))) 52 := ow_z _ _ (fz_iso (fun x : Tuple => (x.Xmin, x.Xmax, x.Key, x.Value)) (Tuple.mk (0 : Int) (0 : Int) (Item.mk (0 : Int) (0 : Int) (0 : Nat) ([] : (List Int))) (Item.mk (0 : Int) (0 : Int) (0 : Nat) ([] : (List Int)))) (fz_pair (fz_int .i64 (0 : Int)) (fz_pair (fz_int .i64 (0 : Int)) (fz_pair (fz_iso (fun x : Item => (x.Kind, x.N, x.F, x.T)) (Item.mk (0 : Int) (0 : Int) (0 : Nat) ([] : (List Int))) (fz_pair (fz_int .i64 (0 : Int)) (fz_pair (fz_int .i64 (0 : Int)) (fz_pair (fz_flt (fl_c rfl)) (fz_nil 5 (Kd.int .u8)))))) (fz_iso (fun x : Item => (x.Kind, x.N, x.F, x.T)) (Item.mk (0 : Int) (0 : Int) (0 : Nat) ([] : (List Int))) (fz_pair (fz_int .i64 (0 : Int)) (fz_pair (fz_int .i64 (0 : Int)) (fz_pair (fz_flt (fl_c rfl)) (fz_nil 5 (Kd.int .u8))))))))))
   have K103 := (Ky82.st p99 rfl)
   exact re rfl Tryz.func199 rfl (r_b B99 Tryz.underlying58 rfl z58 rfl (r_t rfl r_nil)) rfl ⟨_, rfl, (.float .f64 0), (.slice none 0 0), (.float .f64 0), (.slice none 0 0), rfl, A101.fo K103 rfl z.l, z.ky K103⟩
  ·
   refine sk ?_
   refine sr ?_
   refine lda (es := [(.int .i64 r6.1), (.int .i64 r10.1), (.int .i64 r37.1.Kind), (.int .i64 r37.1.N), v37_0, v37_1, (.int .i64 r49.1.Kind), (.int .i64 r49.1.N), v49_0, v49_1]) By82_b58 Tryz.underlying58 z58 rfl rfl rfl rfl rfl rfl rfl rfl ?_
   refine sva (vs := [(.int .i64 r6.1), (.int .i64 r10.1), (.int .i64 r37.1.Kind), (.int .i64 r37.1.N), v37_0, v37_1, (.int .i64 r49.1.Kind), (.int .i64 r49.1.N), v49_0, v49_1]) By82_b2 z58 rfl rfl rfl rfl rfl rfl (on_cons rfl (on_cons rfl (on_cons rfl (on_cons rfl (on_cons (FL.one hu37_0_0) (on_cons Cy82_39.rd.one (on_cons rfl (on_cons rfl (on_cons (FL.one hu49_0_0) (on_cons Cy82_51.rd.one on_nil)))))))))) rfl (fun s104 p104 B104 => ?_)
   refine pu rfl rfl rfl rfl rfl ?_
   refine dn ?_
   have A106 := (Cy82_39.st p104 rfl)
   have A107 := (Cy82_51.st p104 rfl)
   obtain ⟨s108, hw108, p108, A108⟩ := ow_2 (ow_isoz (fun x : Item => (x.Kind, x.N, x.F, x.T)) r37.1 (ow_l (fz_int .i64 r37.1.Kind) (ow_l (fz_int .i64 r37.1.N) (ow_l (fz_flt hu37_0_0) A106)))) (ow_isoz (fun x : Item => (x.Kind, x.N, x.F, x.T)) r49.1 (ow_l (fz_int .i64 r49.1.Kind) (ow_l (fz_int .i64 r49.1.N) (ow_l (fz_flt hu49_0_0) A107)))) rfl rfl
   rw [hw108]
   have A110 : OwF kd58 s108 [(.int .i64 r6.1), (.int .i64 r10.1), (.int .i64 r37.1.Kind), (.int .i64 r37.1.N), v37_0, v37_1, (.int .i64 r49.1.Kind), (.int .i64 r49.1.N), v49_0, v49_1] (Tuple.mk r6.1 r10.1 r37.1 r49.1) 44 := (ow_isoz (fun x : Tuple => (x.Xmin, x.Xmax, x.Key, x.Value)) (Tuple.mk r6.1 r10.1 r37.1 r49.1) (ow_l (fz_int .i64 r6.1) (ow_l (fz_int .i64 r10.1) A108)))
   have A112 := (BlF.st B104 p108 rfl)
   have K113 := ((Ky82.st p104 rfl).st p108 rfl)
   exact re rfl Tryz.func199 rfl (r_b A112 Tryz.underlying58 rfl z58 rfl (r_t rfl r_nil)) rfl ⟨_, rfl, v37_0, v37_1, v49_0, v49_1, rfl, A110.fo K113 rfl z.l, z.ky K113⟩
noncomputable def impl_HeapOk_1_1.f (a0 : (List Int)) : Option (Bool) :=
 ((impl_TupleRead.f a0).bind fun r2 => (some (r2.2 || ((a0.length : Int) == (0 : Int)))))
def impl_HeapOk_1_1.Q (w : World) (F : Nat → Prop) (r : Bool) (v : Value) (w' : World) : Prop :=
 v = (.bool r) ∧ Ky [] w w'
set_option maxHeartbeats 4000000 in
set_option maxRecDepth 100000 in
theorem impl_HeapOk_1_1.calls (a0 : (List Int)) (w : World) (F : Nat → Prop) (w0_0 : Value) (h0_0 : (Kd.sl 5 (Kd.int .u8)).rd w [w0_0] a0 F) (r : Bool) (m : impl_HeapOk_1_1.f a0 = some r) :
  Calls Tryz.prog 204 #[w0_0] w fun en w' => ∃ v, en = .returned v ∧ impl_HeapOk_1_1.Q w F r v w' := by
 obtain ⟨s0, rfl, kp0, z⟩ := start0 w F
 have A0_0 := z.rd h0_0
 refine calls_of_TM (args := [w0_0]) (R := fun r en w' => ∃ v, en = .returned v ∧ impl_HeapOk_1_1.Q s0.w F r v w') Tryz.func204 Tryz.ntmps204 rfl rfl m ?_
 unfold impl_HeapOk_1_1.f
 refine sr ?_
 refine pu rfl rfl rfl rfl rfl ?_
 refine dn ?_
 refine sr ?_
 refine mv w0_0 rfl rfl rfl rfl rfl rfl ?_
 refine cl rfl rfl rfl rfl rfl Tryz.func199 rfl rfl rfl (fun r2 m2 => impl_TupleRead.calls a0 s0.w (fun b => memb [0] (s0.g b) = true) w0_0 A0_0 r2 m2) ?_
 rintro r2 _ w2 m2 ⟨v2_0, v2_1, v2_2, v2_3, rfl, f2_0, ky2⟩
 obtain ⟨s3, rfl, p3, n3⟩ := nwx s0 w2 40 ky2
 have A2_0 := f2_0.c n3
 obtain ⟨os2_0, ho2_0, hn2_0, hc2_0⟩ := A2_0
 obtain ⟨u2_0_0, u2_0_1, u2_0_2, u2_0_3, qu2_0_1, qu2_0_3, e2_0, eo2_0, hu2_0_0, hu2_0_1, hu2_0_2, hu2_0_3⟩ := po58 ho2_0
 have yu2_0_0 : v2_0 = u2_0_0 := congrArg (fun l => (List.drop 4 l).headD undef) e2_0
 have yu2_0_1 : v2_1 = u2_0_1 := congrArg (fun l => (List.drop 5 l).headD undef) e2_0
 have yu2_0_2 : v2_2 = u2_0_2 := congrArg (fun l => (List.drop 8 l).headD undef) e2_0
 have yu2_0_3 : v2_3 = u2_0_3 := congrArg (fun l => (List.drop 9 l).headD undef) e2_0
 subst yu2_0_0
 subst yu2_0_1
 subst yu2_0_2
 subst yu2_0_3
 subst eo2_0
 obtain ⟨s4, hw4, p4, Au2_0_1, hn4, hc4⟩ := sp2 41 hu2_0_1 hn2_0 hc2_0 rfl
 rw [hw4]
 have Au2_0_3 : OwF (Kd.sl 5 (Kd.int .u8)) s4 [v2_3] r2.1.Value.T 41 := sp1 (hw4 ▸ hu2_0_3) hn4 hc4
 refine pu rfl rfl rfl rfl rfl ?_
 refine pu (v := (.agg #[(.int .i64 r2.1.Xmin), (.int .i64 r2.1.Xmax), (.int .i64 r2.1.Key.Kind), (.int .i64 r2.1.Key.N), v2_0, v2_1, (.int .i64 r2.1.Value.Kind), (.int .i64 r2.1.Value.N), v2_2, v2_3])) rfl rfl rfl rfl rfl ?_
 refine pu (v := (.bool r2.2)) rfl rfl rfl rfl rfl ?_
 refine al (cs := [(.int .i64 (0 : Int)), (.int .i64 (0 : Int)), (.int .i64 (0 : Int)), (.int .i64 (0 : Int)), (.float .f64 0), (.slice none 0 0), (.int .i64 (0 : Int)), (.int .i64 (0 : Int)), (.float .f64 0), (.slice none 0 0)]) 42 rfl rfl rfl rfl rfl o58 rfl (fun b7 s7 p7 B7 => ?_)
 have A9 := (Au2_0_3.st p7 rfl)
 have A10 := (Au2_0_1.st p7 rfl)
 refine sva (vs := [(.int .i64 r2.1.Xmin), (.int .i64 r2.1.Xmax), (.int .i64 r2.1.Key.Kind), (.int .i64 r2.1.Key.N), v2_0, v2_1, (.int .i64 r2.1.Value.Kind), (.int .i64 r2.1.Value.N), v2_2, v2_3]) B7 z58 rfl rfl rfl rfl rfl rfl (on_cons rfl (on_cons rfl (on_cons rfl (on_cons rfl (on_cons (FL.one hu2_0_0) (on_cons A10.rd.one (on_cons rfl (on_cons rfl (on_cons (FL.one hu2_0_2) (on_cons A9.rd.one on_nil)))))))))) rfl (fun s11 p11 B11 => ?_)
 refine pu rfl rfl rfl rfl rfl ?_
 refine dn ?_
 refine sr ?_
 refine pu rfl rfl rfl rfl rfl ?_
 refine pu rfl rfl rfl rfl rfl ?_
 refine jy [11, 12, 13, 14, 15] [6] 15 (.bool (r2.2 || ((a0.length : Int) == (0 : Int)))) rfl (fun Kg13 => ?_) (fun j13 => ?_)
 ·
  rcases Bool.eq_false_or_eq_true r2.2 with hb13 | hb13
  ·
   refine sbT hb13 ?_
   refine uw rfl rfl rfl rfl ?_
   refine uw rfl rfl rfl rfl ?_
   refine uw rfl rfl rfl rfl ?_
   refine pu rfl rfl rfl rfl rfl ?_
   exact Kg13 _ (Ag.put ((Ag.put ((Ag.put ((Ag.put (Ag.base rfl) rfl)) rfl)) rfl)) rfl) (by rw [hb13]; rfl)
  ·
   refine sbT hb13 ?_
   refine mv w0_0 rfl rfl rfl rfl rfl rfl ?_
   have K14 := ((((kp0.st p3 rfl).st p4 rfl).st p7 rfl).st p11 rfl)
   have A15 := (A0_0.kp K14)
   refine ln A15 Tryz.underlying24 rfl rfl rfl rfl rfl rfl ?_
   refine pu rfl rfl rfl rfl rfl ?_
   refine pu rfl rfl rfl rfl rfl ?_
   exact Kg13 _ (Ag.put ((Ag.put ((Ag.put ((Ag.put (Ag.base rfl) rfl)) rfl)) rfl)) rfl) (by rw [hb13]; rfl)
 refine pu rfl rfl rfl rfl rfl ?_
 refine dn ?_
 have K16 := ((((kp0.st p3 rfl).st p4 rfl).st p7 rfl).st p11 rfl)
 exact re rfl Tryz.func204 rfl (r_t rfl r_nil) rfl ⟨_, rfl, rfl, z.ky K16⟩
noncomputable def impl_HeapOk_1.f (a0 : Page) : Option (Bool) :=
 ((impl_PageUsed.f a0).bind fun r6 => ((if (decide (r6 ≥ (0 : Int))) = true then ((impl_areAll_byte.f a0.Slots impl_HeapOk_1_1.f).bind fun r12 => (some r12)) else (some false)).bind fun y8 => (some y8)))
def impl_HeapOk_1.Q (w : World) (F : Nat → Prop) (r : Bool) (v : Value) (w' : World) : Prop :=
 v = (.bool r) ∧ Ky [] w w'
set_option maxHeartbeats 4000000 in
set_option maxRecDepth 100000 in
theorem impl_HeapOk_1.calls (a0 : Page) (w : World) (F : Nat → Prop) (w0_0 : Value) (h0_0 : (Kd.sl 24 (Kd.sl 5 (Kd.int .u8))).rd w [w0_0] a0.Slots F) (r : Bool) (m : impl_HeapOk_1.f a0 = some r) :
  Calls Tryz.prog 201 #[(.agg #[(.int .i64 a0.Lsn), w0_0])] w fun en w' => ∃ v, en = .returned v ∧ impl_HeapOk_1.Q w F r v w' := by
 obtain ⟨s0, rfl, kp0, z⟩ := start0 w F
 have A0_0 := z.rd h0_0
 refine calls_of_TM (args := [(.agg #[(.int .i64 a0.Lsn), w0_0])]) (R := fun r en w' => ∃ v, en = .returned v ∧ impl_HeapOk_1.Q s0.w F r v w') Tryz.func201 Tryz.ntmps201 rfl rfl m ?_
 unfold impl_HeapOk_1.f
 refine sr ?_
 refine bx (cs := [(.int .i64 a0.Lsn), w0_0]) 40 rfl rfl rfl rfl rfl rfl (fun b2 s2 p2 B2 => ?_)
 refine pu rfl rfl rfl rfl rfl ?_
 refine dn ?_
 refine sr ?_
 refine lda (es := [(.int .i64 a0.Lsn), w0_0]) B2 Tryz.underlying142 z142 rfl rfl rfl rfl rfl rfl rfl rfl ?_
 have K4 := (kp0.st p2 rfl)
 have A5 := (A0_0.kp K4)
 refine cl rfl rfl rfl rfl rfl Tryz.func202 rfl rfl rfl (fun r6 m6 => impl_PageUsed.calls a0 s2.w (fun b => memb [0] (s2.g b) = true) w0_0 A5 r6 m6) ?_
 rintro r6 _ w6 m6 ⟨rfl, ky6⟩
 obtain ⟨s7, rfl, p7, n7⟩ := nwx s2 w6 41 ky6
 refine pu rfl rfl rfl rfl rfl ?_
 refine pu rfl rfl rfl rfl rfl ?_
 refine ji [8] (fun (y8 : Bool) (e : Env) (w : World) => ∃ (s : St) (e0 : Env), w = s.w ∧ e = upd e0 10 (.bool y8) ∧ Kp s0 s) (fun Gj8 Kj8 => ?_) ?_
 ·
  rcases Bool.eq_false_or_eq_true (decide (r6 ≥ (0 : Int))) with hb8 | hb8
  ·
   refine sbT hb8 ?_
   rw [if_pos hb8]
   refine fa fa142_1 rfl rfl rfl rfl rfl rfl ?_
   have A9 := (BlF.st B2 p7 rfl)
   refine ld A9 Tryz.underlying140 rfl rfl rfl rfl rfl rfl rfl rfl ?_
   have K10 := (K4.st p7 rfl)
   have A11 := (A0_0.kp K10)
   refine cl rfl rfl rfl rfl rfl Tryz.func203 rfl rfl rfl (fun r12 m12 => impl_areAll_byte.calls a0.Slots impl_HeapOk_1_1.f s7.w (fun b => memb [0] (s7.g b) = true) w0_0 (.func (.func 204) #[] #[]) A11 (fun x0 u0_0 w' k h0 r m =>  ⟨204, _, _, [], [], rfl, Tryz.func204, rfl, rfl, (impl_HeapOk_1_1.calls x0 w' (fun _ => True) u0_0 h0 r m).mono fun en w2 hq => by obtain ⟨v, e, q⟩ := hq; exact ⟨v, e, q⟩⟩) rfl r12 m12) ?_
   rintro r12 _ w12 m12 ⟨rfl, ky12⟩
   obtain ⟨s13, rfl, p13, n13⟩ := nwx s7 w12 42 ky12
   refine pu rfl rfl rfl rfl rfl ?_
   have K14 := (K10.st p13 rfl)
   exact Kj8 _ _ _ ⟨s13, _, rfl, (ue rfl rfl), K14⟩
  ·
   refine sbT hb8 ?_
   rw [if_neg (by rw [hb8]; decide)]
   refine uw rfl rfl rfl rfl ?_
   refine uw rfl rfl rfl rfl ?_
   refine uw rfl rfl rfl rfl ?_
   refine pu rfl rfl rfl rfl rfl ?_
   have K15 := (K4.st p7 rfl)
   exact Kj8 _ _ _ ⟨s7, _, rfl, (ue rfl rfl), K15⟩
 rintro y8 _ _ ⟨s16, _, rfl, rfl, Ky8⟩
 refine pu rfl rfl rfl rfl rfl ?_
 refine dn ?_
 exact re rfl Tryz.func201 rfl (r_t rfl r_nil) rfl ⟨_, rfl, rfl, z.ky Ky8⟩
noncomputable def impl_HeapOk.f (a0 : Heap) : Option (Bool) :=
 ((if (decide ((a0.Pages.length : Int) ≤ (16 : Int))) = true then ((impl_areAll_impl_Page.f a0.Pages impl_HeapOk_1.f).bind fun r7 => (some r7)) else (some false)).bind fun y6 => (some y6))
def impl_HeapOk.Q (w : World) (F : Nat → Prop) (r : Bool) (v : Value) (w' : World) : Prop :=
 v = (.bool r) ∧ Ky [] w w'
set_option maxHeartbeats 4000000 in
set_option maxRecDepth 100000 in
theorem impl_HeapOk.calls (a0 : Heap) (w : World) (F : Nat → Prop) (w0_0 : Value) (h0_0 : (Kd.sl 142 kd142).rd w [w0_0] a0.Pages F) (r : Bool) (m : impl_HeapOk.f a0 = some r) :
  Calls Tryz.prog 111 #[(.agg #[w0_0])] w fun en w' => ∃ v, en = .returned v ∧ impl_HeapOk.Q w F r v w' := by
 obtain ⟨s0, rfl, kp0, z⟩ := start0 w F
 have A0_0 := z.rd h0_0
 refine calls_of_TM (args := [(.agg #[w0_0])]) (R := fun r en w' => ∃ v, en = .returned v ∧ impl_HeapOk.Q s0.w F r v w') Tryz.func111 Tryz.ntmps111 rfl rfl m ?_
 unfold impl_HeapOk.f
 refine sr ?_
 refine bx (cs := [w0_0]) 40 rfl rfl rfl rfl rfl rfl (fun b2 s2 p2 B2 => ?_)
 refine pu rfl rfl rfl rfl rfl ?_
 refine dn ?_
 refine sr ?_
 refine fa fa46_0 rfl rfl rfl rfl rfl rfl ?_
 refine ld B2 Tryz.underlying44 rfl rfl rfl rfl rfl rfl rfl rfl ?_
 have K4 := (kp0.st p2 rfl)
 have A5 := (A0_0.kp K4)
 refine ln A5 Tryz.underlying44 rfl rfl rfl rfl rfl rfl ?_
 refine pu rfl rfl rfl rfl rfl ?_
 refine pu rfl rfl rfl rfl rfl ?_
 refine ji [9] (fun (y6 : Bool) (e : Env) (w : World) => ∃ (s : St) (e0 : Env), w = s.w ∧ e = upd e0 11 (.bool y6) ∧ Kp s0 s) (fun Gj6 Kj6 => ?_) ?_
 ·
  rcases Bool.eq_false_or_eq_true (decide ((a0.Pages.length : Int) ≤ (16 : Int))) with hb6 | hb6
  ·
   refine sbT hb6 ?_
   rw [if_pos hb6]
   refine fa fa46_0 rfl rfl rfl rfl rfl rfl ?_
   refine ld B2 Tryz.underlying44 rfl rfl rfl rfl rfl rfl rfl rfl ?_
   refine cl rfl rfl rfl rfl rfl Tryz.func200 rfl rfl rfl (fun r7 m7 => impl_areAll_impl_Page.calls a0.Pages impl_HeapOk_1.f s2.w (fun b => memb [0] (s2.g b) = true) w0_0 (.func (.func 201) #[] #[]) A5 (fun x0 u0_0 w' k h0 r m =>  ⟨201, _, _, [], [], rfl, Tryz.func201, rfl, rfl, (impl_HeapOk_1.calls x0 w' (fun _ => True) u0_0 h0 r m).mono fun en w2 hq => by obtain ⟨v, e, q⟩ := hq; exact ⟨v, e, q⟩⟩) rfl r7 m7) ?_
   rintro r7 _ w7 m7 ⟨rfl, ky7⟩
   obtain ⟨s8, rfl, p8, n8⟩ := nwx s2 w7 41 ky7
   refine pu rfl rfl rfl rfl rfl ?_
   have K9 := (K4.st p8 rfl)
   exact Kj6 _ _ _ ⟨s8, _, rfl, (ue rfl rfl), K9⟩
  ·
   refine sbT hb6 ?_
   rw [if_neg (by rw [hb6]; decide)]
   refine uw rfl rfl rfl rfl ?_
   refine uw rfl rfl rfl rfl ?_
   refine uw rfl rfl rfl rfl ?_
   refine pu rfl rfl rfl rfl rfl ?_
   exact Kj6 _ _ _ ⟨s2, _, rfl, (ue rfl rfl), K4⟩
 rintro y6 _ _ ⟨s10, _, rfl, rfl, Ky6⟩
 refine pu rfl rfl rfl rfl rfl ?_
 refine dn ?_
 exact re rfl Tryz.func111 rfl (r_t rfl r_nil) rfl ⟨_, rfl, rfl, z.ky Ky6⟩
noncomputable def impl_Heap_at.f (a0 : Heap) (a1 : Int) (a2 : Int) : Option (Tuple × Bool) :=
 ((impl_within.f a1 (0 : Int) (IntKind.wrap .i64 ((a0.Pages.length : Int) - (1 : Int)))).bind fun r9 => ((if (!r9) = true then (some true) else (if 0 ≤ a1 ∧ a1 < (a0.Pages.length : Int) then ((impl_within.f a2 (0 : Int) (IntKind.wrap .i64 ((((at_ a0.Pages a1).Slots).length : Int) - (1 : Int)))).bind fun r21 => (some (!r21))) else none)).bind fun y11 => (if y11 = true then (some ((Tuple.mk (0 : Int) (0 : Int) (Item.mk (0 : Int) (0 : Int) (0 : Nat) ([] : (List Int))) (Item.mk (0 : Int) (0 : Int) (0 : Nat) ([] : (List Int)))), false)) else (if 0 ≤ a1 ∧ a1 < (a0.Pages.length : Int) then (if 0 ≤ a2 ∧ a2 < (((at_ a0.Pages a1).Slots).length : Int) then ((impl_TupleRead.f (at_ ((at_ a0.Pages a1).Slots) a2)).bind fun r42 => (some (r42.1, r42.2))) else none) else none))))
def impl_Heap_at.Q (w : World) (F : Nat → Prop) (r : Tuple × Bool) (v : Value) (w' : World) : Prop :=
 ∃ (v0 : Value) (v1 : Value) (v2 : Value) (v3 : Value), v = .tuple #[(.agg #[(.int .i64 r.1.Xmin), (.int .i64 r.1.Xmax), (.int .i64 r.1.Key.Kind), (.int .i64 r.1.Key.N), v0, v1, (.int .i64 r.1.Value.Kind), (.int .i64 r.1.Value.N), v2, v3]), (.bool r.2)] ∧ FO kd58 w w' [(.int .i64 r.1.Xmin), (.int .i64 r.1.Xmax), (.int .i64 r.1.Key.Kind), (.int .i64 r.1.Key.N), v0, v1, (.int .i64 r.1.Value.Kind), (.int .i64 r.1.Value.N), v2, v3] r.1 ∧ Ky [] w w'
set_option maxHeartbeats 4000000 in
set_option maxRecDepth 100000 in
theorem impl_Heap_at.calls (a0 : Heap) (a1 : Int) (a2 : Int) (w : World) (F : Nat → Prop) (w0_0 : Value) (h0_0 : (Kd.sl 142 kd142).rd w [w0_0] a0.Pages F) (r : Tuple × Bool) (m : impl_Heap_at.f a0 a1 a2 = some r) :
  Calls Tryz.prog 110 #[(.agg #[w0_0]), (.int .i64 a1), (.int .i64 a2)] w fun en w' => ∃ v, en = .returned v ∧ impl_Heap_at.Q w F r v w' := by
 obtain ⟨s0, rfl, kp0, z⟩ := start0 w F
 have A0_0 := z.rd h0_0
 refine calls_of_TM (args := [(.agg #[w0_0]), (.int .i64 a1), (.int .i64 a2)]) (R := fun r en w' => ∃ v, en = .returned v ∧ impl_Heap_at.Q s0.w F r v w') Tryz.func110 Tryz.ntmps110 rfl rfl m ?_
 unfold impl_Heap_at.f
 refine sr ?_
 refine bx (cs := [w0_0]) 40 rfl rfl rfl rfl rfl rfl (fun b2 s2 p2 B2 => ?_)
 refine al (cs := [(.int .i64 (0 : Int)), (.int .i64 (0 : Int)), (.int .i64 (0 : Int)), (.int .i64 (0 : Int)), (.float .f64 0), (.slice none 0 0), (.int .i64 (0 : Int)), (.int .i64 (0 : Int)), (.float .f64 0), (.slice none 0 0)]) 41 rfl rfl rfl rfl rfl o58 rfl (fun b4 s4 p4 B4 => ?_)
 refine pu rfl rfl rfl rfl rfl ?_
 refine dn ?_
 refine sq ?_
 refine sr ?_
 refine pu rfl rfl rfl rfl rfl ?_
 refine fa fa46_0 rfl rfl rfl rfl rfl rfl ?_
 have A6 := (BlF.st B2 p4 rfl)
 refine ld A6 Tryz.underlying44 rfl rfl rfl rfl rfl rfl rfl rfl ?_
 have K7 := ((kp0.st p2 rfl).st p4 rfl)
 have A8 := (A0_0.kp K7)
 refine ln A8 Tryz.underlying44 rfl rfl rfl rfl rfl rfl ?_
 refine pu rfl rfl rfl rfl rfl ?_
 refine cl rfl rfl rfl rfl rfl Tryz.func102 rfl rfl rfl (fun r9 m9 => impl_within.calls a1 (0 : Int) (IntKind.wrap .i64 ((a0.Pages.length : Int) - (1 : Int))) s4.w (fun b => memb [] (s4.g b) = true)  r9 m9) ?_
 rintro r9 _ w9 m9 ⟨rfl, ky9⟩
 obtain ⟨s10, rfl, p10, n10⟩ := nwx s4 w9 42 ky9
 refine pu rfl rfl rfl rfl rfl ?_
 refine pu rfl rfl rfl rfl rfl ?_
 refine ji [] (fun (y11 : Bool) (e : Env) (w : World) => ∃ (s : St) (e0 : Env), w = s.w ∧ e = upd (upd (upd (upd (upd e0 1 (.int .i64 a1)) 2 (.int .i64 a2)) 3 (.pointer (some ⟨b2, 0, none⟩))) 6 (.pointer (some ⟨b4, 0, none⟩))) 27 (.bool y11) ∧ Kp s0 s ∧ BlF s b4 58 [(.int .i64 (0 : Int)), (.int .i64 (0 : Int)), (.int .i64 (0 : Int)), (.int .i64 (0 : Int)), (.float .f64 0), (.slice none 0 0), (.int .i64 (0 : Int)), (.int .i64 (0 : Int)), (.float .f64 0), (.slice none 0 0)] 41 ∧ BlF s b2 46 [w0_0] 40) (fun Gj11 Kj11 => ?_) ?_
 ·
  rcases Bool.eq_false_or_eq_true (!r9) with hb11 | hb11
  ·
   refine sbT hb11 ?_
   rw [if_pos hb11]
   refine uw rfl rfl rfl rfl ?_
   refine uw rfl rfl rfl rfl ?_
   refine uw rfl rfl rfl rfl ?_
   refine uw rfl rfl rfl rfl ?_
   refine uw rfl rfl rfl rfl ?_
   refine uw rfl rfl rfl rfl ?_
   refine uw rfl rfl rfl rfl ?_
   refine uw rfl rfl rfl rfl ?_
   refine uw rfl rfl rfl rfl ?_
   refine uw rfl rfl rfl rfl ?_
   refine uw rfl rfl rfl rfl ?_
   refine pu rfl rfl rfl rfl rfl ?_
   have A12 := (BlF.st B4 p10 rfl)
   have A13 := (BlF.st A6 p10 rfl)
   have K14 := (K7.st p10 rfl)
   exact Kj11 _ _ _ ⟨s10, _, rfl, (ue (ue (ue (ue (ue rfl rfl) rfl) rfl) rfl) rfl), K14, A12, A13⟩
  ·
   refine sbT hb11 ?_
   rw [if_neg (by rw [hb11]; decide)]
   refine pu rfl rfl rfl rfl rfl ?_
   refine fa fa46_0 rfl rfl rfl rfl rfl rfl ?_
   have A15 := (BlF.st A6 p10 rfl)
   refine ld A15 Tryz.underlying44 rfl rfl rfl rfl rfl rfl rfl rfl ?_
   refine pu rfl rfl rfl rfl rfl ?_
   have K16 := (K7.st p10 rfl)
   have A17 := (A0_0.kp K16)
   refine ix A17 Tryz.underlying44 z142 rfl rfl rfl rfl rfl rfl rfl rfl (fun ad18 es18 h0_18 h1_18 he18 ce18 ia18 => ?_)
   obtain ⟨v18_0, rfl, A18_0⟩ := op142 he18
   refine fa fa142_1 rfl rfl rfl rfl rfl rfl ?_
   refine lc ce18 Tryz.underlying140 rfl rfl rfl rfl rfl rfl rfl rfl ?_
   refine ln A18_0 Tryz.underlying140 rfl rfl rfl rfl rfl rfl ?_
   refine pu rfl rfl rfl rfl rfl ?_
   refine cl rfl rfl rfl rfl rfl Tryz.func102 rfl rfl rfl (fun r21 m21 => impl_within.calls a2 (0 : Int) (IntKind.wrap .i64 ((((at_ a0.Pages a1).Slots).length : Int) - (1 : Int))) s10.w (fun b => memb [] (s10.g b) = true)  r21 m21) ?_
   rintro r21 _ w21 m21 ⟨rfl, ky21⟩
   obtain ⟨s22, rfl, p22, n22⟩ := nwx s10 w21 43 ky21
   refine pu rfl rfl rfl rfl rfl ?_
   refine pu rfl rfl rfl rfl rfl ?_
   have A23 := (BlF.st (BlF.st B4 p10 rfl) p22 rfl)
   have A24 := (BlF.st A15 p22 rfl)
   have K25 := (K16.st p22 rfl)
   exact Kj11 _ _ _ ⟨s22, _, rfl, (ue (ue (ue (ue (ue rfl rfl) rfl) rfl) rfl) rfl), K25, A23, A24⟩
 rintro y11 _ _ ⟨s26, _, rfl, rfl, Ky11, By11_b4, By11_b2⟩
 refine dn ?_
 refine cd rfl (fun h29 => ?_) (fun h29 => ?_)
 ·
  refine sr ?_
  refine bd (cells := [(.int .i64 (0 : Int)), (.int .i64 (0 : Int)), (.int .i64 (0 : Int)), (.int .i64 (0 : Int)), (.float .f64 0), (.slice none 0 0), (.int .i64 (0 : Int)), (.int .i64 (0 : Int)), (.float .f64 0), (.slice none 0 0)]) pl58 o58 rfl rfl rfl rfl rfl rfl ?_
  refine sva (vs := [(.int .i64 (0 : Int)), (.int .i64 (0 : Int)), (.int .i64 (0 : Int)), (.int .i64 (0 : Int)), (.float .f64 0), (.slice none 0 0), (.int .i64 (0 : Int)), (.int .i64 (0 : Int)), (.float .f64 0), (.slice none 0 0)]) By11_b4 z58 rfl rfl rfl rfl rfl rfl (on_cons rfl (on_cons rfl (on_cons rfl (on_cons rfl (on_cons (FL.one (fl_c rfl)) (on_cons rfl (on_cons rfl (on_cons rfl (on_cons (FL.one (fl_c rfl)) (on_cons rfl on_nil)))))))))) rfl (fun s30 p30 B30 => ?_)
  refine pu rfl rfl rfl rfl rfl ?_
  refine dn ?_
  have A32 : OwF kd58 s30 [(.int .i64 (0 : Int)), (.int .i64 (0 : Int)), (.int .i64 (0 : Int)), (.int .i64 (0 : Int)), (.float .f64 0), (.slice none 0 0), (.int .i64 (0 : Int)), (.int .i64 (0 : Int)), (.float .f64 0), (.slice none 0 0)] (Tuple.mk (0 : Int) (0 : Int) (Item.mk (0 : Int) (0 : Int) (0 : Nat) ([] : (List Int))) (Item.mk (0 : Int) (0 : Int) (0 : Nat) ([] : (List Int)))) 44 := ow_z _ _ (fz_iso (fun x : Tuple => (x.Xmin, x.Xmax, x.Key, x.Value)) (Tuple.mk (0 : Int) (0 : Int) (Item.mk (0 : Int) (0 : Int) (0 : Nat) ([] : (List Int))) (Item.mk (0 : Int) (0 : Int) (0 : Nat) ([] : (List Int)))) (fz_pair (fz_int .i64 (0 : Int)) (fz_pair (fz_int .i64 (0 : Int)) (fz_pair (fz_iso (fun x : Item => (x.Kind, x.N, x.F, x.T)) (Item.mk (0 : Int) (0 : Int) (0 : Nat) ([] : (List Int))) (fz_pair (fz_int .i64 (0 : Int)) (fz_pair (fz_int .i64 (0 : Int)) (fz_pair (fz_flt (fl_c rfl)) (fz_nil 5 (Kd.int .u8)))))) (fz_iso (fun x : Item => (x.Kind, x.N, x.F, x.T)) (Item.mk (0 : Int) (0 : Int) (0 : Nat) ([] : (List Int))) (fz_pair (fz_int .i64 (0 : Int)) (fz_pair (fz_int .i64 (0 : Int)) (fz_pair (fz_flt (fl_c rfl)) (fz_nil 5 (Kd.int .u8))))))))))
  have K34 := (Ky11.st p30 rfl)
  exact re rfl Tryz.func110 rfl (r_b B30 Tryz.underlying58 rfl z58 rfl (r_t rfl r_nil)) rfl ⟨_, rfl, (.float .f64 0), (.slice none 0 0), (.float .f64 0), (.slice none 0 0), rfl, A32.fo K34 rfl z.l, z.ky K34⟩
 ·
  refine sk ?_
  refine sr ?_
  refine fa fa46_0 rfl rfl rfl rfl rfl rfl ?_
  refine ld By11_b2 Tryz.underlying44 rfl rfl rfl rfl rfl rfl rfl rfl ?_
  refine pu rfl rfl rfl rfl rfl ?_
  have A35 := (A0_0.kp Ky11)
  refine ix A35 Tryz.underlying44 z142 rfl rfl rfl rfl rfl rfl rfl rfl (fun ad36 es36 h0_36 h1_36 he36 ce36 ia36 => ?_)
  obtain ⟨v36_0, rfl, A36_0⟩ := op142 he36
  refine fa fa142_1 rfl rfl rfl rfl rfl rfl ?_
  refine lc ce36 Tryz.underlying140 rfl rfl rfl rfl rfl rfl rfl rfl ?_
  refine pu rfl rfl rfl rfl rfl ?_
  refine ix A36_0 Tryz.underlying140 z24 rfl rfl rfl rfl rfl rfl rfl rfl (fun ad39 es39 h0_39 h1_39 he39 ce39 ia39 => ?_)
  obtain ⟨v39, rfl, he39'⟩ := he39
  have A39 : RdF (Kd.sl 5 (Kd.int .u8)) s26 [v39] (at_ ((at_ a0.Pages a1).Slots) a2) [0] := ⟨v39, rfl, he39'⟩
  refine lc0 ce39 Tryz.underlying24 rfl rfl rfl rfl rfl rfl rfl rfl ?_
  refine cl rfl rfl rfl rfl rfl Tryz.func199 rfl rfl rfl (fun r42 m42 => impl_TupleRead.calls (at_ ((at_ a0.Pages a1).Slots) a2) s26.w (fun b => memb [0] (s26.g b) = true) v39 A39 r42 m42) ?_
  rintro r42 _ w42 m42 ⟨v42_0, v42_1, v42_2, v42_3, rfl, f42_0, ky42⟩
  obtain ⟨s43, rfl, p43, n43⟩ := nwx s26 w42 45 ky42
  have A42_0 := f42_0.c n43
  obtain ⟨os42_0, ho42_0, hn42_0, hc42_0⟩ := A42_0
  obtain ⟨u42_0_0, u42_0_1, u42_0_2, u42_0_3, qu42_0_1, qu42_0_3, e42_0, eo42_0, hu42_0_0, hu42_0_1, hu42_0_2, hu42_0_3⟩ := po58 ho42_0
  have yu42_0_0 : v42_0 = u42_0_0 := congrArg (fun l => (List.drop 4 l).headD undef) e42_0
  have yu42_0_1 : v42_1 = u42_0_1 := congrArg (fun l => (List.drop 5 l).headD undef) e42_0
  have yu42_0_2 : v42_2 = u42_0_2 := congrArg (fun l => (List.drop 8 l).headD undef) e42_0
  have yu42_0_3 : v42_3 = u42_0_3 := congrArg (fun l => (List.drop 9 l).headD undef) e42_0
  subst yu42_0_0
  subst yu42_0_1
  subst yu42_0_2
  subst yu42_0_3
  subst eo42_0
  obtain ⟨s44, hw44, p44, Au42_0_1, hn44, hc44⟩ := sp2 46 hu42_0_1 hn42_0 hc42_0 rfl
  rw [hw44]
  have Au42_0_3 : OwF (Kd.sl 5 (Kd.int .u8)) s44 [v42_3] r42.1.Value.T 46 := sp1 (hw44 ▸ hu42_0_3) hn44 hc44
  refine pu (v := (.agg #[(.int .i64 r42.1.Xmin), (.int .i64 r42.1.Xmax), (.int .i64 r42.1.Key.Kind), (.int .i64 r42.1.Key.N), v42_0, v42_1, (.int .i64 r42.1.Value.Kind), (.int .i64 r42.1.Value.N), v42_2, v42_3])) rfl rfl rfl rfl rfl ?_
  refine pu (v := (.bool r42.2)) rfl rfl rfl rfl rfl ?_
  have A47 := (BlF.st (BlF.st By11_b4 p43 rfl) p44 rfl)
  refine sva (vs := [(.int .i64 r42.1.Xmin), (.int .i64 r42.1.Xmax), (.int .i64 r42.1.Key.Kind), (.int .i64 r42.1.Key.N), v42_0, v42_1, (.int .i64 r42.1.Value.Kind), (.int .i64 r42.1.Value.N), v42_2, v42_3]) A47 z58 rfl rfl rfl rfl rfl rfl (on_cons rfl (on_cons rfl (on_cons rfl (on_cons rfl (on_cons (FL.one hu42_0_0) (on_cons Au42_0_1.rd.one (on_cons rfl (on_cons rfl (on_cons (FL.one hu42_0_2) (on_cons Au42_0_3.rd.one on_nil)))))))))) rfl (fun s48 p48 B48 => ?_)
  refine pu rfl rfl rfl rfl rfl ?_
  refine dn ?_
  have A50 := (Au42_0_1.st p48 rfl)
  have A51 := (Au42_0_3.st p48 rfl)
  obtain ⟨s52, hw52, p52, A52⟩ := ow_2 (ow_isoz (fun x : Item => (x.Kind, x.N, x.F, x.T)) r42.1.Key (ow_l (fz_int .i64 r42.1.Key.Kind) (ow_l (fz_int .i64 r42.1.Key.N) (ow_l (fz_flt hu42_0_0) A50)))) (ow_isoz (fun x : Item => (x.Kind, x.N, x.F, x.T)) r42.1.Value (ow_l (fz_int .i64 r42.1.Value.Kind) (ow_l (fz_int .i64 r42.1.Value.N) (ow_l (fz_flt hu42_0_2) A51)))) rfl rfl
  rw [hw52]
  have A54 : OwF kd58 s52 [(.int .i64 r42.1.Xmin), (.int .i64 r42.1.Xmax), (.int .i64 r42.1.Key.Kind), (.int .i64 r42.1.Key.N), v42_0, v42_1, (.int .i64 r42.1.Value.Kind), (.int .i64 r42.1.Value.N), v42_2, v42_3] r42.1 45 := (ow_isoz (fun x : Tuple => (x.Xmin, x.Xmax, x.Key, x.Value)) r42.1 (ow_l (fz_int .i64 r42.1.Xmin) (ow_l (fz_int .i64 r42.1.Xmax) A52)))
  have A56 := (BlF.st B48 p52 rfl)
  have K57 := ((((Ky11.st p43 rfl).st p44 rfl).st p48 rfl).st p52 rfl)
  exact re rfl Tryz.func110 rfl (r_b A56 Tryz.underlying58 rfl z58 rfl (r_t rfl r_nil)) rfl ⟨_, rfl, v42_0, v42_1, v42_2, v42_3, rfl, A54.fo K57 rfl z.l, z.ky K57⟩
noncomputable def impl_HeapAt.f (a0 : Heap) (a1 : Int) (a2 : Int) : Option (Tuple × Bool) :=
 ((impl_HeapOk.f a0).bind fun r9 => (if (!r9) = true then (some ((Tuple.mk (0 : Int) (0 : Int) (Item.mk (0 : Int) (0 : Int) (0 : Nat) ([] : (List Int))) (Item.mk (0 : Int) (0 : Int) (0 : Nat) ([] : (List Int)))), false)) else ((impl_Heap_at.f a0 a1 a2).bind fun r21 => (some (r21.1, r21.2)))))
def impl_HeapAt.Q (w : World) (F : Nat → Prop) (r : Tuple × Bool) (v : Value) (w' : World) : Prop :=
 ∃ (v0 : Value) (v1 : Value) (v2 : Value) (v3 : Value), v = .tuple #[(.agg #[(.int .i64 r.1.Xmin), (.int .i64 r.1.Xmax), (.int .i64 r.1.Key.Kind), (.int .i64 r.1.Key.N), v0, v1, (.int .i64 r.1.Value.Kind), (.int .i64 r.1.Value.N), v2, v3]), (.bool r.2)] ∧ FO kd58 w w' [(.int .i64 r.1.Xmin), (.int .i64 r.1.Xmax), (.int .i64 r.1.Key.Kind), (.int .i64 r.1.Key.N), v0, v1, (.int .i64 r.1.Value.Kind), (.int .i64 r.1.Value.N), v2, v3] r.1 ∧ Ky [] w w'
set_option maxHeartbeats 4000000 in
set_option maxRecDepth 100000 in
theorem impl_HeapAt.calls (a0 : Heap) (a1 : Int) (a2 : Int) (w : World) (F : Nat → Prop) (w0_0 : Value) (h0_0 : (Kd.sl 142 kd142).rd w [w0_0] a0.Pages F) (r : Tuple × Bool) (m : impl_HeapAt.f a0 a1 a2 = some r) :
  Calls Tryz.prog 101 #[(.agg #[w0_0]), (.int .i64 a1), (.int .i64 a2)] w fun en w' => ∃ v, en = .returned v ∧ impl_HeapAt.Q w F r v w' := by
 obtain ⟨s0, rfl, kp0, z⟩ := start0 w F
 have A0_0 := z.rd h0_0
 refine calls_of_TM (args := [(.agg #[w0_0]), (.int .i64 a1), (.int .i64 a2)]) (R := fun r en w' => ∃ v, en = .returned v ∧ impl_HeapAt.Q s0.w F r v w') Tryz.func101 Tryz.ntmps101 rfl rfl m ?_
 unfold impl_HeapAt.f
 refine sr ?_
 refine bx (cs := [w0_0]) 40 rfl rfl rfl rfl rfl rfl (fun b2 s2 p2 B2 => ?_)
 refine al (cs := [(.int .i64 (0 : Int)), (.int .i64 (0 : Int)), (.int .i64 (0 : Int)), (.int .i64 (0 : Int)), (.float .f64 0), (.slice none 0 0), (.int .i64 (0 : Int)), (.int .i64 (0 : Int)), (.float .f64 0), (.slice none 0 0)]) 41 rfl rfl rfl rfl rfl o58 rfl (fun b4 s4 p4 B4 => ?_)
 refine pu rfl rfl rfl rfl rfl ?_
 refine dn ?_
 refine sq ?_
 refine sr ?_
 have A6 := (BlF.st B2 p4 rfl)
 refine lda (es := [w0_0]) A6 Tryz.underlying46 z46 rfl rfl rfl rfl rfl rfl rfl rfl ?_
 have K7 := ((kp0.st p2 rfl).st p4 rfl)
 have A8 := (A0_0.kp K7)
 refine cl rfl rfl rfl rfl rfl Tryz.func111 rfl rfl rfl (fun r9 m9 => impl_HeapOk.calls a0 s4.w (fun b => memb [0] (s4.g b) = true) w0_0 A8 r9 m9) ?_
 rintro r9 _ w9 m9 ⟨rfl, ky9⟩
 obtain ⟨s10, rfl, p10, n10⟩ := nwx s4 w9 42 ky9
 refine pu rfl rfl rfl rfl rfl ?_
 refine dn ?_
 refine cd rfl (fun h11 => ?_) (fun h11 => ?_)
 ·
  refine sr ?_
  refine bd (cells := [(.int .i64 (0 : Int)), (.int .i64 (0 : Int)), (.int .i64 (0 : Int)), (.int .i64 (0 : Int)), (.float .f64 0), (.slice none 0 0), (.int .i64 (0 : Int)), (.int .i64 (0 : Int)), (.float .f64 0), (.slice none 0 0)]) pl58 o58 rfl rfl rfl rfl rfl rfl ?_
  have A12 := (BlF.st B4 p10 rfl)
  refine sva (vs := [(.int .i64 (0 : Int)), (.int .i64 (0 : Int)), (.int .i64 (0 : Int)), (.int .i64 (0 : Int)), (.float .f64 0), (.slice none 0 0), (.int .i64 (0 : Int)), (.int .i64 (0 : Int)), (.float .f64 0), (.slice none 0 0)]) A12 z58 rfl rfl rfl rfl rfl rfl (on_cons rfl (on_cons rfl (on_cons rfl (on_cons rfl (on_cons (FL.one (fl_c rfl)) (on_cons rfl (on_cons rfl (on_cons rfl (on_cons (FL.one (fl_c rfl)) (on_cons rfl on_nil)))))))))) rfl (fun s13 p13 B13 => ?_)
  refine pu rfl rfl rfl rfl rfl ?_
  refine dn ?_
  have A15 : OwF kd58 s13 [(.int .i64 (0 : Int)), (.int .i64 (0 : Int)), (.int .i64 (0 : Int)), (.int .i64 (0 : Int)), (.float .f64 0), (.slice none 0 0), (.int .i64 (0 : Int)), (.int .i64 (0 : Int)), (.float .f64 0), (.slice none 0 0)] (Tuple.mk (0 : Int) (0 : Int) (Item.mk (0 : Int) (0 : Int) (0 : Nat) ([] : (List Int))) (Item.mk (0 : Int) (0 : Int) (0 : Nat) ([] : (List Int)))) 43 := ow_z _ _ (fz_iso (fun x : Tuple => (x.Xmin, x.Xmax, x.Key, x.Value)) (Tuple.mk (0 : Int) (0 : Int) (Item.mk (0 : Int) (0 : Int) (0 : Nat) ([] : (List Int))) (Item.mk (0 : Int) (0 : Int) (0 : Nat) ([] : (List Int)))) (fz_pair (fz_int .i64 (0 : Int)) (fz_pair (fz_int .i64 (0 : Int)) (fz_pair (fz_iso (fun x : Item => (x.Kind, x.N, x.F, x.T)) (Item.mk (0 : Int) (0 : Int) (0 : Nat) ([] : (List Int))) (fz_pair (fz_int .i64 (0 : Int)) (fz_pair (fz_int .i64 (0 : Int)) (fz_pair (fz_flt (fl_c rfl)) (fz_nil 5 (Kd.int .u8)))))) (fz_iso (fun x : Item => (x.Kind, x.N, x.F, x.T)) (Item.mk (0 : Int) (0 : Int) (0 : Nat) ([] : (List Int))) (fz_pair (fz_int .i64 (0 : Int)) (fz_pair (fz_int .i64 (0 : Int)) (fz_pair (fz_flt (fl_c rfl)) (fz_nil 5 (Kd.int .u8))))))))))
  have K17 := ((K7.st p10 rfl).st p13 rfl)
  exact re rfl Tryz.func101 rfl (r_b B13 Tryz.underlying58 rfl z58 rfl (r_t rfl r_nil)) rfl ⟨_, rfl, (.float .f64 0), (.slice none 0 0), (.float .f64 0), (.slice none 0 0), rfl, A15.fo K17 rfl z.l, z.ky K17⟩
 ·
  refine sk ?_
  refine sr ?_
  have A18 := (BlF.st A6 p10 rfl)
  refine lda (es := [w0_0]) A18 Tryz.underlying46 z46 rfl rfl rfl rfl rfl rfl rfl rfl ?_
  refine pu rfl rfl rfl rfl rfl ?_
  refine pu rfl rfl rfl rfl rfl ?_
  have K19 := (K7.st p10 rfl)
  have A20 := (A0_0.kp K19)
  refine cl rfl rfl rfl rfl rfl Tryz.func110 rfl rfl rfl (fun r21 m21 => impl_Heap_at.calls a0 a1 a2 s10.w (fun b => memb [0] (s10.g b) = true) w0_0 A20 r21 m21) ?_
  rintro r21 _ w21 m21 ⟨v21_0, v21_1, v21_2, v21_3, rfl, f21_0, ky21⟩
  obtain ⟨s22, rfl, p22, n22⟩ := nwx s10 w21 44 ky21
  have A21_0 := f21_0.c n22
  obtain ⟨os21_0, ho21_0, hn21_0, hc21_0⟩ := A21_0
  obtain ⟨u21_0_0, u21_0_1, u21_0_2, u21_0_3, qu21_0_1, qu21_0_3, e21_0, eo21_0, hu21_0_0, hu21_0_1, hu21_0_2, hu21_0_3⟩ := po58 ho21_0
  have yu21_0_0 : v21_0 = u21_0_0 := congrArg (fun l => (List.drop 4 l).headD undef) e21_0
  have yu21_0_1 : v21_1 = u21_0_1 := congrArg (fun l => (List.drop 5 l).headD undef) e21_0
  have yu21_0_2 : v21_2 = u21_0_2 := congrArg (fun l => (List.drop 8 l).headD undef) e21_0
  have yu21_0_3 : v21_3 = u21_0_3 := congrArg (fun l => (List.drop 9 l).headD undef) e21_0
  subst yu21_0_0
  subst yu21_0_1
  subst yu21_0_2
  subst yu21_0_3
  subst eo21_0
  obtain ⟨s23, hw23, p23, Au21_0_1, hn23, hc23⟩ := sp2 45 hu21_0_1 hn21_0 hc21_0 rfl
  rw [hw23]
  have Au21_0_3 : OwF (Kd.sl 5 (Kd.int .u8)) s23 [v21_3] r21.1.Value.T 45 := sp1 (hw23 ▸ hu21_0_3) hn23 hc23
  refine pu (v := (.agg #[(.int .i64 r21.1.Xmin), (.int .i64 r21.1.Xmax), (.int .i64 r21.1.Key.Kind), (.int .i64 r21.1.Key.N), v21_0, v21_1, (.int .i64 r21.1.Value.Kind), (.int .i64 r21.1.Value.N), v21_2, v21_3])) rfl rfl rfl rfl rfl ?_
  refine pu (v := (.bool r21.2)) rfl rfl rfl rfl rfl ?_
  have A26 := (BlF.st (BlF.st (BlF.st B4 p10 rfl) p22 rfl) p23 rfl)
  refine sva (vs := [(.int .i64 r21.1.Xmin), (.int .i64 r21.1.Xmax), (.int .i64 r21.1.Key.Kind), (.int .i64 r21.1.Key.N), v21_0, v21_1, (.int .i64 r21.1.Value.Kind), (.int .i64 r21.1.Value.N), v21_2, v21_3]) A26 z58 rfl rfl rfl rfl rfl rfl (on_cons rfl (on_cons rfl (on_cons rfl (on_cons rfl (on_cons (FL.one hu21_0_0) (on_cons Au21_0_1.rd.one (on_cons rfl (on_cons rfl (on_cons (FL.one hu21_0_2) (on_cons Au21_0_3.rd.one on_nil)))))))))) rfl (fun s27 p27 B27 => ?_)
  refine pu rfl rfl rfl rfl rfl ?_
  refine dn ?_
  have A29 := (Au21_0_1.st p27 rfl)
  have A30 := (Au21_0_3.st p27 rfl)
  obtain ⟨s31, hw31, p31, A31⟩ := ow_2 (ow_isoz (fun x : Item => (x.Kind, x.N, x.F, x.T)) r21.1.Key (ow_l (fz_int .i64 r21.1.Key.Kind) (ow_l (fz_int .i64 r21.1.Key.N) (ow_l (fz_flt hu21_0_0) A29)))) (ow_isoz (fun x : Item => (x.Kind, x.N, x.F, x.T)) r21.1.Value (ow_l (fz_int .i64 r21.1.Value.Kind) (ow_l (fz_int .i64 r21.1.Value.N) (ow_l (fz_flt hu21_0_2) A30)))) rfl rfl
  rw [hw31]
  have A33 : OwF kd58 s31 [(.int .i64 r21.1.Xmin), (.int .i64 r21.1.Xmax), (.int .i64 r21.1.Key.Kind), (.int .i64 r21.1.Key.N), v21_0, v21_1, (.int .i64 r21.1.Value.Kind), (.int .i64 r21.1.Value.N), v21_2, v21_3] r21.1 44 := (ow_isoz (fun x : Tuple => (x.Xmin, x.Xmax, x.Key, x.Value)) r21.1 (ow_l (fz_int .i64 r21.1.Xmin) (ow_l (fz_int .i64 r21.1.Xmax) A31)))
  have A35 := (BlF.st B27 p31 rfl)
  have K36 := ((((K19.st p22 rfl).st p23 rfl).st p27 rfl).st p31 rfl)
  exact re rfl Tryz.func101 rfl (r_b A35 Tryz.underlying58 rfl z58 rfl (r_t rfl r_nil)) rfl ⟨_, rfl, v21_0, v21_1, v21_2, v21_3, rfl, A33.fo K36 rfl z.l, z.ky K36⟩
noncomputable def impl_isSlot.f (a0 : Int) : Option (Bool) :=
 ((impl_within.f a0 (0 : Int) (15 : Int)).bind fun r1 => (some r1))
def impl_isSlot.Q (w : World) (F : Nat → Prop) (r : Bool) (v : Value) (w' : World) : Prop :=
 v = (.bool r) ∧ Ky [] w w'
set_option maxHeartbeats 4000000 in
set_option maxRecDepth 100000 in
theorem impl_isSlot.calls (a0 : Int) (w : World) (F : Nat → Prop)   (r : Bool) (m : impl_isSlot.f a0 = some r) :
  Calls Tryz.prog 238 #[(.int .i64 a0)] w fun en w' => ∃ v, en = .returned v ∧ impl_isSlot.Q w F r v w' := by
 obtain ⟨s0, rfl, kp0, z⟩ := start0 w F
 refine calls_of_TM (args := [(.int .i64 a0)]) (R := fun r en w' => ∃ v, en = .returned v ∧ impl_isSlot.Q s0.w F r v w') Tryz.func238 Tryz.ntmps238 rfl rfl m ?_
 unfold impl_isSlot.f
 refine sr ?_
 refine pu rfl rfl rfl rfl rfl ?_
 refine dn ?_
 refine sr ?_
 refine pu rfl rfl rfl rfl rfl ?_
 refine cl rfl rfl rfl rfl rfl Tryz.func102 rfl rfl rfl (fun r1 m1 => impl_within.calls a0 (0 : Int) (15 : Int) s0.w (fun b => memb [] (s0.g b) = true)  r1 m1) ?_
 rintro r1 _ w1 m1 ⟨rfl, ky1⟩
 obtain ⟨s2, rfl, p2, n2⟩ := nwx s0 w1 40 ky1
 refine pu rfl rfl rfl rfl rfl ?_
 refine dn ?_
 have K3 := (kp0.st p2 rfl)
 exact re rfl Tryz.func238 rfl (r_t rfl r_nil) rfl ⟨_, rfl, rfl, z.ky K3⟩
noncomputable def impl_isLsn.f (a0 : Int) : Option (Bool) :=
 ((impl_within.f a0 (1 : Int) (1000000 : Int)).bind fun r1 => (some r1))
def impl_isLsn.Q (w : World) (F : Nat → Prop) (r : Bool) (v : Value) (w' : World) : Prop :=
 v = (.bool r) ∧ Ky [] w w'
set_option maxHeartbeats 4000000 in
set_option maxRecDepth 100000 in
theorem impl_isLsn.calls (a0 : Int) (w : World) (F : Nat → Prop)   (r : Bool) (m : impl_isLsn.f a0 = some r) :
  Calls Tryz.prog 236 #[(.int .i64 a0)] w fun en w' => ∃ v, en = .returned v ∧ impl_isLsn.Q w F r v w' := by
 obtain ⟨s0, rfl, kp0, z⟩ := start0 w F
 refine calls_of_TM (args := [(.int .i64 a0)]) (R := fun r en w' => ∃ v, en = .returned v ∧ impl_isLsn.Q s0.w F r v w') Tryz.func236 Tryz.ntmps236 rfl rfl m ?_
 unfold impl_isLsn.f
 refine sr ?_
 refine pu rfl rfl rfl rfl rfl ?_
 refine dn ?_
 refine sr ?_
 refine pu rfl rfl rfl rfl rfl ?_
 refine cl rfl rfl rfl rfl rfl Tryz.func102 rfl rfl rfl (fun r1 m1 => impl_within.calls a0 (1 : Int) (1000000 : Int) s0.w (fun b => memb [] (s0.g b) = true)  r1 m1) ?_
 rintro r1 _ w1 m1 ⟨rfl, ky1⟩
 obtain ⟨s2, rfl, p2, n2⟩ := nwx s0 w1 40 ky1
 refine pu rfl rfl rfl rfl rfl ?_
 refine dn ?_
 have K3 := (kp0.st p2 rfl)
 exact re rfl Tryz.func236 rfl (r_t rfl r_nil) rfl ⟨_, rfl, rfl, z.ky K3⟩
noncomputable def impl_Page_slots.b0 (a0 : Page) (x6 : (List (List Int)) × Int) : Option (((List (List Int)) × Int) ⊕ (List (List Int))) :=
 (if (decide (x6.2 < (a0.Slots.length : Int))) = true then (if 0 ≤ x6.2 ∧ x6.2 < (a0.Slots.length : Int) then ((slices_Clone_byte_byte.f (at_ a0.Slots x6.2)).bind fun r14 => (if x6.1.length + ([r14]).length ≤ Lim then (some (Sum.inl ((x6.1 ++ [r14]), (IntKind.wrap .i64 (x6.2 + (1 : Int)))))) else none)) else none) else ((some x6.1).bind fun o => some (Sum.inr o)))
noncomputable def impl_Page_slots.f (a0 : Page) : Option ((List (List Int))) :=
 (iter (impl_Page_slots.b0 a0) (([] : (List (List Int))), (0 : Int)))
def impl_Page_slots.Q (w : World) (F : Nat → Prop) (r : (List (List Int))) (v : Value) (w' : World) : Prop :=
 FO (Kd.sl 24 (Kd.sl 5 (Kd.int .u8))) w w' [v] r ∧ Ky [] w w'
set_option maxHeartbeats 4000000 in
set_option maxRecDepth 100000 in
theorem impl_Page_slots.calls (a0 : Page) (w : World) (F : Nat → Prop) (w0_0 : Value) (h0_0 : (Kd.sl 24 (Kd.sl 5 (Kd.int .u8))).rd w [w0_0] a0.Slots F) (r : (List (List Int))) (m : impl_Page_slots.f a0 = some r) :
  Calls Tryz.prog 145 #[(.agg #[(.int .i64 a0.Lsn), w0_0])] w fun en w' => ∃ v, en = .returned v ∧ impl_Page_slots.Q w F r v w' := by
 obtain ⟨s0, rfl, kp0, z⟩ := start0 w F
 have A0_0 := z.rd h0_0
 refine calls_of_TM (args := [(.agg #[(.int .i64 a0.Lsn), w0_0])]) (R := fun r en w' => ∃ v, en = .returned v ∧ impl_Page_slots.Q s0.w F r v w') Tryz.func145 Tryz.ntmps145 rfl rfl m ?_
 unfold impl_Page_slots.f
 refine sr ?_
 refine bx (cs := [(.int .i64 a0.Lsn), w0_0]) 40 rfl rfl rfl rfl rfl rfl (fun b2 s2 p2 B2 => ?_)
 refine pu rfl rfl rfl rfl rfl ?_
 refine dn ?_
 refine sr ?_
 refine pu rfl rfl rfl rfl rfl ?_
 refine dn ?_
 refine sq ?_
 refine sr ?_
 refine fa fa142_1 rfl rfl rfl rfl rfl rfl ?_
 refine ld B2 Tryz.underlying140 rfl rfl rfl rfl rfl rfl rfl rfl ?_
 have K4 := (kp0.st p2 rfl)
 have A5 := (A0_0.kp K4)
 refine ln A5 Tryz.underlying140 rfl rfl rfl rfl rfl rfl ?_
 refine pu rfl rfl rfl rfl rfl ?_
 refine dn ?_
 refine bl ?_
 refine lpI (fun (x6 : (List (List Int)) × Int) (e : Env) (w : World) => ∃ (s : St) (e0 : Env) (vx6_0 : Value), w = s.w ∧ e = upd (upd (upd (upd e0 3 vx6_0) 7 w0_0) 8 (.int .i64 (a0.Slots.length : Int))) 9 (.int .i64 x6.2) ∧ Kp s0 s ∧ OwF (Kd.sl 24 (Kd.sl 5 (Kd.int .u8))) s [vx6_0] x6.1 41) ⟨s2, _, (.slice none 0 0), rfl, (ue (ue (ue (ue rfl rfl) rfl) rfl) rfl), K4, (ow_nil 24 (Kd.sl 5 (Kd.int .u8)) _ 41)⟩ (fun g6 ih6 => ?_)
 rintro x6 _ _ ⟨s7, _, vx6_0, rfl, rfl, Kx6, Ax6_0⟩
 unfold impl_Page_slots.b0
 refine sr ?_
 refine pu rfl rfl rfl rfl rfl ?_
 refine dn ?_
 refine sq ?_
 refine cd rfl (fun h9 => ?_) (fun h9 => ?_)
 ·
  refine sk ?_
  refine sq ?_
  refine bl ?_
  refine sr ?_
  have A10 := (A0_0.kp Kx6)
  refine ix A10 Tryz.underlying140 z24 rfl rfl rfl rfl rfl rfl rfl rfl (fun ad11 es11 h0_11 h1_11 he11 ce11 ia11 => ?_)
  obtain ⟨v11, rfl, he11'⟩ := he11
  have A11 : RdF (Kd.sl 5 (Kd.int .u8)) s7 [v11] (at_ a0.Slots x6.2) [0] := ⟨v11, rfl, he11'⟩
  refine lc0 ce11 Tryz.underlying24 rfl rfl rfl rfl rfl rfl rfl rfl ?_
  refine asg v11 rfl rfl rfl rfl rfl rfl ?_
  refine dn ?_
  refine rg ?_
  refine mv vx6_0 rfl rfl rfl rfl rfl rfl ?_
  refine mv v11 rfl rfl rfl rfl rfl rfl ?_
  refine cl rfl rfl rfl rfl rfl Tryz.func174 rfl rfl rfl (fun r14 m14 => slices_Clone_byte_byte.calls (at_ a0.Slots x6.2) s7.w (fun b => memb [0] (s7.g b) = true) v11 A11 r14 m14) ?_
  rintro r14 v14_0 w14 m14 ⟨f14_0, ky14⟩
  obtain ⟨s15, rfl, p15, n15⟩ := nwx s7 w14 42 ky14
  have A14_0 := f14_0.c n15
  have L17 := lo_one A14_0
  refine ltO (K := (Kd.sl 5 (Kd.int .u8))) (cells := [v14_0]) [r14] 42 Tryz.underlying140 z24 o24 L17 rfl rfl rfl rfl rfl rfl rfl rfl rfl (lfill_pc (pc_c (oc A14_0.rd.one) pc_n) rfl) (fun v18 s18 p18 A18 => ?_)
  have A20 := ((Ax6_0.st p15 rfl).st p18 rfl)
  refine apO sl140 A20 A18 rfl rfl rfl rfl rfl rfl rfl rfl rfl (fun v21 s21 p21 A21 => ?_)
  refine asg v21 rfl rfl rfl rfl rfl rfl ?_
  refine dn ?_
  refine ib ?_
  refine rg ?_
  refine pu rfl rfl rfl rfl rfl ?_
  refine pu rfl rfl rfl rfl rfl ?_
  refine dn ?_
  have K23 := (((Kx6.st p15 rfl).st p18 rfl).st p21 rfl)
  exact lb ih6 ⟨s21, _, v21, rfl, (ue (ue (ue (ue rfl rfl) rfl) rfl) rfl), K23, A21⟩
 ·
  refine xt rfl ?_
  refine sgb ?_
  refine sr ?_
  refine mv vx6_0 rfl rfl rfl rfl rfl rfl ?_
  refine asg vx6_0 rfl rfl rfl rfl rfl rfl ?_
  refine dn ?_
  exact re rfl Tryz.func145 rfl (r_t rfl r_nil) rfl ⟨_, rfl, Ax6_0.fo Kx6 rfl z.l, z.ky Kx6⟩
noncomputable def impl_PagePut.b0 (a1 : Int) (a2 : (List Int)) (a3 : Int) (x50 : (List (List Int))) : Option ((List (List Int)) ⊕ (Page × Bool)) :=
 (if (decide ((x50.length : Int) ≤ a1)) = true then (if x50.length + ([([] : (List Int))]).length ≤ Lim then (some (Sum.inl (x50 ++ [([] : (List Int))]))) else none) else (((slices_Clone_byte_byte.f a2).bind fun r83 => (if 0 ≤ a1 ∧ a1 < (x50.length : Int) then ((impl_PageUsed.f (Page.mk a3 (x50.set (a1).toNat r83))).bind fun r95 => (if (decide (r95 < (0 : Int))) = true then (some ((Page.mk (0 : Int) ([] : (List (List Int)))), false)) else (some ((Page.mk a3 (x50.set (a1).toNat r83)), true)))) else none)).bind fun o => some (Sum.inr o)))
noncomputable def impl_PagePut.f (a0 : Page) (a1 : Int) (a2 : (List Int)) (a3 : Int) : Option (Page × Bool) :=
 ((impl_PageUsed.f a0).bind fun r10 => ((if (decide (r10 < (0 : Int))) = true then (some true) else ((impl_isSlot.f a1).bind fun r16 => (some (!r16)))).bind fun y12 => ((if (y12 || ((a2.length : Int) == (0 : Int))) = true then (some true) else ((impl_isLsn.f a3).bind fun r27 => (some (!r27)))).bind fun y26 => (if y26 = true then (some ((Page.mk (0 : Int) ([] : (List (List Int)))), false)) else ((impl_Page_slots.f a0).bind fun r42 => (iter (impl_PagePut.b0 a1 a2 a3) r42))))))
def impl_PagePut.Q (w : World) (F : Nat → Prop) (r : Page × Bool) (v : Value) (w' : World) : Prop :=
 ∃ (v0 : Value), v = .tuple #[(.agg #[(.int .i64 r.1.Lsn), v0]), (.bool r.2)] ∧ FO kd142 w w' [(.int .i64 r.1.Lsn), v0] r.1 ∧ Ky [] w w'
set_option maxHeartbeats 4000000 in
set_option maxRecDepth 100000 in
theorem impl_PagePut.calls (a0 : Page) (a1 : Int) (a2 : (List Int)) (a3 : Int) (w : World) (F : Nat → Prop) (w0_0 : Value) (w2_0 : Value) (h0_0 : (Kd.sl 24 (Kd.sl 5 (Kd.int .u8))).rd w [w0_0] a0.Slots F) (h2_0 : (Kd.sl 5 (Kd.int .u8)).rd w [w2_0] a2 F) (r : Page × Bool) (m : impl_PagePut.f a0 a1 a2 a3 = some r) :
  Calls Tryz.prog 190 #[(.agg #[(.int .i64 a0.Lsn), w0_0]), (.int .i64 a1), w2_0, (.int .i64 a3)] w fun en w' => ∃ v, en = .returned v ∧ impl_PagePut.Q w F r v w' := by
 obtain ⟨s0, rfl, kp0, z⟩ := start0 w F
 have A0_0 := z.rd h0_0
 have A2_0 := z.rd h2_0
 refine calls_of_TM (args := [(.agg #[(.int .i64 a0.Lsn), w0_0]), (.int .i64 a1), w2_0, (.int .i64 a3)]) (R := fun r en w' => ∃ v, en = .returned v ∧ impl_PagePut.Q s0.w F r v w') Tryz.func190 Tryz.ntmps190 rfl rfl m ?_
 unfold impl_PagePut.f
 refine sr ?_
 refine bx (cs := [(.int .i64 a0.Lsn), w0_0]) 40 rfl rfl rfl rfl rfl rfl (fun b3 s3 p3 B3 => ?_)
 refine al (cs := [(.int .i64 (0 : Int)), (.slice none 0 0)]) 41 rfl rfl rfl rfl rfl o142 rfl (fun b5 s5 p5 B5 => ?_)
 refine pu rfl rfl rfl rfl rfl ?_
 refine dn ?_
 refine sq ?_
 refine sr ?_
 have A7 := (BlF.st B3 p5 rfl)
 refine lda (es := [(.int .i64 a0.Lsn), w0_0]) A7 Tryz.underlying142 z142 rfl rfl rfl rfl rfl rfl rfl rfl ?_
 have K8 := ((kp0.st p3 rfl).st p5 rfl)
 have A9 := (A0_0.kp K8)
 refine cl rfl rfl rfl rfl rfl Tryz.func202 rfl rfl rfl (fun r10 m10 => impl_PageUsed.calls a0 s5.w (fun b => memb [0] (s5.g b) = true) w0_0 A9 r10 m10) ?_
 rintro r10 _ w10 m10 ⟨rfl, ky10⟩
 obtain ⟨s11, rfl, p11, n11⟩ := nwx s5 w10 42 ky10
 refine pu rfl rfl rfl rfl rfl ?_
 refine pu rfl rfl rfl rfl rfl ?_
 refine ji [8, 9, 10, 11, 12, 13, 14, 15, 16, 17] (fun (y12 : Bool) (e : Env) (w : World) => ∃ (s : St) (e0 : Env), w = s.w ∧ e = upd (upd (upd (upd (upd (upd e0 1 (.int .i64 a1)) 2 w2_0) 3 (.int .i64 a3)) 4 (.pointer (some ⟨b3, 0, none⟩))) 8 (.pointer (some ⟨b5, 0, none⟩))) 18 (.bool y12) ∧ Kp s0 s ∧ BlF s b5 142 [(.int .i64 (0 : Int)), (.slice none 0 0)] 41 ∧ BlF s b3 142 [(.int .i64 a0.Lsn), w0_0] 40) (fun Gj12 Kj12 => ?_) ?_
 ·
  rcases Bool.eq_false_or_eq_true (decide (r10 < (0 : Int))) with hb12 | hb12
  ·
   refine sbT hb12 ?_
   rw [if_pos hb12]
   refine uw rfl rfl rfl rfl ?_
   refine uw rfl rfl rfl rfl ?_
   refine uw rfl rfl rfl rfl ?_
   refine pu rfl rfl rfl rfl rfl ?_
   have A13 := (BlF.st B5 p11 rfl)
   have A14 := (BlF.st A7 p11 rfl)
   have K15 := (K8.st p11 rfl)
   exact Kj12 _ _ _ ⟨s11, _, rfl, (ue (ue (ue (ue (ue (ue rfl rfl) rfl) rfl) rfl) rfl) rfl), K15, A13, A14⟩
  ·
   refine sbT hb12 ?_
   rw [if_neg (by rw [hb12]; decide)]
   refine pu rfl rfl rfl rfl rfl ?_
   refine cl rfl rfl rfl rfl rfl Tryz.func238 rfl rfl rfl (fun r16 m16 => impl_isSlot.calls a1 s11.w (fun b => memb [] (s11.g b) = true)  r16 m16) ?_
   rintro r16 _ w16 m16 ⟨rfl, ky16⟩
   obtain ⟨s17, rfl, p17, n17⟩ := nwx s11 w16 43 ky16
   refine pu rfl rfl rfl rfl rfl ?_
   refine pu rfl rfl rfl rfl rfl ?_
   have A18 := (BlF.st (BlF.st B5 p11 rfl) p17 rfl)
   have A19 := (BlF.st (BlF.st A7 p11 rfl) p17 rfl)
   have K20 := ((K8.st p11 rfl).st p17 rfl)
   exact Kj12 _ _ _ ⟨s17, _, rfl, (ue (ue (ue (ue (ue (ue rfl rfl) rfl) rfl) rfl) rfl) rfl), K20, A18, A19⟩
 rintro y12 _ _ ⟨s21, _, rfl, rfl, Ky12, By12_b5, By12_b3⟩
 refine pu rfl rfl rfl rfl rfl ?_
 refine jy [19, 20, 21, 22, 23] [13, 14, 15, 16, 17] 23 (.bool (y12 || ((a2.length : Int) == (0 : Int)))) rfl (fun Kg24 => ?_) (fun j24 => ?_)
 ·
  rcases Bool.eq_false_or_eq_true y12 with hb24 | hb24
  ·
   refine sbT hb24 ?_
   refine uw rfl rfl rfl rfl ?_
   refine uw rfl rfl rfl rfl ?_
   refine uw rfl rfl rfl rfl ?_
   refine pu rfl rfl rfl rfl rfl ?_
   exact Kg24 _ (Ag.put ((Ag.put ((Ag.put ((Ag.put (Ag.base rfl) rfl)) rfl)) rfl)) rfl) (by rw [hb24]; rfl)
  ·
   refine sbT hb24 ?_
   refine mv w2_0 rfl rfl rfl rfl rfl rfl ?_
   have A25 := (A2_0.kp Ky12)
   refine ln A25 Tryz.underlying24 rfl rfl rfl rfl rfl rfl ?_
   refine pu rfl rfl rfl rfl rfl ?_
   refine pu rfl rfl rfl rfl rfl ?_
   exact Kg24 _ (Ag.put ((Ag.put ((Ag.put ((Ag.put (Ag.base rfl) rfl)) rfl)) rfl)) rfl) (by rw [hb24]; rfl)
 refine pu rfl rfl rfl rfl rfl ?_
 refine ji [] (fun (y26 : Bool) (e : Env) (w : World) => ∃ (s : St) (e0 : Env), w = s.w ∧ e = upd (upd (upd (upd (upd (upd e0 1 (.int .i64 a1)) 2 w2_0) 3 (.int .i64 a3)) 4 (.pointer (some ⟨b3, 0, none⟩))) 8 (.pointer (some ⟨b5, 0, none⟩))) 28 (.bool y26) ∧ Kp s0 s ∧ BlF s b5 142 [(.int .i64 (0 : Int)), (.slice none 0 0)] 41 ∧ BlF s b3 142 [(.int .i64 a0.Lsn), w0_0] 40) (fun Gj26 Kj26 => ?_) ?_
 ·
  rcases Bool.eq_false_or_eq_true (y12 || ((a2.length : Int) == (0 : Int))) with hb26 | hb26
  ·
   refine sbT hb26 ?_
   rw [if_pos hb26]
   refine uw rfl rfl rfl rfl ?_
   refine uw rfl rfl rfl rfl ?_
   refine uw rfl rfl rfl rfl ?_
   refine pu rfl rfl rfl rfl rfl ?_
   exact Kj26 _ _ _ ⟨s21, _, rfl, (ue (ue (ue (ue (ue (ue rfl rfl) rfl) rfl) rfl) rfl) rfl), Ky12, By12_b5, By12_b3⟩
  ·
   refine sbT hb26 ?_
   rw [if_neg (by rw [hb26]; decide)]
   refine pu rfl rfl rfl rfl rfl ?_
   refine cl rfl rfl rfl rfl rfl Tryz.func236 rfl rfl rfl (fun r27 m27 => impl_isLsn.calls a3 s21.w (fun b => memb [] (s21.g b) = true)  r27 m27) ?_
   rintro r27 _ w27 m27 ⟨rfl, ky27⟩
   obtain ⟨s28, rfl, p28, n28⟩ := nwx s21 w27 44 ky27
   refine pu rfl rfl rfl rfl rfl ?_
   refine pu rfl rfl rfl rfl rfl ?_
   have A29 := (BlF.st By12_b5 p28 rfl)
   have A30 := (BlF.st By12_b3 p28 rfl)
   have K31 := (Ky12.st p28 rfl)
   exact Kj26 _ _ _ ⟨s28, _, rfl, (ue (ue (ue (ue (ue (ue rfl rfl) rfl) rfl) rfl) rfl) rfl), K31, A29, A30⟩
 rintro y26 _ _ ⟨s32, _, rfl, rfl, Ky26, By26_b5, By26_b3⟩
 refine dn ?_
 refine cd rfl (fun h35 => ?_) (fun h35 => ?_)
 ·
  refine sr ?_
  refine bd (cells := [(.int .i64 (0 : Int)), (.slice none 0 0)]) pl142 o142 rfl rfl rfl rfl rfl rfl ?_
  refine sva (vs := [(.int .i64 (0 : Int)), (.slice none 0 0)]) By26_b5 z142 rfl rfl rfl rfl rfl rfl (on_cons rfl (on_cons rfl on_nil)) rfl (fun s36 p36 B36 => ?_)
  refine pu rfl rfl rfl rfl rfl ?_
  refine dn ?_
  have A38 : OwF kd142 s36 [(.int .i64 (0 : Int)), (.slice none 0 0)] (Page.mk (0 : Int) ([] : (List (List Int)))) 45 := ow_z _ _ (fz_iso (fun x : Page => (x.Lsn, x.Slots)) (Page.mk (0 : Int) ([] : (List (List Int)))) (fz_pair (fz_int .i64 (0 : Int)) (fz_nil 24 (Kd.sl 5 (Kd.int .u8)))))
  have K40 := (Ky26.st p36 rfl)
  exact re rfl Tryz.func190 rfl (r_b B36 Tryz.underlying142 rfl z142 rfl (r_t rfl r_nil)) rfl ⟨_, rfl, (.slice none 0 0), rfl, A38.fo K40 rfl z.l, z.ky K40⟩
 ·
  refine sk ?_
  refine sr ?_
  refine pu rfl rfl rfl rfl rfl ?_
  refine lda (es := [(.int .i64 a0.Lsn), w0_0]) By26_b3 Tryz.underlying142 z142 rfl rfl rfl rfl rfl rfl rfl rfl ?_
  have A41 := (A0_0.kp Ky26)
  refine cl rfl rfl rfl rfl rfl Tryz.func145 rfl rfl rfl (fun r42 m42 => impl_Page_slots.calls a0 s32.w (fun b => memb [0] (s32.g b) = true) w0_0 A41 r42 m42) ?_
  rintro r42 v42_0 w42 m42 ⟨f42_0, ky42⟩
  obtain ⟨s43, rfl, p43, n43⟩ := nwx s32 w42 46 ky42
  have A42_0 := f42_0.c n43
  refine bd (cells := [(.int .i64 a3), v42_0]) pl142 o142 rfl rfl rfl rfl rfl (lfill_pc (pc_c rfl (pc_c (oc A42_0.rd.one) pc_n)) rfl) ?_
  refine al (cs := [(.int .i64 (0 : Int)), (.slice none 0 0)]) 47 rfl rfl rfl rfl rfl o142 rfl (fun b45 s45 p45 B45 => ?_)
  have A47 := (A42_0.st p45 rfl)
  refine sva (vs := [(.int .i64 a3), v42_0]) B45 z142 rfl rfl rfl rfl rfl rfl (on_cons rfl (on_cons A47.rd.one on_nil)) rfl (fun s48 p48 B48 => ?_)
  refine dn ?_
  refine sq ?_
  refine bl ?_
  have A51 := (A47.st p48 rfl)
  have A52 := (BlF.st (BlF.st (BlF.st By26_b5 p43 rfl) p45 rfl) p48 rfl)
  have K53 := (((Ky26.st p43 rfl).st p45 rfl).st p48 rfl)
  refine lpI (fun (x50 : (List (List Int))) (e : Env) (w : World) => ∃ (s : St) (e0 : Env) (vx50_0 : Value), w = s.w ∧ e = upd (upd (upd (upd e0 1 (.int .i64 a1)) 2 w2_0) 8 (.pointer (some ⟨b5, 0, none⟩))) 10 (.pointer (some ⟨b45, 0, none⟩)) ∧ Kp s0 s ∧ OwF (Kd.sl 24 (Kd.sl 5 (Kd.int .u8))) s [vx50_0] x50 46 ∧ BlF s b45 142 [(.int .i64 a3), vx50_0] 47 ∧ BlF s b5 142 [(.int .i64 (0 : Int)), (.slice none 0 0)] 41) ⟨s48, _, v42_0, rfl, (ue (ue (ue (ue rfl rfl) rfl) rfl) rfl), K53, A51, B48, A52⟩ (fun g50 ih50 => ?_)
  rintro x50 _ _ ⟨s54, _, vx50_0, rfl, rfl, Kx50, Ax50_0, Bx50_b45, Bx50_b5⟩
  unfold impl_PagePut.b0
  refine sq ?_
  refine sr ?_
  refine fa fa142_1 rfl rfl rfl rfl rfl rfl ?_
  refine ld Bx50_b45 Tryz.underlying140 rfl rfl rfl rfl rfl rfl rfl rfl ?_
  refine ln Ax50_0.rd Tryz.underlying140 rfl rfl rfl rfl rfl rfl ?_
  refine pu rfl rfl rfl rfl rfl ?_
  refine pu rfl rfl rfl rfl rfl ?_
  refine dn ?_
  refine cd rfl (fun h58 => ?_) (fun h58 => ?_)
  ·
   refine sk ?_
   refine bl ?_
   refine rg ?_
   refine fa fa142_1 rfl rfl rfl rfl rfl rfl ?_
   refine ld Bx50_b45 Tryz.underlying140 rfl rfl rfl rfl rfl rfl rfl rfl ?_
   have A59 : OwF (Kd.sl 5 (Kd.int .u8)) s54 [(.slice none 0 0)] ([] : (List Int)) 49 := ow_z _ _ (fz_nil 5 (Kd.int .u8))
   have L61 := lo_one A59
   refine ltO (K := (Kd.sl 5 (Kd.int .u8))) (cells := [(.slice none 0 0)]) [([] : (List Int))] 49 Tryz.underlying140 z24 o24 L61 rfl rfl rfl rfl rfl rfl rfl rfl rfl rfl (fun v62 s62 p62 A62 => ?_)
   have A64 := (Ax50_0.st p62 rfl)
   refine apO sl140 A64 A62 rfl rfl rfl rfl rfl rfl rfl rfl rfl (fun v65 s65 p65 A65 => ?_)
   refine fa fa142_1 rfl rfl rfl rfl rfl rfl ?_
   have A67 := (BlF.st (BlF.st Bx50_b45 p62 rfl) p65 rfl)
   refine sv A67 z140 rfl rfl rfl rfl rfl rfl A65.rd.one rfl (fun s68 p68 B68 => ?_)
   refine dn ?_
   refine ib ?_
   have A70 := (A65.st p68 rfl)
   have A71 := (BlF.st (BlF.st (BlF.st Bx50_b5 p62 rfl) p65 rfl) p68 rfl)
   have K72 := (((Kx50.st p62 rfl).st p65 rfl).st p68 rfl)
   exact lb ih50 ⟨s68, _, v65, rfl, (ue (ue (ue (ue rfl rfl) rfl) rfl) rfl), K72, A70, B68, A71⟩
  ·
   refine xt rfl ?_
   refine sgb ?_
   refine sq ?_
   refine zdraw [[], [0], [], [], [3], [1, 2, 0, 1, 2, 3, 4], [5, 4, 4, 0, 1, 2, 3, 4]] [some 44, some 45, some 46, some 47, some 48, some 49, none] [[10], [44], [1], [2], [47], [45, 46], [49, 48]] [0, 1, 2, 3, 4, 5, 6] ⟨by kernel_rfl, by kernel_rfl, by kernel_rfl⟩ (by kernel_rfl) (fun s73 p73 l73 tb73 zd73 => ?_)
   have zd74 := zd73.add 0 44 (.pointer (some ⟨b45, 1, none⟩)) rfl
   have A75 := (BlF.st Bx50_b45 p73 rfl)
   have zd76 := zd74.add 1 45 vx50_0 rfl
   have zd77 := zd76.add 2 46 (.int .i64 a1) rfl
   have zd78 := zd77.add 3 47 w2_0 rfl
   have A80 := (BlF.st Bx50_b45 p73 rfl)
   refine zstep 4 [some 46, some 45, some 44] tb73 zd78 (pq_cons (mv_q w2_0 rfl rfl rfl rfl rfl rfl) rfl (pq_cons (pu_q rfl rfl rfl rfl rfl rfl) rfl (pq_cons (ld_q A80 Tryz.underlying140 rfl rfl rfl rfl rfl rfl rfl rfl) rfl (pq_cons (fa_q fa142_1 rfl rfl rfl rfl rfl rfl) rfl pq_nil)))) (by kernel_rfl) rfl (fun l79 e79 zd79 => ?_)
   have K81 := (Kx50.st p73 rfl)
   have A82 := (A2_0.kp K81)
   refine cl rfl rfl rfl rfl rfl Tryz.func174 rfl rfl rfl (fun r83 m83 => slices_Clone_byte_byte.calls a2 s73.w (fun b => memb [0] (s73.g b) = true) w2_0 A82 r83 m83) ?_
   rintro r83 v83_0 w83 m83 ⟨f83_0, ky83⟩
   obtain ⟨s84, rfl, p84, n84⟩ := nwx s73 w83 50 ky83
   have A83_0 := f83_0.c n84
   refine zdone (L' := [2, 1, 0]) (D' := [3, 4]) zd79 rfl rfl rfl (fun zd86 => ?_)
   have A87 := (BlF.st (BlF.st Bx50_b45 p73 rfl) p84 rfl)
   refine zfin [5, 6] tb73 zd86 (pq_cons (pu_q rfl rfl rfl rfl rfl rfl) rfl (pq_cons (ld_q A87 Tryz.underlying140 rfl rfl rfl rfl rfl rfl rfl rfl) rfl (pq_cons (fa_q fa142_1 rfl rfl rfl rfl rfl rfl) rfl pq_nil))) (by kernel_rfl) (by decide) ?_
   have A88 := ((Ax50_0.st p73 rfl).st p84 rfl)
   refine ix A88.rd Tryz.underlying140 z24 rfl rfl rfl rfl rfl rfl rfl rfl (fun ad89 es89 h0_89 h1_89 he89 ce89 ia89 => ?_)
   obtain ⟨v89, rfl, he89'⟩ := he89
   have A89 : RdF (Kd.sl 5 (Kd.int .u8)) s84 [v89] (at_ x50 a1) [46] := ⟨v89, rfl, he89'⟩
   refine sog (x' := r83) lg_id A88 ia89 h0_89 h1_89 A83_0 rfl rfl z24 rfl rfl rfl rfl rfl (oc A83_0.rd.one) (fun s92 p92 A92 => ?_)
   refine dn ?_
   refine sq ?_
   refine sr ?_
   have A94 := (BlF.st (BlF.st (BlF.st Bx50_b45 p73 rfl) p84 rfl) p92 rfl)
   refine lda (es := [(.int .i64 a3), vx50_0]) A94 Tryz.underlying142 z142 rfl rfl rfl rfl rfl rfl rfl rfl ?_
   refine cl rfl rfl rfl rfl rfl Tryz.func202 rfl rfl rfl (fun r95 m95 => impl_PageUsed.calls (Page.mk a3 (x50.set (a1).toNat r83)) s92.w (fun b => memb [46] (s92.g b) = true) vx50_0 A92.rd r95 m95) ?_
   rintro r95 _ w95 m95 ⟨rfl, ky95⟩
   obtain ⟨s96, rfl, p96, n96⟩ := nwx s92 w95 51 ky95
   refine pu rfl rfl rfl rfl rfl ?_
   refine dn ?_
   refine cd rfl (fun h97 => ?_) (fun h97 => ?_)
   ·
    refine sr ?_
    refine bd (cells := [(.int .i64 (0 : Int)), (.slice none 0 0)]) pl142 o142 rfl rfl rfl rfl rfl rfl ?_
    have A98 := (BlF.st (BlF.st (BlF.st (BlF.st Bx50_b5 p73 rfl) p84 rfl) p92 rfl) p96 rfl)
    refine sva (vs := [(.int .i64 (0 : Int)), (.slice none 0 0)]) A98 z142 rfl rfl rfl rfl rfl rfl (on_cons rfl (on_cons rfl on_nil)) rfl (fun s99 p99 B99 => ?_)
    refine pu rfl rfl rfl rfl rfl ?_
    refine dn ?_
    have A101 : OwF kd142 s99 [(.int .i64 (0 : Int)), (.slice none 0 0)] (Page.mk (0 : Int) ([] : (List (List Int)))) 52 := ow_z _ _ (fz_iso (fun x : Page => (x.Lsn, x.Slots)) (Page.mk (0 : Int) ([] : (List (List Int)))) (fz_pair (fz_int .i64 (0 : Int)) (fz_nil 24 (Kd.sl 5 (Kd.int .u8)))))
    have K103 := ((((K81.st p84 rfl).st p92 rfl).st p96 rfl).st p99 rfl)
    exact re rfl Tryz.func190 rfl (r_b B99 Tryz.underlying142 rfl z142 rfl (r_t rfl r_nil)) rfl ⟨_, rfl, (.slice none 0 0), rfl, A101.fo K103 rfl z.l, z.ky K103⟩
   ·
    refine sk ?_
    refine sr ?_
    have A104 := (BlF.st A94 p96 rfl)
    refine lda (es := [(.int .i64 a3), vx50_0]) A104 Tryz.underlying142 z142 rfl rfl rfl rfl rfl rfl rfl rfl ?_
    have A105 := (BlF.st (BlF.st (BlF.st (BlF.st Bx50_b5 p73 rfl) p84 rfl) p92 rfl) p96 rfl)
    have A106 := (A92.st p96 rfl)
    refine sva (vs := [(.int .i64 a3), vx50_0]) A105 z142 rfl rfl rfl rfl rfl rfl (on_cons rfl (on_cons A106.rd.one on_nil)) rfl (fun s107 p107 B107 => ?_)
    refine pu rfl rfl rfl rfl rfl ?_
    refine dn ?_
    have A110 := (A106.st p107 rfl)
    have A109 : OwF kd142 s107 [(.int .i64 a3), vx50_0] (Page.mk a3 (x50.set (a1).toNat r83)) 46 := (ow_isoz (fun x : Page => (x.Lsn, x.Slots)) (Page.mk a3 (x50.set (a1).toNat r83)) (ow_l (fz_int .i64 a3) A110))
    have K112 := ((((K81.st p84 rfl).st p92 rfl).st p96 rfl).st p107 rfl)
    exact re rfl Tryz.func190 rfl (r_b B107 Tryz.underlying142 rfl z142 rfl (r_t rfl r_nil)) rfl ⟨_, rfl, vx50_0, rfl, A109.fo K112 rfl z.l, z.ky K112⟩
noncomputable def impl_Heap_with.b0 (a0 : Heap) (a1 : Int) (a2 : Page) (x14 : Int × (List Page)) : Option ((Int × (List Page)) ⊕ Heap) :=
 (if (decide (x14.1 < (a0.Pages.length : Int))) = true then (if 0 ≤ x14.1 ∧ x14.1 < (a0.Pages.length : Int) then ((impl_Page_slots.f (at_ a0.Pages x14.1)).bind fun r47 => (if x14.2.length + ([(Page.mk ((at_ a0.Pages x14.1).Lsn) r47)]).length ≤ Lim then (some (Sum.inl ((IntKind.wrap .i64 (x14.1 + (1 : Int))), (x14.2 ++ [(Page.mk ((at_ a0.Pages x14.1).Lsn) r47)])))) else none)) else none) else (((if (a1 == (x14.2.length : Int)) = true then (if x14.2.length + ([(Page.mk (0 : Int) ([] : (List (List Int))))]).length ≤ Lim then (some (x14.2 ++ [(Page.mk (0 : Int) ([] : (List (List Int))))])) else none) else (some x14.2)).bind fun y73 => (if 0 ≤ a1 ∧ a1 < (y73.length : Int) then (some (Heap.mk (y73.set (a1).toNat a2))) else none)).bind fun o => some (Sum.inr o)))
noncomputable def impl_Heap_with.f (a0 : Heap) (a1 : Int) (a2 : Page) : Option (Heap) :=
 (iter (impl_Heap_with.b0 a0 a1 a2) ((0 : Int), ([] : (List Page))))
def impl_Heap_with.Q (w : World) (F : Nat → Prop) (os : List Nat) (r : Heap) (v : Value) (w' : World) : Prop :=
 ∃ (v0 : Value), v = (.agg #[v0]) ∧ FW kd46 os w w' [v0] r ∧ Ky os w w'
set_option maxHeartbeats 4000000 in
set_option maxRecDepth 100000 in
theorem impl_Heap_with.calls (a0 : Heap) (a1 : Int) (a2 : Page) (w : World) (F : Nat → Prop) (w0_0 : Value) (w2_0 : Value) (h0_0 : (Kd.sl 142 kd142).rd w [w0_0] a0.Pages F) (os : List Nat) (h2 : kd142.ow w [(.int .i64 a2.Lsn), w2_0] a2 os) (hn : os.Nodup) (hF : ∀ b, F b → b ∉ os) (r : Heap) (m : impl_Heap_with.f a0 a1 a2 = some r) :
  Calls Tryz.prog 191 #[(.agg #[w0_0]), (.int .i64 a1), (.agg #[(.int .i64 a2.Lsn), w2_0])] w fun en w' => ∃ v, en = .returned v ∧ impl_Heap_with.Q w F os r v w' := by
 obtain ⟨u2_0, q2_0, e2, eo2, h2_0⟩ := po142 h2
 obtain y2_0 : w2_0 = u2_0 := by simpa using e2
 subst y2_0
 subst eo2
 obtain ⟨s0, rfl, kp0, z⟩ := startN w F [(os, 40)] (by simpa [fl_] using hn) (fun b hb => by simpa [fl_] using hF b hb) rfl
 have ez : fl_ [(os, 40)] = os := by simp [fl_]
 have A0_0 := z.rd h0_0
 have hn2_0 := hn
 have A2_0 := z.ow (c := 40) (by simp) hn2_0 h2_0
 refine calls_of_TM (args := [(.agg #[w0_0]), (.int .i64 a1), (.agg #[(.int .i64 a2.Lsn), w2_0])]) (R := fun r en w' => ∃ v, en = .returned v ∧ impl_Heap_with.Q s0.w F os r v w') Tryz.func191 Tryz.ntmps191 rfl rfl m ?_
 unfold impl_Heap_with.f
 refine sr ?_
 refine bx (cs := [w0_0]) 41 rfl rfl rfl rfl rfl rfl (fun b3 s3 p3 B3 => ?_)
 refine bx (cs := [(.int .i64 a2.Lsn), w2_0]) 42 rfl rfl rfl rfl rfl rfl (fun b5 s5 p5 B5 => ?_)
 refine al (cs := [(.slice none 0 0)]) 43 rfl rfl rfl rfl rfl o46 rfl (fun b7 s7 p7 B7 => ?_)
 refine dn ?_
 refine sr ?_
 refine al (cs := [(.slice none 0 0)]) 44 rfl rfl rfl rfl rfl o46 rfl (fun b9 s9 p9 B9 => ?_)
 refine dn ?_
 refine sq ?_
 refine sr ?_
 refine fa fa46_0 rfl rfl rfl rfl rfl rfl ?_
 have A11 := (BlF.st (BlF.st (BlF.st B3 p5 rfl) p7 rfl) p9 rfl)
 refine ld A11 Tryz.underlying44 rfl rfl rfl rfl rfl rfl rfl rfl ?_
 have K12 := ((((kp0.st p3 rfl).st p5 rfl).st p7 rfl).st p9 rfl)
 have A13 := (A0_0.kp K12)
 refine ln A13 Tryz.underlying44 rfl rfl rfl rfl rfl rfl ?_
 refine pu rfl rfl rfl rfl rfl ?_
 refine dn ?_
 refine bl ?_
 have A15 := (BlF.st B7 p9 rfl)
 have A16 := (BlF.st (BlF.st B5 p7 rfl) p9 rfl)
 have A17 := ((((A2_0.st p3 rfl).st p5 rfl).st p7 rfl).st p9 rfl)
 refine lpI (fun (x14 : Int × (List Page)) (e : Env) (w : World) => ∃ (s : St) (e0 : Env) (vx14_0 : Value), w = s.w ∧ e = upd (upd (upd (upd (upd (upd (upd e0 1 (.int .i64 a1)) 5 (.pointer (some ⟨b5, 0, none⟩))) 6 (.pointer (some ⟨b7, 0, none⟩))) 7 (.pointer (some ⟨b9, 0, none⟩))) 11 w0_0) 12 (.int .i64 (a0.Pages.length : Int))) 13 (.int .i64 x14.1) ∧ Kp s0 s ∧ OwF (Kd.sl 142 kd142) s [vx14_0] x14.2 45 ∧ BlF s b9 46 [vx14_0] 44 ∧ BlF s b7 46 [(.slice none 0 0)] 43 ∧ BlF s b5 142 [(.int .i64 a2.Lsn), w2_0] 42 ∧ OwF (Kd.sl 24 (Kd.sl 5 (Kd.int .u8))) s [w2_0] a2.Slots 40) ⟨s9, _, (.slice none 0 0), rfl, (ue (ue (ue (ue (ue (ue (ue rfl rfl) rfl) rfl) rfl) rfl) rfl) rfl), K12, (ow_nil 142 kd142 _ 45), B9, A15, A16, A17⟩ (fun g14 ih14 => ?_)
 rintro x14 _ _ ⟨s18, _, vx14_0, rfl, rfl, Kx14, Ax14_0, Bx14_b9, Bx14_b7, Bx14_b5, Cx14_2⟩
 unfold impl_Heap_with.b0
 refine sr ?_
 refine pu rfl rfl rfl rfl rfl ?_
 refine dn ?_
 refine sq ?_
 refine cd rfl (fun h23 => ?_) (fun h23 => ?_)
 ·
  refine sk ?_
  refine sq ?_
  refine bl ?_
  refine sr ?_
  have A24 := (A0_0.kp Kx14)
  refine ix A24 Tryz.underlying44 z142 rfl rfl rfl rfl rfl rfl rfl rfl (fun ad25 es25 h0_25 h1_25 he25 ce25 ia25 => ?_)
  obtain ⟨v25_0, rfl, A25_0⟩ := op142 he25
  refine lca ce25 Tryz.underlying142 z142 rfl rfl rfl rfl rfl rfl rfl ?_
  refine al (cs := [(.int .i64 (0 : Int)), (.slice none 0 0)]) 46 rfl rfl rfl rfl rfl o142 rfl (fun b28 s28 p28 B28 => ?_)
  have A30 := (A25_0.st p28 rfl)
  refine sva (vs := [(.int .i64 ((at_ a0.Pages x14.1).Lsn)), v25_0]) B28 z142 rfl rfl rfl rfl rfl rfl (on_cons rfl (on_cons A30.one on_nil)) rfl (fun s31 p31 B31 => ?_)
  refine dn ?_
  refine zdraw [[], [0], [], [2], [], [4], [3, 5], [6], [1, 7, 5], [0, 1, 2, 3, 4, 5, 6, 7, 8], [9, 8, 8, 0, 1, 2, 3, 4, 5, 6, 7, 8]] [some 17, some 18, some 19, some 20, some 21, some 22, some 23, some 24, some 25, some 26, none] [[7], [17], [9], [19], [9], [21], [20, 22], [23], [18, 24], [7], [26, 25]] [0, 1, 2, 3, 4, 5, 6, 7, 8, 9, 10] ⟨by kernel_rfl, by kernel_rfl, by kernel_rfl⟩ (by kernel_rfl) (fun s33 p33 l33 tb33 zd33 => ?_)
  have zd34 := zd33.add 0 17 (.pointer (some ⟨b9, 0, none⟩)) rfl
  have A35 := (BlF.st (BlF.st (BlF.st Bx14_b9 p28 rfl) p31 rfl) p33 rfl)
  have zd36 := zd34.add 1 18 vx14_0 rfl
  have zd37 := zd36.add 2 19 (.pointer (some ⟨b28, 0, none⟩)) rfl
  have A38 := (BlF.st B31 p33 rfl)
  have zd39 := zd37.add 3 20 (.int .i64 ((at_ a0.Pages x14.1).Lsn)) rfl
  have A40 := (BlF.st B31 p33 rfl)
  have zd41 := zd39.add 4 21 (.agg #[(.int .i64 ((at_ a0.Pages x14.1).Lsn)), v25_0]) rfl
  have A43 := (BlF.st (BlF.st (BlF.st Bx14_b9 p28 rfl) p31 rfl) p33 rfl)
  have A44 := (BlF.st B31 p33 rfl)
  have A45 := (BlF.st B31 p33 rfl)
  refine zstep 5 [some 20, some 19, some 18, some 17] tb33 zd41 (pq_cons (lda_q (es := [(.int .i64 ((at_ a0.Pages x14.1).Lsn)), v25_0]) A45 Tryz.underlying142 z142 rfl rfl rfl rfl rfl rfl rfl rfl) rfl (pq_cons (ld_q A44 Tryz.underlying3 rfl rfl rfl rfl rfl rfl rfl rfl) rfl (pq_cons (fa_q fa142_0 rfl rfl rfl rfl rfl rfl) rfl (pq_cons (ld_q A43 Tryz.underlying44 rfl rfl rfl rfl rfl rfl rfl rfl) rfl (pq_cons (fa_q fa46_0 rfl rfl rfl rfl rfl rfl) rfl pq_nil))))) (by kernel_rfl) rfl (fun l42 e42 zd42 => ?_)
  have A46 := ((A30.st p31 rfl).st p33 rfl)
  refine cl rfl rfl rfl rfl rfl Tryz.func145 rfl rfl rfl (fun r47 m47 => impl_Page_slots.calls (at_ a0.Pages x14.1) s33.w (fun b => memb [0] (s33.g b) = true) v25_0 A46 r47 m47) ?_
  rintro r47 v47_0 w47 m47 ⟨f47_0, ky47⟩
  obtain ⟨s48, rfl, p48, n48⟩ := nwx s33 w47 47 ky47
  have A47_0 := f47_0.c n48
  refine zdone (L' := [3, 2, 1, 0]) (D' := [4, 5]) zd42 rfl rfl rfl (fun zd50 => ?_)
  have zd51 := zd50.add 6 23 (.agg #[(.int .i64 ((at_ a0.Pages x14.1).Lsn)), v47_0]) rfl
  have A53 := (BlF.st (BlF.st (BlF.st (BlF.st Bx14_b9 p28 rfl) p31 rfl) p33 rfl) p48 rfl)
  have A54 := (BlF.st (BlF.st B31 p33 rfl) p48 rfl)
  refine zstep 7 [some 18, some 17] tb33 zd51 (pq_cons (bd_q (cells := [(.int .i64 ((at_ a0.Pages x14.1).Lsn)), v47_0]) pl142 o142 rfl rfl rfl rfl rfl (lfill_pc (pc_c rfl (pc_c (oc A47_0.rd.one) pc_n)) rfl)) rfl (pq_cons (ld_q A54 Tryz.underlying3 rfl rfl rfl rfl rfl rfl rfl rfl) rfl (pq_cons (fa_q fa142_0 rfl rfl rfl rfl rfl rfl) rfl (pq_cons (ld_q A53 Tryz.underlying44 rfl rfl rfl rfl rfl rfl rfl rfl) rfl (pq_cons (fa_q fa46_0 rfl rfl rfl rfl rfl rfl) rfl pq_nil))))) (by kernel_rfl) rfl (fun l52 e52 zd52 => ?_)
  have A55 : OwF kd142 s48 [(.int .i64 ((at_ a0.Pages x14.1).Lsn)), v47_0] (Page.mk ((at_ a0.Pages x14.1).Lsn) r47) 47 := (ow_isoz (fun x : Page => (x.Lsn, x.Slots)) (Page.mk ((at_ a0.Pages x14.1).Lsn) r47) (ow_l (fz_int .i64 ((at_ a0.Pages x14.1).Lsn)) A47_0))
  have L57 := lo_one A55
  refine ltO (K := kd142) (cells := [(.int .i64 ((at_ a0.Pages x14.1).Lsn)), v47_0]) [(Page.mk ((at_ a0.Pages x14.1).Lsn) r47)] 47 Tryz.underlying44 z142 o142 L57 rfl rfl rfl rfl rfl rfl rfl rfl rfl rfl (fun v58 s58 p58 A58 => ?_)
  refine zdone (L' := [1, 0]) (D' := [2, 3, 6, 7, 4, 5]) zd52 rfl rfl rfl (fun zd60 => ?_)
  have A61 := (BlF.st (BlF.st (BlF.st (BlF.st (BlF.st Bx14_b9 p28 rfl) p31 rfl) p33 rfl) p48 rfl) p58 rfl)
  refine zfin [8, 9, 10] tb33 zd60 (pq_cons (ld_q A61 Tryz.underlying44 rfl rfl rfl rfl rfl rfl rfl rfl) rfl (pq_cons (fa_q fa46_0 rfl rfl rfl rfl rfl rfl) rfl pq_nil)) (by kernel_rfl) (by decide) ?_
  have A62 := (((((Ax14_0.st p28 rfl).st p31 rfl).st p33 rfl).st p48 rfl).st p58 rfl)
  refine apO sl44 A62 A58 rfl rfl rfl rfl rfl rfl rfl rfl rfl (fun v63 s63 p63 A63 => ?_)
  refine fa fa46_0 rfl rfl rfl rfl rfl rfl ?_
  have A65 := (BlF.st (BlF.st (BlF.st (BlF.st (BlF.st (BlF.st Bx14_b9 p28 rfl) p31 rfl) p33 rfl) p48 rfl) p58 rfl) p63 rfl)
  refine sv A65 z44 rfl rfl rfl rfl rfl rfl A63.rd.one rfl (fun s66 p66 B66 => ?_)
  refine dn ?_
  refine ib ?_
  refine rg ?_
  refine pu rfl rfl rfl rfl rfl ?_
  refine pu rfl rfl rfl rfl rfl ?_
  refine dn ?_
  have A68 := (A63.st p66 rfl)
  have A69 := (BlF.st (BlF.st (BlF.st (BlF.st (BlF.st (BlF.st (BlF.st Bx14_b7 p28 rfl) p31 rfl) p33 rfl) p48 rfl) p58 rfl) p63 rfl) p66 rfl)
  have A70 := (BlF.st (BlF.st (BlF.st (BlF.st (BlF.st (BlF.st (BlF.st Bx14_b5 p28 rfl) p31 rfl) p33 rfl) p48 rfl) p58 rfl) p63 rfl) p66 rfl)
  have A71 := (((((((Cx14_2.st p28 rfl).st p31 rfl).st p33 rfl).st p48 rfl).st p58 rfl).st p63 rfl).st p66 rfl)
  have K72 := (((((((Kx14.st p28 rfl).st p31 rfl).st p33 rfl).st p48 rfl).st p58 rfl).st p63 rfl).st p66 rfl)
  exact lb ih14 ⟨s66, _, v63, rfl, (ue (ue (ue (ue (ue (ue (ue rfl rfl) rfl) rfl) rfl) rfl) rfl) rfl), K72, A68, B66, A69, A70, A71⟩
 ·
  refine xt rfl ?_
  refine sgb ?_
  refine sq ?_
  refine sr ?_
  refine pu rfl rfl rfl rfl rfl ?_
  refine fa fa46_0 rfl rfl rfl rfl rfl rfl ?_
  refine ld Bx14_b9 Tryz.underlying44 rfl rfl rfl rfl rfl rfl rfl rfl ?_
  refine ln Ax14_0.rd Tryz.underlying44 rfl rfl rfl rfl rfl rfl ?_
  refine pu rfl rfl rfl rfl rfl ?_
  refine dn ?_
  refine jc (fun (y73 : (List Page)) (e : Env) (w : World) => ∃ (s : St) (e0 : Env) (vy73_0 : Value), w = s.w ∧ e = upd (upd (upd (upd e0 1 (.int .i64 a1)) 5 (.pointer (some ⟨b5, 0, none⟩))) 6 (.pointer (some ⟨b7, 0, none⟩))) 7 (.pointer (some ⟨b9, 0, none⟩)) ∧ Kp s0 s ∧ OwF (Kd.sl 142 kd142) s [vy73_0] y73 45 ∧ BlF s b9 46 [vy73_0] 44 ∧ BlF s b7 46 [(.slice none 0 0)] 43 ∧ BlF s b5 142 [(.int .i64 a2.Lsn), w2_0] 42 ∧ OwF (Kd.sl 24 (Kd.sl 5 (Kd.int .u8))) s [w2_0] a2.Slots 40) (fun Gj73 Kj73 => ?_) ?_
  ·
   refine cd rfl (fun h74 => ?_) (fun h74 => ?_)
   ·
    refine rg ?_
    refine fa fa46_0 rfl rfl rfl rfl rfl rfl ?_
    refine ld Bx14_b9 Tryz.underlying44 rfl rfl rfl rfl rfl rfl rfl rfl ?_
    refine bd (cells := [(.int .i64 (0 : Int)), (.slice none 0 0)]) pl142 o142 rfl rfl rfl rfl rfl rfl ?_
    have A75 : OwF kd142 s18 [(.int .i64 (0 : Int)), (.slice none 0 0)] (Page.mk (0 : Int) ([] : (List (List Int)))) 50 := ow_z _ _ (fz_iso (fun x : Page => (x.Lsn, x.Slots)) (Page.mk (0 : Int) ([] : (List (List Int)))) (fz_pair (fz_int .i64 (0 : Int)) (fz_nil 24 (Kd.sl 5 (Kd.int .u8)))))
    have L77 := lo_one A75
    refine ltO (K := kd142) (cells := [(.int .i64 (0 : Int)), (.slice none 0 0)]) [(Page.mk (0 : Int) ([] : (List (List Int))))] 50 Tryz.underlying44 z142 o142 L77 rfl rfl rfl rfl rfl rfl rfl rfl rfl rfl (fun v78 s78 p78 A78 => ?_)
    have A80 := (Ax14_0.st p78 rfl)
    refine apO sl44 A80 A78 rfl rfl rfl rfl rfl rfl rfl rfl rfl (fun v81 s81 p81 A81 => ?_)
    refine fa fa46_0 rfl rfl rfl rfl rfl rfl ?_
    have A83 := (BlF.st (BlF.st Bx14_b9 p78 rfl) p81 rfl)
    refine sv A83 z44 rfl rfl rfl rfl rfl rfl A81.rd.one rfl (fun s84 p84 B84 => ?_)
    refine dn ?_
    have A86 := (A81.st p84 rfl)
    have A87 := (BlF.st (BlF.st (BlF.st Bx14_b7 p78 rfl) p81 rfl) p84 rfl)
    have A88 := (BlF.st (BlF.st (BlF.st Bx14_b5 p78 rfl) p81 rfl) p84 rfl)
    have A89 := (((Cx14_2.st p78 rfl).st p81 rfl).st p84 rfl)
    have K90 := (((Kx14.st p78 rfl).st p81 rfl).st p84 rfl)
    exact Kj73 _ _ _ ⟨s84, _, v81, rfl, (ue (ue (ue (ue rfl rfl) rfl) rfl) rfl), K90, A86, B84, A87, A88, A89⟩
   ·
    refine sk ?_
    exact Kj73 _ _ _ ⟨s18, _, vx14_0, rfl, (ue (ue (ue (ue rfl rfl) rfl) rfl) rfl), Kx14, Ax14_0, Bx14_b9, Bx14_b7, Bx14_b5, Cx14_2⟩
  rintro y73 _ _ ⟨s91, _, vy73_0, rfl, rfl, Ky73, Ay73_0, By73_b9, By73_b7, By73_b5, Cy73_2⟩
  refine sr ?_
  refine fa fa46_0 rfl rfl rfl rfl rfl rfl ?_
  refine ld By73_b9 Tryz.underlying44 rfl rfl rfl rfl rfl rfl rfl rfl ?_
  refine pu rfl rfl rfl rfl rfl ?_
  refine lda (es := [(.int .i64 a2.Lsn), w2_0]) By73_b5 Tryz.underlying142 z142 rfl rfl rfl rfl rfl rfl rfl rfl ?_
  refine ix Ay73_0.rd Tryz.underlying44 z142 rfl rfl rfl rfl rfl rfl rfl rfl (fun ad96 es96 h0_96 h1_96 he96 ce96 ia96 => ?_)
  obtain ⟨v96_0, rfl, A96_0⟩ := op142 he96
  have A99 : OwF kd142 s91 [(.int .i64 a2.Lsn), w2_0] a2 40 := (ow_isoz (fun x : Page => (x.Lsn, x.Slots)) a2 (ow_l (fz_int .i64 a2.Lsn) Cy73_2))
  refine som (x' := a2) Ay73_0 ia96 h0_96 h1_96 A99 rfl rfl z142 rfl rfl rfl rfl rfl rfl (fun s101 p101 A101 => ?_)
  refine dn ?_
  refine sr ?_
  have A103 := (BlF.st By73_b9 p101 rfl)
  refine lda (es := [vy73_0]) A103 Tryz.underlying46 z46 rfl rfl rfl rfl rfl rfl rfl rfl ?_
  have A104 := (BlF.st By73_b7 p101 rfl)
  refine sva (vs := [vy73_0]) A104 z46 rfl rfl rfl rfl rfl rfl (on_cons A101.rd.one on_nil) rfl (fun s105 p105 B105 => ?_)
  refine dn ?_
  have A108 := (A101.st p105 rfl)
  have A107 : OwF kd46 s105 [vy73_0] (Heap.mk (y73.set (a1).toNat a2)) 45 := (ow_isoz (fun x : Heap => (x.Pages)) (Heap.mk (y73.set (a1).toNat a2)) A108)
  have K110 := ((Ky73.st p101 rfl).st p105 rfl)
  exact re rfl Tryz.func191 rfl (r_b B105 Tryz.underlying46 rfl z46 rfl r_nil) rfl ⟨_, rfl, vy73_0, rfl, z.fw' ez K110 (oc_ow A107) rfl, z.ky' ez K110⟩
noncomputable def impl_Heap_put.f (a0 : Heap) (a1 : Int) (a2 : Int) (a3 : (List Int)) (a4 : Int) : Option (Heap × Bool) :=
 ((impl_within.f a1 (0 : Int) (IntKind.wrap .i64 ((a0.Pages.length : Int) - (1 : Int)))).bind fun r12 => ((if r12 = true then (if 0 ≤ a1 ∧ a1 < (a0.Pages.length : Int) then (some (Sum.inl ((at_ a0.Pages a1).Lsn, (at_ a0.Pages a1).Slots))) else none) else (if ((a1 != (a0.Pages.length : Int)) || (decide (a1 ≥ (16 : Int)))) = true then (some (Sum.inr ((Heap.mk ([] : (List Page))), false))) else (some (Sum.inl ((0 : Int), ([] : (List (List Int)))))))).bind (sel fun y14 => ((impl_PagePut.f (Page.mk y14.1 y14.2) a2 a3 a4).bind fun r48 => (if (!r48.2) = true then (some ((Heap.mk ([] : (List Page))), false)) else ((impl_Heap_with.f a0 a1 r48.1).bind fun r69 => (some (r69, true))))))))
def impl_Heap_put.Q (w : World) (F : Nat → Prop) (r : Heap × Bool) (v : Value) (w' : World) : Prop :=
 ∃ (v0 : Value), v = .tuple #[(.agg #[v0]), (.bool r.2)] ∧ FO kd46 w w' [v0] r.1 ∧ Ky [] w w'
set_option maxHeartbeats 4000000 in
set_option maxRecDepth 100000 in
theorem impl_Heap_put.calls (a0 : Heap) (a1 : Int) (a2 : Int) (a3 : (List Int)) (a4 : Int) (w : World) (F : Nat → Prop) (w0_0 : Value) (w3_0 : Value) (h0_0 : (Kd.sl 142 kd142).rd w [w0_0] a0.Pages F) (h3_0 : (Kd.sl 5 (Kd.int .u8)).rd w [w3_0] a3 F) (r : Heap × Bool) (m : impl_Heap_put.f a0 a1 a2 a3 a4 = some r) :
  Calls Tryz.prog 103 #[(.agg #[w0_0]), (.int .i64 a1), (.int .i64 a2), w3_0, (.int .i64 a4)] w fun en w' => ∃ v, en = .returned v ∧ impl_Heap_put.Q w F r v w' := by
 obtain ⟨s0, rfl, kp0, z⟩ := start0 w F
 have A0_0 := z.rd h0_0
 have A3_0 := z.rd h3_0
 refine calls_of_TM (args := [(.agg #[w0_0]), (.int .i64 a1), (.int .i64 a2), w3_0, (.int .i64 a4)]) (R := fun r en w' => ∃ v, en = .returned v ∧ impl_Heap_put.Q s0.w F r v w') Tryz.func103 Tryz.ntmps103 rfl rfl m ?_
 unfold impl_Heap_put.f
 refine sr ?_
 refine bx (cs := [w0_0]) 40 rfl rfl rfl rfl rfl rfl (fun b3 s3 p3 B3 => ?_)
 refine al (cs := [(.slice none 0 0)]) 41 rfl rfl rfl rfl rfl o46 rfl (fun b5 s5 p5 B5 => ?_)
 refine pu rfl rfl rfl rfl rfl ?_
 refine dn ?_
 refine sr ?_
 refine al (cs := [(.int .i64 (0 : Int)), (.slice none 0 0)]) 42 rfl rfl rfl rfl rfl o142 rfl (fun b7 s7 p7 B7 => ?_)
 refine dn ?_
 refine sq ?_
 refine sr ?_
 refine pu rfl rfl rfl rfl rfl ?_
 refine fa fa46_0 rfl rfl rfl rfl rfl rfl ?_
 have A9 := (BlF.st (BlF.st B3 p5 rfl) p7 rfl)
 refine ld A9 Tryz.underlying44 rfl rfl rfl rfl rfl rfl rfl rfl ?_
 have K10 := (((kp0.st p3 rfl).st p5 rfl).st p7 rfl)
 have A11 := (A0_0.kp K10)
 refine ln A11 Tryz.underlying44 rfl rfl rfl rfl rfl rfl ?_
 refine pu rfl rfl rfl rfl rfl ?_
 refine cl rfl rfl rfl rfl rfl Tryz.func102 rfl rfl rfl (fun r12 m12 => impl_within.calls a1 (0 : Int) (IntKind.wrap .i64 ((a0.Pages.length : Int) - (1 : Int))) s7.w (fun b => memb [] (s7.g b) = true)  r12 m12) ?_
 rintro r12 _ w12 m12 ⟨rfl, ky12⟩
 obtain ⟨s13, rfl, p13, n13⟩ := nwx s7 w12 43 ky12
 refine dn ?_
 refine jr (fun (y14 : Int × (List (List Int))) (e : Env) (w : World) => ∃ (s : St) (e0 : Env) (vy14_0 : Value), w = s.w ∧ e = upd (upd (upd (upd (upd (upd (upd e0 1 (.int .i64 a1)) 2 (.int .i64 a2)) 3 w3_0) 4 (.int .i64 a4)) 5 (.pointer (some ⟨b3, 0, none⟩))) 10 (.pointer (some ⟨b5, 0, none⟩))) 12 (.pointer (some ⟨b7, 0, none⟩)) ∧ Kp s0 s ∧ RdF (Kd.sl 24 (Kd.sl 5 (Kd.int .u8))) s [vy14_0] y14.2 [0] ∧ BlF s b7 142 [(.int .i64 y14.1), vy14_0] 42 ∧ BlF s b5 46 [(.slice none 0 0)] 41 ∧ BlF s b3 46 [w0_0] 40) (fun Gj14 Kj14 hG14 => ?_) ?_
 ·
  refine cd rfl (fun h15 => ?_) (fun h15 => ?_)
  ·
   refine rg ?_
   refine fa fa46_0 rfl rfl rfl rfl rfl rfl ?_
   have A16 := (BlF.st A9 p13 rfl)
   refine ld A16 Tryz.underlying44 rfl rfl rfl rfl rfl rfl rfl rfl ?_
   refine pu rfl rfl rfl rfl rfl ?_
   have K17 := (K10.st p13 rfl)
   have A18 := (A0_0.kp K17)
   refine ix A18 Tryz.underlying44 z142 rfl rfl rfl rfl rfl rfl rfl rfl (fun ad19 es19 h0_19 h1_19 he19 ce19 ia19 => ?_)
   obtain ⟨v19_0, rfl, A19_0⟩ := op142 he19
   refine lca ce19 Tryz.underlying142 z142 rfl rfl rfl rfl rfl rfl rfl ?_
   have A22 := (BlF.st B7 p13 rfl)
   refine sva (vs := [(.int .i64 ((at_ a0.Pages a1).Lsn)), v19_0]) A22 z142 rfl rfl rfl rfl rfl rfl (on_cons rfl (on_cons A19_0.one on_nil)) rfl (fun s23 p23 B23 => ?_)
   refine dn ?_
   have A25 := (A19_0.st p23 rfl)
   have A26 := (BlF.st (BlF.st (BlF.st B5 p7 rfl) p13 rfl) p23 rfl)
   have A27 := (BlF.st A16 p23 rfl)
   have K28 := (K17.st p23 rfl)
   exact Kj14 _ _ _ ⟨s23, _, v19_0, rfl, (ue (ue (ue (ue (ue (ue (ue rfl rfl) rfl) rfl) rfl) rfl) rfl) rfl), K28, A25, B23, A26, A27⟩
  ·
   refine sr ?_
   refine pu rfl rfl rfl rfl rfl ?_
   refine fa fa46_0 rfl rfl rfl rfl rfl rfl ?_
   have A29 := (BlF.st A9 p13 rfl)
   refine ld A29 Tryz.underlying44 rfl rfl rfl rfl rfl rfl rfl rfl ?_
   have K30 := (K10.st p13 rfl)
   have A31 := (A0_0.kp K30)
   refine ln A31 Tryz.underlying44 rfl rfl rfl rfl rfl rfl ?_
   refine pu rfl rfl rfl rfl rfl ?_
   refine pu rfl rfl rfl rfl rfl ?_
   refine jy [31, 32, 33, 34] [] 34 (.bool ((a1 != (a0.Pages.length : Int)) || (decide (a1 ≥ (16 : Int))))) rfl (fun Kg32 => ?_) (fun j32 => ?_)
   ·
    rcases Bool.eq_false_or_eq_true (a1 != (a0.Pages.length : Int)) with hb32 | hb32
    ·
     refine sbT hb32 ?_
     refine uw rfl rfl rfl rfl ?_
     refine uw rfl rfl rfl rfl ?_
     refine pu rfl rfl rfl rfl rfl ?_
     exact Kg32 _ (Ag.put ((Ag.put ((Ag.put (Ag.base rfl) rfl)) rfl)) rfl) (by rw [hb32]; rfl)
    ·
     refine sbT hb32 ?_
     refine pu rfl rfl rfl rfl rfl ?_
     refine pu rfl rfl rfl rfl rfl ?_
     refine pu rfl rfl rfl rfl rfl ?_
     exact Kg32 _ (Ag.put ((Ag.put ((Ag.put (Ag.base rfl) rfl)) rfl)) rfl) (by rw [hb32]; rfl)
   refine dn ?_
   refine cd rfl (fun h33 => ?_) (fun h33 => ?_)
   ·
    refine sr ?_
    refine bd (cells := [(.slice none 0 0)]) pl46 o46 rfl rfl rfl rfl rfl rfl ?_
    have A34 := (BlF.st (BlF.st B5 p7 rfl) p13 rfl)
    refine sva (vs := [(.slice none 0 0)]) A34 z46 rfl rfl rfl rfl rfl rfl (on_cons rfl on_nil) rfl (fun s35 p35 B35 => ?_)
    refine pu rfl rfl rfl rfl rfl ?_
    refine dn ?_
    refine jri hG14 ?_
    have A37 : OwF kd46 s35 [(.slice none 0 0)] (Heap.mk ([] : (List Page))) 44 := ow_z _ _ (fz_iso (fun x : Heap => (x.Pages)) (Heap.mk ([] : (List Page))) (fz_nil 142 kd142))
    have K39 := (K30.st p35 rfl)
    exact re rfl Tryz.func103 rfl (r_b B35 Tryz.underlying46 rfl z46 rfl (r_t rfl r_nil)) rfl ⟨_, rfl, (.slice none 0 0), rfl, A37.fo K39 rfl z.l, z.ky K39⟩
   ·
    refine sk ?_
    have A40 := (BlF.st B7 p13 rfl)
    have A41 := (BlF.st (BlF.st B5 p7 rfl) p13 rfl)
    exact Kj14 _ _ _ ⟨s13, _, (.slice none 0 0), rfl, (ue (ue (ue (ue (ue (ue (ue rfl rfl) rfl) rfl) rfl) rfl) rfl) rfl), K30, (rd_nil 24 (Kd.sl 5 (Kd.int .u8)) _ [0]), A40, A41, A29⟩
 rintro y14 _ _ ⟨s42, _, vy14_0, rfl, rfl, Ky14, Ay14_0, By14_b7, By14_b5, By14_b3⟩
 refine sr ?_
 refine lda (es := [(.int .i64 y14.1), vy14_0]) By14_b7 Tryz.underlying142 z142 rfl rfl rfl rfl rfl rfl rfl rfl ?_
 refine pu rfl rfl rfl rfl rfl ?_
 refine mv w3_0 rfl rfl rfl rfl rfl rfl ?_
 refine pu rfl rfl rfl rfl rfl ?_
 have A47 := (A3_0.kp Ky14)
 refine cl rfl rfl rfl rfl rfl Tryz.func190 rfl rfl rfl (fun r48 m48 => impl_PagePut.calls (Page.mk y14.1 y14.2) a2 a3 a4 s42.w (fun b => memb [0] (s42.g b) = true) vy14_0 w3_0 Ay14_0 A47 r48 m48) ?_
 rintro r48 _ w48 m48 ⟨v48_0, rfl, f48_0, ky48⟩
 obtain ⟨s49, rfl, p49, n49⟩ := nwx s42 w48 45 ky48
 have A48_0 := f48_0.c n49
 obtain ⟨os48_0, ho48_0, hn48_0, hc48_0⟩ := A48_0
 obtain ⟨u48_0_0, qu48_0_0, e48_0, eo48_0, hu48_0_0⟩ := po142 ho48_0
 have yu48_0_0 : v48_0 = u48_0_0 := congrArg (fun l => (List.drop 1 l).headD undef) e48_0
 subst yu48_0_0
 subst eo48_0
 have Au48_0_0 : OwF (Kd.sl 24 (Kd.sl 5 (Kd.int .u8))) s49 [v48_0] r48.1.Slots 45 := sp1 hu48_0_0 hn48_0 hc48_0
 refine pu rfl rfl rfl rfl rfl ?_
 refine pu (v := (.agg #[(.int .i64 r48.1.Lsn), v48_0])) rfl rfl rfl rfl rfl ?_
 refine pu (v := (.bool r48.2)) rfl rfl rfl rfl rfl ?_
 refine al (cs := [(.int .i64 (0 : Int)), (.slice none 0 0)]) 46 rfl rfl rfl rfl rfl o142 rfl (fun b51 s51 p51 B51 => ?_)
 have A53 := (Au48_0_0.st p51 rfl)
 refine sva (vs := [(.int .i64 r48.1.Lsn), v48_0]) B51 z142 rfl rfl rfl rfl rfl rfl (on_cons rfl (on_cons A53.rd.one on_nil)) rfl (fun s54 p54 B54 => ?_)
 refine pu rfl rfl rfl rfl rfl ?_
 refine dn ?_
 refine sq ?_
 refine sr ?_
 refine pu rfl rfl rfl rfl rfl ?_
 refine pu rfl rfl rfl rfl rfl ?_
 refine dn ?_
 refine cd rfl (fun h56 => ?_) (fun h56 => ?_)
 ·
  refine sr ?_
  refine bd (cells := [(.slice none 0 0)]) pl46 o46 rfl rfl rfl rfl rfl rfl ?_
  have A57 := (BlF.st (BlF.st (BlF.st By14_b5 p49 rfl) p51 rfl) p54 rfl)
  refine sva (vs := [(.slice none 0 0)]) A57 z46 rfl rfl rfl rfl rfl rfl (on_cons rfl on_nil) rfl (fun s58 p58 B58 => ?_)
  refine pu rfl rfl rfl rfl rfl ?_
  refine dn ?_
  have A60 : OwF kd46 s58 [(.slice none 0 0)] (Heap.mk ([] : (List Page))) 47 := ow_z _ _ (fz_iso (fun x : Heap => (x.Pages)) (Heap.mk ([] : (List Page))) (fz_nil 142 kd142))
  have K62 := ((((Ky14.st p49 rfl).st p51 rfl).st p54 rfl).st p58 rfl)
  exact re rfl Tryz.func103 rfl (r_b B58 Tryz.underlying46 rfl z46 rfl (r_t rfl r_nil)) rfl ⟨_, rfl, (.slice none 0 0), rfl, A60.fo K62 rfl z.l, z.ky K62⟩
 ·
  refine sk ?_
  refine sr ?_
  have A63 := (BlF.st (BlF.st (BlF.st By14_b3 p49 rfl) p51 rfl) p54 rfl)
  refine lda (es := [w0_0]) A63 Tryz.underlying46 z46 rfl rfl rfl rfl rfl rfl rfl rfl ?_
  refine pu rfl rfl rfl rfl rfl ?_
  refine lda (es := [(.int .i64 r48.1.Lsn), v48_0]) B54 Tryz.underlying142 z142 rfl rfl rfl rfl rfl rfl rfl rfl ?_
  have K64 := (((Ky14.st p49 rfl).st p51 rfl).st p54 rfl)
  have A65 := (A0_0.kp K64)
  have A67 := (A53.st p54 rfl)
  have A66 : OwF kd142 s54 [(.int .i64 r48.1.Lsn), v48_0] r48.1 45 := (ow_isoz (fun x : Page => (x.Lsn, x.Slots)) r48.1 (ow_l (fz_int .i64 r48.1.Lsn) A67))
  obtain ⟨os69, ho69, hn69, hc69⟩ := A66
  refine cl rfl rfl rfl rfl rfl Tryz.func191 rfl rfl rfl (fun r69 m69 => impl_Heap_with.calls a0 a1 r48.1 s54.w (fun b => memb [0] (s54.g b) = true) w0_0 v48_0 A65 os69 ho69 hn69 (apart_of hc69 rfl) r69 m69) ?_
  rintro r69 _ w69 m69 ⟨v69_0, rfl, f69_0, ky69⟩
  obtain ⟨s70, rfl, p70, n70⟩ := nwm 48 hc69 ky69 rfl
  have A69_0 := f69_0.m n70
  obtain ⟨os69_0, ho69_0, hn69_0, hc69_0⟩ := A69_0
  obtain ⟨u69_0_0, qu69_0_0, e69_0, eo69_0, hu69_0_0⟩ := po46 ho69_0
  have yu69_0_0 : v69_0 = u69_0_0 := congrArg (fun l => (List.drop 0 l).headD undef) e69_0
  subst yu69_0_0
  subst eo69_0
  have Au69_0_0 : OwF (Kd.sl 142 kd142) s70 [v69_0] r69.Pages 48 := sp1 hu69_0_0 hn69_0 hc69_0
  have A72 := (BlF.st (BlF.st (BlF.st (BlF.st By14_b5 p49 rfl) p51 rfl) p54 rfl) p70 rfl)
  refine sva (vs := [v69_0]) A72 z46 rfl rfl rfl rfl rfl rfl (on_cons Au69_0_0.rd.one on_nil) rfl (fun s73 p73 B73 => ?_)
  refine pu rfl rfl rfl rfl rfl ?_
  refine dn ?_
  have A76 := (Au69_0_0.st p73 rfl)
  have A75 : OwF kd46 s73 [v69_0] r69 48 := (ow_isoz (fun x : Heap => (x.Pages)) r69 A76)
  have K78 := ((K64.st p70 rfl).st p73 rfl)
  exact re rfl Tryz.func103 rfl (r_b B73 Tryz.underlying46 rfl z46 rfl (r_t rfl r_nil)) rfl ⟨_, rfl, v69_0, rfl, A75.fo K78 rfl z.l, z.ky K78⟩
noncomputable def impl_HeapMark.f (a0 : Heap) (a1 : Int) (a2 : Int) (a3 : Int) (a4 : Int) : Option (Heap × Bool) :=
 ((impl_HeapAt.f a0 a1 a2).bind fun r9 => ((if (!r9.2) = true then (some true) else ((impl_within.f a3 (0 : Int) (400 : Int)).bind fun r26 => (some (!r26)))).bind fun y20 => (if y20 = true then (some ((Heap.mk ([] : (List Page))), false)) else ((impl_TupleBytes.f (Tuple.mk r9.1.Xmin a3 r9.1.Key r9.1.Value)).bind fun r59 => ((impl_Heap_put.f a0 a1 a2 r59 a4).bind fun r67 => (some (r67.1, r67.2)))))))
def impl_HeapMark.Q (w : World) (F : Nat → Prop) (r : Heap × Bool) (v : Value) (w' : World) : Prop :=
 ∃ (v0 : Value), v = .tuple #[(.agg #[v0]), (.bool r.2)] ∧ FO kd46 w w' [v0] r.1 ∧ Ky [] w w'
set_option maxHeartbeats 4000000 in
set_option maxRecDepth 100000 in
theorem impl_HeapMark.calls (a0 : Heap) (a1 : Int) (a2 : Int) (a3 : Int) (a4 : Int) (w : World) (F : Nat → Prop) (w0_0 : Value) (h0_0 : (Kd.sl 142 kd142).rd w [w0_0] a0.Pages F) (r : Heap × Bool) (m : impl_HeapMark.f a0 a1 a2 a3 a4 = some r) :
  Calls Tryz.prog 24 #[(.agg #[w0_0]), (.int .i64 a1), (.int .i64 a2), (.int .i64 a3), (.int .i64 a4)] w fun en w' => ∃ v, en = .returned v ∧ impl_HeapMark.Q w F r v w' := by
 obtain ⟨s0, rfl, kp0, z⟩ := start0 w F
 have A0_0 := z.rd h0_0
 refine calls_of_TM (args := [(.agg #[w0_0]), (.int .i64 a1), (.int .i64 a2), (.int .i64 a3), (.int .i64 a4)]) (R := fun r en w' => ∃ v, en = .returned v ∧ impl_HeapMark.Q s0.w F r v w') Tryz.func24 Tryz.ntmps24 rfl rfl m ?_
 unfold impl_HeapMark.f
 refine sr ?_
 refine bx (cs := [w0_0]) 40 rfl rfl rfl rfl rfl rfl (fun b2 s2 p2 B2 => ?_)
 refine al (cs := [(.slice none 0 0)]) 41 rfl rfl rfl rfl rfl o46 rfl (fun b4 s4 p4 B4 => ?_)
 refine pu rfl rfl rfl rfl rfl ?_
 refine dn ?_
 refine sr ?_
 have A6 := (BlF.st B2 p4 rfl)
 refine lda (es := [w0_0]) A6 Tryz.underlying46 z46 rfl rfl rfl rfl rfl rfl rfl rfl ?_
 refine pu rfl rfl rfl rfl rfl ?_
 refine pu rfl rfl rfl rfl rfl ?_
 have K7 := ((kp0.st p2 rfl).st p4 rfl)
 have A8 := (A0_0.kp K7)
 refine cl rfl rfl rfl rfl rfl Tryz.func101 rfl rfl rfl (fun r9 m9 => impl_HeapAt.calls a0 a1 a2 s4.w (fun b => memb [0] (s4.g b) = true) w0_0 A8 r9 m9) ?_
 rintro r9 _ w9 m9 ⟨v9_0, v9_1, v9_2, v9_3, rfl, f9_0, ky9⟩
 obtain ⟨s10, rfl, p10, n10⟩ := nwx s4 w9 42 ky9
 have A9_0 := f9_0.c n10
 obtain ⟨os9_0, ho9_0, hn9_0, hc9_0⟩ := A9_0
 obtain ⟨u9_0_0, u9_0_1, u9_0_2, u9_0_3, qu9_0_1, qu9_0_3, e9_0, eo9_0, hu9_0_0, hu9_0_1, hu9_0_2, hu9_0_3⟩ := po58 ho9_0
 have yu9_0_0 : v9_0 = u9_0_0 := congrArg (fun l => (List.drop 4 l).headD undef) e9_0
 have yu9_0_1 : v9_1 = u9_0_1 := congrArg (fun l => (List.drop 5 l).headD undef) e9_0
 have yu9_0_2 : v9_2 = u9_0_2 := congrArg (fun l => (List.drop 8 l).headD undef) e9_0
 have yu9_0_3 : v9_3 = u9_0_3 := congrArg (fun l => (List.drop 9 l).headD undef) e9_0
 subst yu9_0_0
 subst yu9_0_1
 subst yu9_0_2
 subst yu9_0_3
 subst eo9_0
 obtain ⟨s11, hw11, p11, Au9_0_1, hn11, hc11⟩ := sp2 43 hu9_0_1 hn9_0 hc9_0 rfl
 rw [hw11]
 have Au9_0_3 : OwF (Kd.sl 5 (Kd.int .u8)) s11 [v9_3] r9.1.Value.T 43 := sp1 (hw11 ▸ hu9_0_3) hn11 hc11
 refine pu rfl rfl rfl rfl rfl ?_
 refine pu (v := (.agg #[(.int .i64 r9.1.Xmin), (.int .i64 r9.1.Xmax), (.int .i64 r9.1.Key.Kind), (.int .i64 r9.1.Key.N), v9_0, v9_1, (.int .i64 r9.1.Value.Kind), (.int .i64 r9.1.Value.N), v9_2, v9_3])) rfl rfl rfl rfl rfl ?_
 refine pu (v := (.bool r9.2)) rfl rfl rfl rfl rfl ?_
 refine al (cs := [(.int .i64 (0 : Int)), (.int .i64 (0 : Int)), (.int .i64 (0 : Int)), (.int .i64 (0 : Int)), (.float .f64 0), (.slice none 0 0), (.int .i64 (0 : Int)), (.int .i64 (0 : Int)), (.float .f64 0), (.slice none 0 0)]) 44 rfl rfl rfl rfl rfl o58 rfl (fun b14 s14 p14 B14 => ?_)
 have A16 := (Au9_0_3.st p14 rfl)
 have A17 := (Au9_0_1.st p14 rfl)
 refine sva (vs := [(.int .i64 r9.1.Xmin), (.int .i64 r9.1.Xmax), (.int .i64 r9.1.Key.Kind), (.int .i64 r9.1.Key.N), v9_0, v9_1, (.int .i64 r9.1.Value.Kind), (.int .i64 r9.1.Value.N), v9_2, v9_3]) B14 z58 rfl rfl rfl rfl rfl rfl (on_cons rfl (on_cons rfl (on_cons rfl (on_cons rfl (on_cons (FL.one hu9_0_0) (on_cons A17.rd.one (on_cons rfl (on_cons rfl (on_cons (FL.one hu9_0_2) (on_cons A16.rd.one on_nil)))))))))) rfl (fun s18 p18 B18 => ?_)
 refine pu rfl rfl rfl rfl rfl ?_
 refine dn ?_
 refine sq ?_
 refine sr ?_
 refine pu rfl rfl rfl rfl rfl ?_
 refine pu rfl rfl rfl rfl rfl ?_
 refine pu rfl rfl rfl rfl rfl ?_
 refine ji [] (fun (y20 : Bool) (e : Env) (w : World) => ∃ (s : St) (e0 : Env), w = s.w ∧ e = upd (upd (upd (upd (upd (upd (upd (upd e0 1 (.int .i64 a1)) 2 (.int .i64 a2)) 3 (.int .i64 a3)) 4 (.int .i64 a4)) 5 (.pointer (some ⟨b2, 0, none⟩))) 10 (.pointer (some ⟨b4, 0, none⟩))) 12 (.pointer (some ⟨b14, 0, none⟩))) 27 (.bool y20) ∧ Kp s0 s ∧ BlF s b14 58 [(.int .i64 r9.1.Xmin), (.int .i64 r9.1.Xmax), (.int .i64 r9.1.Key.Kind), (.int .i64 r9.1.Key.N), v9_0, v9_1, (.int .i64 r9.1.Value.Kind), (.int .i64 r9.1.Value.N), v9_2, v9_3] 44 ∧ BlF s b4 46 [(.slice none 0 0)] 41 ∧ BlF s b2 46 [w0_0] 40 ∧ OwF (Kd.sl 5 (Kd.int .u8)) s [v9_1] r9.1.Key.T 42 ∧ OwF (Kd.sl 5 (Kd.int .u8)) s [v9_3] r9.1.Value.T 43) (fun Gj20 Kj20 => ?_) ?_
 ·
  rcases Bool.eq_false_or_eq_true (!r9.2) with hb20 | hb20
  ·
   refine sbT hb20 ?_
   rw [if_pos hb20]
   refine uw rfl rfl rfl rfl ?_
   refine uw rfl rfl rfl rfl ?_
   refine uw rfl rfl rfl rfl ?_
   refine pu rfl rfl rfl rfl rfl ?_
   have A21 := (BlF.st (BlF.st (BlF.st (BlF.st B4 p10 rfl) p11 rfl) p14 rfl) p18 rfl)
   have A22 := (BlF.st (BlF.st (BlF.st (BlF.st A6 p10 rfl) p11 rfl) p14 rfl) p18 rfl)
   have A23 := (A17.st p18 rfl)
   have A24 := (A16.st p18 rfl)
   have K25 := ((((K7.st p10 rfl).st p11 rfl).st p14 rfl).st p18 rfl)
   exact Kj20 _ _ _ ⟨s18, _, rfl, (ue (ue (ue (ue (ue (ue (ue (ue rfl rfl) rfl) rfl) rfl) rfl) rfl) rfl) rfl), K25, B18, A21, A22, A23, A24⟩
  ·
   refine sbT hb20 ?_
   rw [if_neg (by rw [hb20]; decide)]
   refine pu rfl rfl rfl rfl rfl ?_
   refine cl rfl rfl rfl rfl rfl Tryz.func102 rfl rfl rfl (fun r26 m26 => impl_within.calls a3 (0 : Int) (400 : Int) s18.w (fun b => memb [] (s18.g b) = true)  r26 m26) ?_
   rintro r26 _ w26 m26 ⟨rfl, ky26⟩
   obtain ⟨s27, rfl, p27, n27⟩ := nwx s18 w26 45 ky26
   refine pu rfl rfl rfl rfl rfl ?_
   refine pu rfl rfl rfl rfl rfl ?_
   have A28 := (BlF.st B18 p27 rfl)
   have A29 := (BlF.st (BlF.st (BlF.st (BlF.st (BlF.st B4 p10 rfl) p11 rfl) p14 rfl) p18 rfl) p27 rfl)
   have A30 := (BlF.st (BlF.st (BlF.st (BlF.st (BlF.st A6 p10 rfl) p11 rfl) p14 rfl) p18 rfl) p27 rfl)
   have A31 := ((A17.st p18 rfl).st p27 rfl)
   have A32 := ((A16.st p18 rfl).st p27 rfl)
   have K33 := (((((K7.st p10 rfl).st p11 rfl).st p14 rfl).st p18 rfl).st p27 rfl)
   exact Kj20 _ _ _ ⟨s27, _, rfl, (ue (ue (ue (ue (ue (ue (ue (ue rfl rfl) rfl) rfl) rfl) rfl) rfl) rfl) rfl), K33, A28, A29, A30, A31, A32⟩
 rintro y20 _ _ ⟨s34, _, rfl, rfl, Ky20, By20_b14, By20_b4, By20_b2, Cy20_12, Cy20_13⟩
 refine dn ?_
 refine cd rfl (fun h38 => ?_) (fun h38 => ?_)
 ·
  refine sr ?_
  refine bd (cells := [(.slice none 0 0)]) pl46 o46 rfl rfl rfl rfl rfl rfl ?_
  refine sva (vs := [(.slice none 0 0)]) By20_b4 z46 rfl rfl rfl rfl rfl rfl (on_cons rfl on_nil) rfl (fun s39 p39 B39 => ?_)
  refine pu rfl rfl rfl rfl rfl ?_
  refine dn ?_
  have A41 : OwF kd46 s39 [(.slice none 0 0)] (Heap.mk ([] : (List Page))) 46 := ow_z _ _ (fz_iso (fun x : Heap => (x.Pages)) (Heap.mk ([] : (List Page))) (fz_nil 142 kd142))
  have K43 := (Ky20.st p39 rfl)
  exact re rfl Tryz.func24 rfl (r_b B39 Tryz.underlying46 rfl z46 rfl (r_t rfl r_nil)) rfl ⟨_, rfl, (.slice none 0 0), rfl, A41.fo K43 rfl z.l, z.ky K43⟩
 ·
  refine sk ?_
  refine sr ?_
  refine pu rfl rfl rfl rfl rfl ?_
  refine fa fa58_1 rfl rfl rfl rfl rfl rfl ?_
  refine sv By20_b14 z3 rfl rfl rfl rfl rfl rfl rfl rfl (fun s44 p44 B44 => ?_)
  refine dn ?_
  refine sq ?_
  refine zdraw [[], [], [], [], [3], [], [0, 1, 2, 4, 5, 4], [6], [6], [7, 6, 0, 1, 2, 3, 4, 5, 6, 7, 8], [8, 9, 0, 1, 2, 3, 4, 5, 6, 7, 8, 9]] [some 31, some 32, some 33, some 34, some 35, some 36, some 37, some 38, some 39, none, some 11] [[5], [1], [2], [12], [34], [4], [31, 32, 33, 35, 36], [37], [37], [10, 38], [39]] [0, 1, 2, 3, 4, 5, 6, 7, 8, 9, 10] ⟨by kernel_rfl, by kernel_rfl, by kernel_rfl⟩ (by kernel_rfl) (fun s46 p46 l46 tb46 zd46 => ?_)
  have A47 := (BlF.st (BlF.st By20_b2 p44 rfl) p46 rfl)
  have zd48 := zd46.add 0 31 (.agg #[w0_0]) rfl
  have zd49 := zd48.add 1 32 (.int .i64 a1) rfl
  have zd50 := zd49.add 2 33 (.int .i64 a2) rfl
  have A51 := (BlF.st B44 p46 rfl)
  have zd52 := zd50.add 3 34 (.agg #[(.int .i64 r9.1.Xmin), (.int .i64 a3), (.int .i64 r9.1.Key.Kind), (.int .i64 r9.1.Key.N), v9_0, v9_1, (.int .i64 r9.1.Value.Kind), (.int .i64 r9.1.Value.N), v9_2, v9_3]) rfl
  have zd53 := zd52.add 5 36 (.int .i64 a4) rfl
  have A55 := (BlF.st (BlF.st By20_b2 p44 rfl) p46 rfl)
  have A56 := (BlF.st B44 p46 rfl)
  refine zstep 4 [some 36, some 33, some 32, some 31] tb46 zd53 (pq_cons (pu_q rfl rfl rfl rfl rfl rfl) rfl (pq_cons (lda_q (es := [(.int .i64 r9.1.Xmin), (.int .i64 a3), (.int .i64 r9.1.Key.Kind), (.int .i64 r9.1.Key.N), v9_0, v9_1, (.int .i64 r9.1.Value.Kind), (.int .i64 r9.1.Value.N), v9_2, v9_3]) A56 Tryz.underlying58 z58 rfl rfl rfl rfl rfl rfl rfl rfl) rfl (pq_cons (pu_q rfl rfl rfl rfl rfl rfl) rfl (pq_cons (pu_q rfl rfl rfl rfl rfl rfl) rfl (pq_cons (lda_q (es := [w0_0]) A55 Tryz.underlying46 z46 rfl rfl rfl rfl rfl rfl rfl rfl) rfl pq_nil))))) (by kernel_rfl) rfl (fun l54 e54 zd54 => ?_)
  have A57 := ((Cy20_12.st p44 rfl).st p46 rfl)
  have A58 := ((Cy20_13.st p44 rfl).st p46 rfl)
  refine cl rfl rfl rfl rfl rfl Tryz.func104 rfl rfl rfl (fun r59 m59 => impl_TupleBytes.calls (Tuple.mk r9.1.Xmin a3 r9.1.Key r9.1.Value) s46.w (fun b => memb [42, 43] (s46.g b) = true) v9_0 v9_1 v9_2 v9_3 ((fl_rdf (s := s46) hu9_0_0).sub (D := [42, 43]) rfl) (A57.rd.sub (D := [42, 43]) rfl) ((fl_rdf (s := s46) hu9_0_2).sub (D := [42, 43]) rfl) (A58.rd.sub (D := [42, 43]) rfl) r59 m59) ?_
  rintro r59 v59_0 w59 m59 ⟨f59_0, ky59⟩
  obtain ⟨s60, rfl, p60, n60⟩ := nwx s46 w59 47 ky59
  have A59_0 := f59_0.c n60
  refine zdone (L' := [5, 2, 1, 0]) (D' := [3, 4]) zd54 rfl rfl rfl (fun zd62 => ?_)
  have A64 := (BlF.st (BlF.st (BlF.st By20_b2 p44 rfl) p46 rfl) p60 rfl)
  refine zstep 6 [] tb46 zd62 (pq_cons (pu_q rfl rfl rfl rfl rfl rfl) rfl (pq_cons (pu_q rfl rfl rfl rfl rfl rfl) rfl (pq_cons (pu_q rfl rfl rfl rfl rfl rfl) rfl (pq_cons (lda_q (es := [w0_0]) A64 Tryz.underlying46 z46 rfl rfl rfl rfl rfl rfl rfl rfl) rfl pq_nil)))) (by kernel_rfl) rfl (fun l63 e63 zd63 => ?_)
  have K65 := (((Ky20.st p44 rfl).st p46 rfl).st p60 rfl)
  have A66 := (A0_0.kp K65)
  refine cl rfl rfl rfl rfl rfl Tryz.func103 rfl rfl rfl (fun r67 m67 => impl_Heap_put.calls a0 a1 a2 r59 a4 s60.w (fun b => memb [0, 47] (s60.g b) = true) w0_0 v59_0 (A66.sub (D := [0, 47]) rfl) (A59_0.rd.sub (D := [0, 47]) rfl) r67 m67) ?_
  rintro r67 _ w67 m67 ⟨v67_0, rfl, f67_0, ky67⟩
  obtain ⟨s68, rfl, p68, n68⟩ := nwx s60 w67 48 ky67
  have A67_0 := f67_0.c n68
  obtain ⟨os67_0, ho67_0, hn67_0, hc67_0⟩ := A67_0
  obtain ⟨u67_0_0, qu67_0_0, e67_0, eo67_0, hu67_0_0⟩ := po46 ho67_0
  have yu67_0_0 : v67_0 = u67_0_0 := congrArg (fun l => (List.drop 0 l).headD undef) e67_0
  subst yu67_0_0
  subst eo67_0
  have Au67_0_0 : OwF (Kd.sl 142 kd142) s68 [v67_0] r67.1.Pages 48 := sp1 hu67_0_0 hn67_0 hc67_0
  refine zdone (L' := []) (D' := [0, 1, 2, 5, 6, 3, 4]) zd63 rfl rfl rfl (fun zd70 => ?_)
  have zd71 := zd70.add 7 38 (.agg #[v67_0]) rfl
  have zd72 := zd71.add 8 39 (.bool r67.2) rfl
  refine zfin [9, 10] tb46 zd72 (pq_cons (pu_q (v := (.bool r67.2)) rfl rfl rfl rfl rfl rfl) rfl (pq_cons (pu_q (v := (.agg #[v67_0])) rfl rfl rfl rfl rfl rfl) rfl pq_nil)) (by kernel_rfl) (by decide) ?_
  have A73 := (BlF.st (BlF.st (BlF.st (BlF.st By20_b4 p44 rfl) p46 rfl) p60 rfl) p68 rfl)
  refine sva (vs := [v67_0]) A73 z46 rfl rfl rfl rfl rfl rfl (on_cons Au67_0_0.rd.one on_nil) rfl (fun s74 p74 B74 => ?_)
  refine pu rfl rfl rfl rfl rfl ?_
  refine dn ?_
  have A77 := (Au67_0_0.st p74 rfl)
  have A76 : OwF kd46 s74 [v67_0] r67.1 48 := (ow_isoz (fun x : Heap => (x.Pages)) r67.1 A77)
  have K79 := ((K65.st p68 rfl).st p74 rfl)
  exact re rfl Tryz.func24 rfl (r_b B74 Tryz.underlying46 rfl z46 rfl (r_t rfl r_nil)) rfl ⟨_, rfl, v67_0, rfl, A76.fo K79 rfl z.l, z.ky K79⟩
noncomputable def laws_eqByteSS.b0 (a0 : (List (List Int))) (a1 : (List (List Int))) (x4 : Int) : Option (Int ⊕ Bool) :=
 (if (decide (x4 < (a0.length : Int))) = true then (if 0 ≤ x4 ∧ x4 < (a0.length : Int) then (if 0 ≤ x4 ∧ x4 < (a1.length : Int) then ((laws_eqByteS.f (at_ a0 x4) (at_ a1 x4)).bind fun r26 => (if (!r26) = true then (some (Sum.inr false)) else (some (Sum.inl (IntKind.wrap .i64 (x4 + (1 : Int))))))) else none) else none) else ((some true).bind fun o => some (Sum.inr o)))
noncomputable def laws_eqByteSS.f (a0 : (List (List Int))) (a1 : (List (List Int))) : Option (Bool) :=
 (if ((a0.length : Int) != (a1.length : Int)) = true then (some false) else (iter (laws_eqByteSS.b0 a0 a1) (0 : Int)))
def laws_eqByteSS.Q (w : World) (F : Nat → Prop) (r : Bool) (v : Value) (w' : World) : Prop :=
 v = (.bool r) ∧ Ky [] w w'
set_option maxHeartbeats 4000000 in
set_option maxRecDepth 100000 in
theorem laws_eqByteSS.calls (a0 : (List (List Int))) (a1 : (List (List Int))) (w : World) (F : Nat → Prop) (w0_0 : Value) (w1_0 : Value) (h0_0 : (Kd.sl 24 (Kd.sl 5 (Kd.int .u8))).rd w [w0_0] a0 F) (h1_0 : (Kd.sl 24 (Kd.sl 5 (Kd.int .u8))).rd w [w1_0] a1 F) (r : Bool) (m : laws_eqByteSS.f a0 a1 = some r) :
  Calls Tryz.prog 266 #[w0_0, w1_0] w fun en w' => ∃ v, en = .returned v ∧ laws_eqByteSS.Q w F r v w' := by
 obtain ⟨s0, rfl, kp0, z⟩ := start0 w F
 have A0_0 := z.rd h0_0
 have A1_0 := z.rd h1_0
 refine calls_of_TM (args := [w0_0, w1_0]) (R := fun r en w' => ∃ v, en = .returned v ∧ laws_eqByteSS.Q s0.w F r v w') Tryz.func266 Tryz.ntmps266 rfl rfl m ?_
 unfold laws_eqByteSS.f
 refine sr ?_
 refine pu rfl rfl rfl rfl rfl ?_
 refine dn ?_
 refine sq ?_
 refine sr ?_
 refine mv w0_0 rfl rfl rfl rfl rfl rfl ?_
 refine ln A0_0 Tryz.underlying140 rfl rfl rfl rfl rfl rfl ?_
 refine mv w1_0 rfl rfl rfl rfl rfl rfl ?_
 refine ln A1_0 Tryz.underlying140 rfl rfl rfl rfl rfl rfl ?_
 refine pu rfl rfl rfl rfl rfl ?_
 refine dn ?_
 refine cd rfl (fun h3 => ?_) (fun h3 => ?_)
 ·
  refine sr ?_
  refine pu rfl rfl rfl rfl rfl ?_
  refine dn ?_
  exact re rfl Tryz.func266 rfl (r_t rfl r_nil) rfl ⟨_, rfl, rfl, z.ky kp0⟩
 ·
  refine sk ?_
  refine sq ?_
  refine sr ?_
  refine pu rfl rfl rfl rfl rfl ?_
  refine dn ?_
  refine bl ?_
  refine lpI (fun (x4 : Int) (e : Env) (w : World) => ∃ (s : St) (e0 : Env), w = s.w ∧ e = upd (upd (upd e0 0 w0_0) 1 w1_0) 5 (.int .i64 x4) ∧ Kp s0 s) ⟨s0, _, rfl, (ue (ue (ue rfl rfl) rfl) rfl), kp0⟩ (fun g4 ih4 => ?_)
  rintro x4 _ _ ⟨s5, _, rfl, rfl, Kx4⟩
  unfold laws_eqByteSS.b0
  refine sq ?_
  refine sr ?_
  refine pu rfl rfl rfl rfl rfl ?_
  refine mv w0_0 rfl rfl rfl rfl rfl rfl ?_
  have A6 := (A0_0.kp Kx4)
  refine ln A6 Tryz.underlying140 rfl rfl rfl rfl rfl rfl ?_
  refine pu rfl rfl rfl rfl rfl ?_
  refine dn ?_
  refine cd rfl (fun h7 => ?_) (fun h7 => ?_)
  ·
   refine sk ?_
   refine sq ?_
   refine bl ?_
   refine sq ?_
   refine zdraw [[], [], [0, 1], [2], [], [], [4, 5], [6], [3, 7], [8]] [some 17, some 18, some 19, some 20, some 21, some 22, some 23, some 24, some 25, some 26] [[0], [5], [17, 18], [19], [1], [5], [21, 22], [23], [20, 24], [25]] [0, 1, 2, 3, 4, 5, 6, 7, 8, 9] ⟨by kernel_rfl, by kernel_rfl, by kernel_rfl⟩ (by kernel_rfl) (fun s8 p8 l8 tb8 zd8 => ?_)
   have zd9 := zd8.add 0 17 w0_0 rfl
   have zd10 := zd9.add 1 18 (.int .i64 x4) rfl
   have K11 := (Kx4.st p8 rfl)
   have A12 := (A0_0.kp K11)
   refine mg fun hg13 => ?_
   obtain ⟨ad13, es13, he13, ce13, ia13⟩ := ix_e A12 rfl hg13.1 hg13.2
   have h0_13 := hg13.1
   have h1_13 := hg13.2
   obtain ⟨v13, rfl, he13'⟩ := he13
   have A13 : RdF (Kd.sl 5 (Kd.int .u8)) s8 [v13] (at_ a0 x4) [0] := ⟨v13, rfl, he13'⟩
   have zd16 := zd10.add 2 19 (.pointer (some ad13)) rfl
   have zd17 := zd16.add 3 20 v13 rfl
   have zd18 := zd17.add 4 21 w1_0 rfl
   have zd19 := zd18.add 5 22 (.int .i64 x4) rfl
   have A20 := (A1_0.kp K11)
   refine mg fun hg21 => ?_
   obtain ⟨ad21, es21, he21, ce21, ia21⟩ := ix_e A20 rfl hg21.1 hg21.2
   have h0_21 := hg21.1
   have h1_21 := hg21.2
   obtain ⟨v21, rfl, he21'⟩ := he21
   have A21 : RdF (Kd.sl 5 (Kd.int .u8)) s8 [v21] (at_ a1 x4) [0] := ⟨v21, rfl, he21'⟩
   have zd24 := zd19.add 6 23 (.pointer (some ad21)) rfl
   have zd25 := zd24.add 7 24 v21 rfl
   refine zfin [8, 9] tb8 zd25 (pq_cons (lc0_q ce21 Tryz.underlying24 rfl rfl rfl rfl rfl rfl rfl rfl) rfl (pq_cons (ix_q A20 Tryz.underlying140 z24 hg21.1 hg21.2 ia21 rfl rfl rfl rfl rfl rfl rfl) rfl (pq_cons (pu_q rfl rfl rfl rfl rfl rfl) rfl (pq_cons (mv_q w1_0 rfl rfl rfl rfl rfl rfl) rfl (pq_cons (lc0_q ce13 Tryz.underlying24 rfl rfl rfl rfl rfl rfl rfl rfl) rfl (pq_cons (ix_q A12 Tryz.underlying140 z24 hg13.1 hg13.2 ia13 rfl rfl rfl rfl rfl rfl rfl) rfl (pq_cons (pu_q rfl rfl rfl rfl rfl rfl) rfl (pq_cons (mv_q w0_0 rfl rfl rfl rfl rfl rfl) rfl pq_nil)))))))) (by kernel_rfl) (by decide) ?_
   refine cl rfl rfl rfl rfl rfl Tryz.func88 rfl rfl rfl (fun r26 m26 => laws_eqByteS.calls (at_ a0 x4) (at_ a1 x4) s8.w (fun b => memb [0] (s8.g b) = true) v13 v21 A13 A21 r26 m26) ?_
   rintro r26 _ w26 m26 ⟨rfl, ky26⟩
   obtain ⟨s27, rfl, p27, n27⟩ := nwx s8 w26 40 ky26
   refine pu rfl rfl rfl rfl rfl ?_
   refine dn ?_
   refine cd rfl (fun h28 => ?_) (fun h28 => ?_)
   ·
    refine sr ?_
    refine pu rfl rfl rfl rfl rfl ?_
    refine dn ?_
    refine sgi ?_
    have K29 := (K11.st p27 rfl)
    exact re rfl Tryz.func266 rfl (r_t rfl r_nil) rfl ⟨_, rfl, rfl, z.ky K29⟩
   ·
    refine sk ?_
    refine ib ?_
    refine rg ?_
    refine pu rfl rfl rfl rfl rfl ?_
    refine pu rfl rfl rfl rfl rfl ?_
    refine pu rfl rfl rfl rfl rfl ?_
    refine dn ?_
    have K30 := (K11.st p27 rfl)
    exact lb ih4 ⟨s27, _, rfl, (ue (ue (ue rfl rfl) rfl) rfl), K30⟩
  ·
   refine xt rfl ?_
   refine sgb ?_
   refine sr ?_
   refine pu rfl rfl rfl rfl rfl ?_
   refine dn ?_
   exact re rfl Tryz.func266 rfl (r_t rfl r_nil) rfl ⟨_, rfl, rfl, z.ky Kx4⟩
noncomputable def laws_eqPage.f (a0 : Page) (a1 : Page) : Option (Bool) :=
 (if (a0.Lsn != a1.Lsn) = true then (some false) else ((laws_eqByteSS.f a0.Slots a1.Slots).bind fun r13 => (if (!r13) = true then (some false) else (some true))))
def laws_eqPage.Q (w : World) (F : Nat → Prop) (r : Bool) (v : Value) (w' : World) : Prop :=
 v = (.bool r) ∧ Ky [] w w'
set_option maxHeartbeats 4000000 in
set_option maxRecDepth 100000 in
theorem laws_eqPage.calls (a0 : Page) (a1 : Page) (w : World) (F : Nat → Prop) (w0_0 : Value) (w1_0 : Value) (h0_0 : (Kd.sl 24 (Kd.sl 5 (Kd.int .u8))).rd w [w0_0] a0.Slots F) (h1_0 : (Kd.sl 24 (Kd.sl 5 (Kd.int .u8))).rd w [w1_0] a1.Slots F) (r : Bool) (m : laws_eqPage.f a0 a1 = some r) :
  Calls Tryz.prog 196 #[(.agg #[(.int .i64 a0.Lsn), w0_0]), (.agg #[(.int .i64 a1.Lsn), w1_0])] w fun en w' => ∃ v, en = .returned v ∧ laws_eqPage.Q w F r v w' := by
 obtain ⟨s0, rfl, kp0, z⟩ := start0 w F
 have A0_0 := z.rd h0_0
 have A1_0 := z.rd h1_0
 refine calls_of_TM (args := [(.agg #[(.int .i64 a0.Lsn), w0_0]), (.agg #[(.int .i64 a1.Lsn), w1_0])]) (R := fun r en w' => ∃ v, en = .returned v ∧ laws_eqPage.Q s0.w F r v w') Tryz.func196 Tryz.ntmps196 rfl rfl m ?_
 unfold laws_eqPage.f
 refine sr ?_
 refine bx (cs := [(.int .i64 a0.Lsn), w0_0]) 40 rfl rfl rfl rfl rfl rfl (fun b3 s3 p3 B3 => ?_)
 refine bx (cs := [(.int .i64 a1.Lsn), w1_0]) 41 rfl rfl rfl rfl rfl rfl (fun b5 s5 p5 B5 => ?_)
 refine pu rfl rfl rfl rfl rfl ?_
 refine dn ?_
 refine sq ?_
 refine sr ?_
 refine fa fa142_0 rfl rfl rfl rfl rfl rfl ?_
 have A7 := (BlF.st B3 p5 rfl)
 refine ld A7 Tryz.underlying3 rfl rfl rfl rfl rfl rfl rfl rfl ?_
 refine fa fa142_0 rfl rfl rfl rfl rfl rfl ?_
 refine ld B5 Tryz.underlying3 rfl rfl rfl rfl rfl rfl rfl rfl ?_
 refine pu rfl rfl rfl rfl rfl ?_
 refine dn ?_
 refine cd rfl (fun h8 => ?_) (fun h8 => ?_)
 ·
  refine sr ?_
  refine pu rfl rfl rfl rfl rfl ?_
  refine dn ?_
  have K9 := ((kp0.st p3 rfl).st p5 rfl)
  exact re rfl Tryz.func196 rfl (r_t rfl r_nil) rfl ⟨_, rfl, rfl, z.ky K9⟩
 ·
  refine sk ?_
  refine sq ?_
  refine sr ?_
  refine fa fa142_1 rfl rfl rfl rfl rfl rfl ?_
  refine ld A7 Tryz.underlying140 rfl rfl rfl rfl rfl rfl rfl rfl ?_
  refine fa fa142_1 rfl rfl rfl rfl rfl rfl ?_
  refine ld B5 Tryz.underlying140 rfl rfl rfl rfl rfl rfl rfl rfl ?_
  have K10 := ((kp0.st p3 rfl).st p5 rfl)
  have A11 := (A0_0.kp K10)
  have A12 := (A1_0.kp K10)
  refine cl rfl rfl rfl rfl rfl Tryz.func266 rfl rfl rfl (fun r13 m13 => laws_eqByteSS.calls a0.Slots a1.Slots s5.w (fun b => memb [0] (s5.g b) = true) w0_0 w1_0 A11 A12 r13 m13) ?_
  rintro r13 _ w13 m13 ⟨rfl, ky13⟩
  obtain ⟨s14, rfl, p14, n14⟩ := nwx s5 w13 42 ky13
  refine pu rfl rfl rfl rfl rfl ?_
  refine dn ?_
  refine cd rfl (fun h15 => ?_) (fun h15 => ?_)
  ·
   refine sr ?_
   refine pu rfl rfl rfl rfl rfl ?_
   refine dn ?_
   have K16 := (K10.st p14 rfl)
   exact re rfl Tryz.func196 rfl (r_t rfl r_nil) rfl ⟨_, rfl, rfl, z.ky K16⟩
  ·
   refine sk ?_
   refine sr ?_
   refine pu rfl rfl rfl rfl rfl ?_
   refine dn ?_
   have K17 := (K10.st p14 rfl)
   exact re rfl Tryz.func196 rfl (r_t rfl r_nil) rfl ⟨_, rfl, rfl, z.ky K17⟩
noncomputable def laws_eqPageS.b0 (a0 : (List Page)) (a1 : (List Page)) (x4 : Int) : Option (Int ⊕ Bool) :=
 (if (decide (x4 < (a0.length : Int))) = true then (if 0 ≤ x4 ∧ x4 < (a0.length : Int) then (if 0 ≤ x4 ∧ x4 < (a1.length : Int) then ((laws_eqPage.f (at_ a0 x4) (at_ a1 x4)).bind fun r26 => (if (!r26) = true then (some (Sum.inr false)) else (some (Sum.inl (IntKind.wrap .i64 (x4 + (1 : Int))))))) else none) else none) else ((some true).bind fun o => some (Sum.inr o)))
noncomputable def laws_eqPageS.f (a0 : (List Page)) (a1 : (List Page)) : Option (Bool) :=
 (if ((a0.length : Int) != (a1.length : Int)) = true then (some false) else (iter (laws_eqPageS.b0 a0 a1) (0 : Int)))
def laws_eqPageS.Q (w : World) (F : Nat → Prop) (r : Bool) (v : Value) (w' : World) : Prop :=
 v = (.bool r) ∧ Ky [] w w'
set_option maxHeartbeats 4000000 in
set_option maxRecDepth 100000 in
theorem laws_eqPageS.calls (a0 : (List Page)) (a1 : (List Page)) (w : World) (F : Nat → Prop) (w0_0 : Value) (w1_0 : Value) (h0_0 : (Kd.sl 142 kd142).rd w [w0_0] a0 F) (h1_0 : (Kd.sl 142 kd142).rd w [w1_0] a1 F) (r : Bool) (m : laws_eqPageS.f a0 a1 = some r) :
  Calls Tryz.prog 105 #[w0_0, w1_0] w fun en w' => ∃ v, en = .returned v ∧ laws_eqPageS.Q w F r v w' := by
 obtain ⟨s0, rfl, kp0, z⟩ := start0 w F
 have A0_0 := z.rd h0_0
 have A1_0 := z.rd h1_0
 refine calls_of_TM (args := [w0_0, w1_0]) (R := fun r en w' => ∃ v, en = .returned v ∧ laws_eqPageS.Q s0.w F r v w') Tryz.func105 Tryz.ntmps105 rfl rfl m ?_
 unfold laws_eqPageS.f
 refine sr ?_
 refine pu rfl rfl rfl rfl rfl ?_
 refine dn ?_
 refine sq ?_
 refine sr ?_
 refine mv w0_0 rfl rfl rfl rfl rfl rfl ?_
 refine ln A0_0 Tryz.underlying44 rfl rfl rfl rfl rfl rfl ?_
 refine mv w1_0 rfl rfl rfl rfl rfl rfl ?_
 refine ln A1_0 Tryz.underlying44 rfl rfl rfl rfl rfl rfl ?_
 refine pu rfl rfl rfl rfl rfl ?_
 refine dn ?_
 refine cd rfl (fun h3 => ?_) (fun h3 => ?_)
 ·
  refine sr ?_
  refine pu rfl rfl rfl rfl rfl ?_
  refine dn ?_
  exact re rfl Tryz.func105 rfl (r_t rfl r_nil) rfl ⟨_, rfl, rfl, z.ky kp0⟩
 ·
  refine sk ?_
  refine sq ?_
  refine sr ?_
  refine pu rfl rfl rfl rfl rfl ?_
  refine dn ?_
  refine bl ?_
  refine lpI (fun (x4 : Int) (e : Env) (w : World) => ∃ (s : St) (e0 : Env), w = s.w ∧ e = upd (upd (upd e0 0 w0_0) 1 w1_0) 5 (.int .i64 x4) ∧ Kp s0 s) ⟨s0, _, rfl, (ue (ue (ue rfl rfl) rfl) rfl), kp0⟩ (fun g4 ih4 => ?_)
  rintro x4 _ _ ⟨s5, _, rfl, rfl, Kx4⟩
  unfold laws_eqPageS.b0
  refine sq ?_
  refine sr ?_
  refine pu rfl rfl rfl rfl rfl ?_
  refine mv w0_0 rfl rfl rfl rfl rfl rfl ?_
  have A6 := (A0_0.kp Kx4)
  refine ln A6 Tryz.underlying44 rfl rfl rfl rfl rfl rfl ?_
  refine pu rfl rfl rfl rfl rfl ?_
  refine dn ?_
  refine cd rfl (fun h7 => ?_) (fun h7 => ?_)
  ·
   refine sk ?_
   refine sq ?_
   refine bl ?_
   refine sq ?_
   refine zdraw [[], [], [0, 1], [2], [], [], [4, 5], [6], [3, 7], [8]] [some 17, some 18, some 19, some 20, some 21, some 22, some 23, some 24, some 25, some 26] [[0], [5], [17, 18], [19], [1], [5], [21, 22], [23], [20, 24], [25]] [0, 1, 2, 3, 4, 5, 6, 7, 8, 9] ⟨by kernel_rfl, by kernel_rfl, by kernel_rfl⟩ (by kernel_rfl) (fun s8 p8 l8 tb8 zd8 => ?_)
   have zd9 := zd8.add 0 17 w0_0 rfl
   have zd10 := zd9.add 1 18 (.int .i64 x4) rfl
   have K11 := (Kx4.st p8 rfl)
   have A12 := (A0_0.kp K11)
   refine mg fun hg13 => ?_
   obtain ⟨ad13, es13, he13, ce13, ia13⟩ := ix_e A12 rfl hg13.1 hg13.2
   have h0_13 := hg13.1
   have h1_13 := hg13.2
   obtain ⟨v13_0, rfl, A13_0⟩ := op142 he13
   have zd16 := zd10.add 2 19 (.pointer (some ad13)) rfl
   have zd17 := zd16.add 3 20 (.agg #[(.int .i64 ((at_ a0 x4).Lsn)), v13_0]) rfl
   have zd18 := zd17.add 4 21 w1_0 rfl
   have zd19 := zd18.add 5 22 (.int .i64 x4) rfl
   have A20 := (A1_0.kp K11)
   refine mg fun hg21 => ?_
   obtain ⟨ad21, es21, he21, ce21, ia21⟩ := ix_e A20 rfl hg21.1 hg21.2
   have h0_21 := hg21.1
   have h1_21 := hg21.2
   obtain ⟨v21_0, rfl, A21_0⟩ := op142 he21
   have zd24 := zd19.add 6 23 (.pointer (some ad21)) rfl
   have zd25 := zd24.add 7 24 (.agg #[(.int .i64 ((at_ a1 x4).Lsn)), v21_0]) rfl
   refine zfin [8, 9] tb8 zd25 (pq_cons (lca_q ce21 Tryz.underlying142 z142 rfl rfl rfl rfl rfl rfl rfl) rfl (pq_cons (ix_q A20 Tryz.underlying44 z142 hg21.1 hg21.2 ia21 rfl rfl rfl rfl rfl rfl rfl) rfl (pq_cons (pu_q rfl rfl rfl rfl rfl rfl) rfl (pq_cons (mv_q w1_0 rfl rfl rfl rfl rfl rfl) rfl (pq_cons (lca_q ce13 Tryz.underlying142 z142 rfl rfl rfl rfl rfl rfl rfl) rfl (pq_cons (ix_q A12 Tryz.underlying44 z142 hg13.1 hg13.2 ia13 rfl rfl rfl rfl rfl rfl rfl) rfl (pq_cons (pu_q rfl rfl rfl rfl rfl rfl) rfl (pq_cons (mv_q w0_0 rfl rfl rfl rfl rfl rfl) rfl pq_nil)))))))) (by kernel_rfl) (by decide) ?_
   refine cl rfl rfl rfl rfl rfl Tryz.func196 rfl rfl rfl (fun r26 m26 => laws_eqPage.calls (at_ a0 x4) (at_ a1 x4) s8.w (fun b => memb [0] (s8.g b) = true) v13_0 v21_0 A13_0 A21_0 r26 m26) ?_
   rintro r26 _ w26 m26 ⟨rfl, ky26⟩
   obtain ⟨s27, rfl, p27, n27⟩ := nwx s8 w26 40 ky26
   refine pu rfl rfl rfl rfl rfl ?_
   refine dn ?_
   refine cd rfl (fun h28 => ?_) (fun h28 => ?_)
   ·
    refine sr ?_
    refine pu rfl rfl rfl rfl rfl ?_
    refine dn ?_
    refine sgi ?_
    have K29 := (K11.st p27 rfl)
    exact re rfl Tryz.func105 rfl (r_t rfl r_nil) rfl ⟨_, rfl, rfl, z.ky K29⟩
   ·
    refine sk ?_
    refine ib ?_
    refine rg ?_
    refine pu rfl rfl rfl rfl rfl ?_
    refine pu rfl rfl rfl rfl rfl ?_
    refine pu rfl rfl rfl rfl rfl ?_
    refine dn ?_
    have K30 := (K11.st p27 rfl)
    exact lb ih4 ⟨s27, _, rfl, (ue (ue (ue rfl rfl) rfl) rfl), K30⟩
  ·
   refine xt rfl ?_
   refine sgb ?_
   refine sr ?_
   refine pu rfl rfl rfl rfl rfl ?_
   refine dn ?_
   exact re rfl Tryz.func105 rfl (r_t rfl r_nil) rfl ⟨_, rfl, rfl, z.ky Kx4⟩
noncomputable def laws_eqHeap.f (a0 : Heap) (a1 : Heap) : Option (Bool) :=
 ((laws_eqPageS.f a0.Pages a1.Pages).bind fun r11 => (if (!r11) = true then (some false) else (some true)))
def laws_eqHeap.Q (w : World) (F : Nat → Prop) (r : Bool) (v : Value) (w' : World) : Prop :=
 v = (.bool r) ∧ Ky [] w w'
set_option maxHeartbeats 4000000 in
set_option maxRecDepth 100000 in
theorem laws_eqHeap.calls (a0 : Heap) (a1 : Heap) (w : World) (F : Nat → Prop) (w0_0 : Value) (w1_0 : Value) (h0_0 : (Kd.sl 142 kd142).rd w [w0_0] a0.Pages F) (h1_0 : (Kd.sl 142 kd142).rd w [w1_0] a1.Pages F) (r : Bool) (m : laws_eqHeap.f a0 a1 = some r) :
  Calls Tryz.prog 25 #[(.agg #[w0_0]), (.agg #[w1_0])] w fun en w' => ∃ v, en = .returned v ∧ laws_eqHeap.Q w F r v w' := by
 obtain ⟨s0, rfl, kp0, z⟩ := start0 w F
 have A0_0 := z.rd h0_0
 have A1_0 := z.rd h1_0
 refine calls_of_TM (args := [(.agg #[w0_0]), (.agg #[w1_0])]) (R := fun r en w' => ∃ v, en = .returned v ∧ laws_eqHeap.Q s0.w F r v w') Tryz.func25 Tryz.ntmps25 rfl rfl m ?_
 unfold laws_eqHeap.f
 refine sr ?_
 refine bx (cs := [w0_0]) 40 rfl rfl rfl rfl rfl rfl (fun b3 s3 p3 B3 => ?_)
 refine bx (cs := [w1_0]) 41 rfl rfl rfl rfl rfl rfl (fun b5 s5 p5 B5 => ?_)
 refine pu rfl rfl rfl rfl rfl ?_
 refine dn ?_
 refine sq ?_
 refine sr ?_
 refine fa fa46_0 rfl rfl rfl rfl rfl rfl ?_
 have A7 := (BlF.st B3 p5 rfl)
 refine ld A7 Tryz.underlying44 rfl rfl rfl rfl rfl rfl rfl rfl ?_
 refine fa fa46_0 rfl rfl rfl rfl rfl rfl ?_
 refine ld B5 Tryz.underlying44 rfl rfl rfl rfl rfl rfl rfl rfl ?_
 have K8 := ((kp0.st p3 rfl).st p5 rfl)
 have A9 := (A0_0.kp K8)
 have A10 := (A1_0.kp K8)
 refine cl rfl rfl rfl rfl rfl Tryz.func105 rfl rfl rfl (fun r11 m11 => laws_eqPageS.calls a0.Pages a1.Pages s5.w (fun b => memb [0] (s5.g b) = true) w0_0 w1_0 A9 A10 r11 m11) ?_
 rintro r11 _ w11 m11 ⟨rfl, ky11⟩
 obtain ⟨s12, rfl, p12, n12⟩ := nwx s5 w11 42 ky11
 refine pu rfl rfl rfl rfl rfl ?_
 refine dn ?_
 refine cd rfl (fun h13 => ?_) (fun h13 => ?_)
 ·
  refine sr ?_
  refine pu rfl rfl rfl rfl rfl ?_
  refine dn ?_
  have K14 := (K8.st p12 rfl)
  exact re rfl Tryz.func25 rfl (r_t rfl r_nil) rfl ⟨_, rfl, rfl, z.ky K14⟩
 ·
  refine sk ?_
  refine sr ?_
  refine pu rfl rfl rfl rfl rfl ?_
  refine dn ?_
  have K15 := (K8.st p12 rfl)
  exact re rfl Tryz.func25 rfl (r_t rfl r_nil) rfl ⟨_, rfl, rfl, z.ky K15⟩
noncomputable def laws_markByteSS.b0  (x2 : (List (List Int)) × Int × Int) : Option (((List (List Int)) × Int × Int) ⊕ (Int × (List (List Int)))) :=
 (if (decide (x2.2.2 < (x2.1.length : Int))) = true then (if 0 ≤ x2.2.2 ∧ x2.2.2 < (x2.1.length : Int) then ((laws_markByteS.f (at_ x2.1 x2.2.2) x2.2.1).bind fun r9 => (some (Sum.inl ((x2.1.set (x2.2.2).toNat r9.2), r9.1, (IntKind.wrap .i64 (x2.2.2 + (1 : Int))))))) else none) else ((some (x2.2.1, x2.1)).bind fun o => some (Sum.inr o)))
noncomputable def laws_markByteSS.f (a0 : (List (List Int))) (a1 : Int) : Option (Int × (List (List Int))) :=
 (iter laws_markByteSS.b0 (a0, a1, (0 : Int)))
def laws_markByteSS.Q (w : World) (F : Nat → Prop) (os : List Nat) (w0_0 : Value) (r : Int × (List (List Int))) (v : Value) (w' : World) : Prop :=
 v = (.int .i64 r.1) ∧ FW (Kd.sl 24 (Kd.sl 5 (Kd.int .u8))) os w w' [w0_0] r.2 ∧ Ky os w w'
set_option maxHeartbeats 4000000 in
set_option maxRecDepth 100000 in
theorem laws_markByteSS.calls (a0 : (List (List Int))) (a1 : Int) (w : World) (F : Nat → Prop) (w0_0 : Value) (os : List Nat) (h0_0 : (Kd.sl 24 (Kd.sl 5 (Kd.int .u8))).ow w [w0_0] a0 os) (hn : os.Nodup) (hF : ∀ b, F b → b ∉ os) (r : Int × (List (List Int))) (m : laws_markByteSS.f a0 a1 = some r) :
  Calls Tryz.prog 197 #[w0_0, (.int .i64 a1)] w fun en w' => ∃ v, en = .returned v ∧ laws_markByteSS.Q w F os w0_0 r v w' := by
 obtain ⟨s0, rfl, kp0, z⟩ := start1 w F os hF
 have A0_0 := z.ow h0_0 hn
 refine calls_of_TM (args := [w0_0, (.int .i64 a1)]) (R := fun r en w' => ∃ v, en = .returned v ∧ laws_markByteSS.Q s0.w F os w0_0 r v w') Tryz.func197 Tryz.ntmps197 rfl rfl m ?_
 unfold laws_markByteSS.f
 refine sr ?_
 refine pu rfl rfl rfl rfl rfl ?_
 refine dn ?_
 refine sq ?_
 refine sr ?_
 refine pu rfl rfl rfl rfl rfl ?_
 refine dn ?_
 refine bl ?_
 refine lpI (fun (x2 : (List (List Int)) × Int × Int) (e : Env) (w : World) => ∃ (s : St) (e0 : Env), w = s.w ∧ e = upd (upd (upd e0 0 w0_0) 1 (.int .i64 x2.2.1)) 5 (.int .i64 x2.2.2) ∧ Kp s0 s ∧ OwF (Kd.sl 24 (Kd.sl 5 (Kd.int .u8))) s [w0_0] x2.1 2) ⟨s0, _, rfl, (ue (ue (ue rfl rfl) rfl) rfl), kp0, A0_0⟩ (fun g2 ih2 => ?_)
 rintro x2 _ _ ⟨s3, _, rfl, rfl, Kx2, Ax2_0⟩
 unfold laws_markByteSS.b0
 refine sq ?_
 refine sr ?_
 refine pu rfl rfl rfl rfl rfl ?_
 refine mv w0_0 rfl rfl rfl rfl rfl rfl ?_
 refine ln Ax2_0.rd Tryz.underlying140 rfl rfl rfl rfl rfl rfl ?_
 refine pu rfl rfl rfl rfl rfl ?_
 refine dn ?_
 refine cd rfl (fun h5 => ?_) (fun h5 => ?_)
 ·
  refine sk ?_
  refine sq ?_
  refine bl ?_
  refine rg ?_
  refine mv w0_0 rfl rfl rfl rfl rfl rfl ?_
  refine pu rfl rfl rfl rfl rfl ?_
  refine ix Ax2_0.rd Tryz.underlying140 z24 rfl rfl rfl rfl rfl rfl rfl rfl (fun ad6 es6 h0_6 h1_6 he6 ce6 ia6 => ?_)
  obtain ⟨v6, rfl, he6'⟩ := he6
  have A6 : RdF (Kd.sl 5 (Kd.int .u8)) s3 [v6] (at_ x2.1 x2.2.2) [2] := ⟨v6, rfl, he6'⟩
  refine lc0 ce6 Tryz.underlying24 rfl rfl rfl rfl rfl rfl rfl rfl ?_
  refine pu rfl rfl rfl rfl rfl ?_
  obtain ⟨os9, ho9, hn9, hc9, put9⟩ := focus ln_sl Ax2_0 h0_6 h1_6 ia6 ce6 rfl rfl
  refine cl rfl rfl rfl rfl rfl Tryz.func91 rfl rfl rfl (fun r9 m9 => laws_markByteS.calls (at_ x2.1 x2.2.2) x2.2.1 s3.w (fun b => memb [] (s3.g b) = true) v6 os9 ho9 hn9 (apart_of hc9 rfl) r9 m9) ?_
  rintro r9 _ w9 m9 ⟨rfl, w9_, ky9⟩
  obtain ⟨s10, rfl, p10, A10⟩ := put9 w9 _ 40 ky9 w9_
  refine pu rfl rfl rfl rfl rfl ?_
  refine dn ?_
  refine ib ?_
  refine rg ?_
  refine pu rfl rfl rfl rfl rfl ?_
  refine pu rfl rfl rfl rfl rfl ?_
  refine pu rfl rfl rfl rfl rfl ?_
  refine dn ?_
  have K12 := (Kx2.st p10 rfl)
  exact lb ih2 ⟨s10, _, rfl, (ue (ue (ue rfl rfl) rfl) rfl), K12, A10⟩
 ·
  refine xt rfl ?_
  refine sgb ?_
  refine sr ?_
  refine pu rfl rfl rfl rfl rfl ?_
  refine pu rfl rfl rfl rfl rfl ?_
  refine dn ?_
  exact re rfl Tryz.func197 rfl (r_t rfl r_nil) rfl ⟨_, rfl, rfl, z.fw Kx2 Ax2_0, z.ky Kx2⟩
noncomputable def laws_markPageS.b0  (x2 : (List Page) × Int × Int) : Option (((List Page) × Int × Int) ⊕ (Int × (List Page))) :=
 (if (decide (x2.2.2 < (x2.1.length : Int))) = true then (if 0 ≤ x2.2.2 ∧ x2.2.2 < (x2.1.length : Int) then (if 0 ≤ x2.2.2 ∧ x2.2.2 < ((x2.1.set (x2.2.2).toNat (Page.mk x2.2.1 (at_ x2.1 x2.2.2).Slots)).length : Int) then ((laws_markByteSS.f ((at_ (x2.1.set (x2.2.2).toNat (Page.mk x2.2.1 (at_ x2.1 x2.2.2).Slots)) x2.2.2).Slots) (IntKind.wrap .i64 (x2.2.1 + (1 : Int)))).bind fun r14 => ((some ((x2.1.set (x2.2.2).toNat (Page.mk x2.2.1 (at_ x2.1 x2.2.2).Slots)).set (x2.2.2).toNat (Page.mk (at_ (x2.1.set (x2.2.2).toNat (Page.mk x2.2.1 (at_ x2.1 x2.2.2).Slots)) x2.2.2).Lsn r14.2))).bind fun y17 => (some (Sum.inl (y17, r14.1, (IntKind.wrap .i64 (x2.2.2 + (1 : Int)))))))) else none) else none) else ((some (x2.2.1, x2.1)).bind fun o => some (Sum.inr o)))
noncomputable def laws_markPageS.f (a0 : (List Page)) (a1 : Int) : Option (Int × (List Page)) :=
 (iter laws_markPageS.b0 (a0, a1, (0 : Int)))
def laws_markPageS.Q (w : World) (F : Nat → Prop) (os : List Nat) (w0_0 : Value) (r : Int × (List Page)) (v : Value) (w' : World) : Prop :=
 v = (.int .i64 r.1) ∧ FW (Kd.sl 142 kd142) os w w' [w0_0] r.2 ∧ Ky os w w'
set_option maxHeartbeats 4000000 in
set_option maxRecDepth 100000 in
theorem laws_markPageS.calls (a0 : (List Page)) (a1 : Int) (w : World) (F : Nat → Prop) (w0_0 : Value) (os : List Nat) (h0_0 : (Kd.sl 142 kd142).ow w [w0_0] a0 os) (hn : os.Nodup) (hF : ∀ b, F b → b ∉ os) (r : Int × (List Page)) (m : laws_markPageS.f a0 a1 = some r) :
  Calls Tryz.prog 106 #[w0_0, (.int .i64 a1)] w fun en w' => ∃ v, en = .returned v ∧ laws_markPageS.Q w F os w0_0 r v w' := by
 obtain ⟨s0, rfl, kp0, z⟩ := start1 w F os hF
 have A0_0 := z.ow h0_0 hn
 refine calls_of_TM (args := [w0_0, (.int .i64 a1)]) (R := fun r en w' => ∃ v, en = .returned v ∧ laws_markPageS.Q s0.w F os w0_0 r v w') Tryz.func106 Tryz.ntmps106 rfl rfl m ?_
 unfold laws_markPageS.f
 refine sr ?_
 refine pu rfl rfl rfl rfl rfl ?_
 refine dn ?_
 refine sq ?_
 refine sr ?_
 refine pu rfl rfl rfl rfl rfl ?_
 refine dn ?_
 refine bl ?_
 refine lpI (fun (x2 : (List Page) × Int × Int) (e : Env) (w : World) => ∃ (s : St) (e0 : Env), w = s.w ∧ e = upd (upd (upd e0 0 w0_0) 1 (.int .i64 x2.2.1)) 5 (.int .i64 x2.2.2) ∧ Kp s0 s ∧ OwF (Kd.sl 142 kd142) s [w0_0] x2.1 2) ⟨s0, _, rfl, (ue (ue (ue rfl rfl) rfl) rfl), kp0, A0_0⟩ (fun g2 ih2 => ?_)
 rintro x2 _ _ ⟨s3, _, rfl, rfl, Kx2, Ax2_0⟩
 unfold laws_markPageS.b0
 refine sq ?_
 refine sr ?_
 refine pu rfl rfl rfl rfl rfl ?_
 refine mv w0_0 rfl rfl rfl rfl rfl rfl ?_
 refine ln Ax2_0.rd Tryz.underlying44 rfl rfl rfl rfl rfl rfl ?_
 refine pu rfl rfl rfl rfl rfl ?_
 refine dn ?_
 refine cd rfl (fun h5 => ?_) (fun h5 => ?_)
 ·
  refine sk ?_
  refine sq ?_
  refine bl ?_
  refine sr ?_
  refine mv w0_0 rfl rfl rfl rfl rfl rfl ?_
  refine pu rfl rfl rfl rfl rfl ?_
  refine pu rfl rfl rfl rfl rfl ?_
  refine ix Ax2_0.rd Tryz.underlying44 z142 rfl rfl rfl rfl rfl rfl rfl rfl (fun ad6 es6 h0_6 h1_6 he6 ce6 ia6 => ?_)
  obtain ⟨v6_0, rfl, A6_0⟩ := op142 he6
  refine fa fa142_0 rfl rfl rfl rfl rfl rfl ?_
  refine so (x' := (Page.mk x2.2.1 (at_ x2.1 x2.2.2).Slots)) Ax2_0 ia6 h0_6 h1_6 (cs_iso (cs_left cs_flat)) z3 rfl rfl rfl rfl rfl rfl (fun s9 p9 A9 => ?_)
  refine dn ?_
  refine sr ?_
  refine pu rfl rfl rfl rfl rfl ?_
  refine pu rfl rfl rfl rfl rfl ?_
  refine pu rfl rfl rfl rfl rfl ?_
  refine dn ?_
  refine rg ?_
  refine mv w0_0 rfl rfl rfl rfl rfl rfl ?_
  refine pu rfl rfl rfl rfl rfl ?_
  refine ix A9.rd Tryz.underlying44 z142 rfl rfl rfl rfl rfl rfl rfl rfl (fun ad11 es11 h0_11 h1_11 he11 ce11 ia11 => ?_)
  obtain ⟨v11_0, rfl, A11_0⟩ := op142 he11
  refine fa fa142_1 rfl rfl rfl rfl rfl rfl ?_
  refine lc ce11 Tryz.underlying140 rfl rfl rfl rfl rfl rfl rfl rfl ?_
  refine pu rfl rfl rfl rfl rfl ?_
  obtain ⟨os14, ho14, hn14, hc14, put14⟩ := focus (ln_iso (fun x : Page => (x.Lsn, x.Slots)) (fun x => x.Slots) (fun x y => (Page.mk x.Lsn y)) (ln_right ln_sl) (fun _ => rfl) (fun _ _ => rfl)) A9 h0_11 h1_11 ia11 ce11 rfl rfl
  refine cl rfl rfl rfl rfl rfl Tryz.func197 rfl rfl rfl (fun r14 m14 => laws_markByteSS.calls ((at_ (x2.1.set (x2.2.2).toNat (Page.mk x2.2.1 (at_ x2.1 x2.2.2).Slots)) x2.2.2).Slots) (IntKind.wrap .i64 (x2.2.1 + (1 : Int))) s9.w (fun b => memb [] (s9.g b) = true) v11_0 os14 ho14 hn14 (apart_of hc14 rfl) r14 m14) ?_
  rintro r14 _ w14 m14 ⟨rfl, w14_, ky14⟩
  obtain ⟨s15, rfl, p15, A15⟩ := put14 w14 _ 40 ky14 w14_
  refine nb (fun y17 h17 => ?_)
  have A17 : OwF (Kd.sl 142 kd142) s15 [w0_0] y17 2 := by rw [h17]; exact A15
  refine pu rfl rfl rfl rfl rfl ?_
  refine dn ?_
  refine ib ?_
  refine rg ?_
  refine pu rfl rfl rfl rfl rfl ?_
  refine pu rfl rfl rfl rfl rfl ?_
  refine pu rfl rfl rfl rfl rfl ?_
  refine dn ?_
  have K18 := ((Kx2.st p9 rfl).st p15 rfl)
  exact lb ih2 ⟨s15, _, rfl, (ue (ue (ue rfl rfl) rfl) rfl), K18, A17⟩
 ·
  refine xt rfl ?_
  refine sgb ?_
  refine sr ?_
  refine pu rfl rfl rfl rfl rfl ?_
  refine pu rfl rfl rfl rfl rfl ?_
  refine dn ?_
  exact re rfl Tryz.func106 rfl (r_t rfl r_nil) rfl ⟨_, rfl, rfl, z.fw Kx2 Ax2_0, z.ky Kx2⟩
noncomputable def laws_markHeap.f (a0 : Heap) (a1 : Int) : Option (Int × (List Page)) :=
 ((laws_markPageS.f a0.Pages a1).bind fun r4 => (some (r4.1, r4.2)))
def laws_markHeap.Q (w : World) (F : Nat → Prop) (os : List Nat) (w0_0 : Value) (r : Int × (List Page)) (v : Value) (w' : World) : Prop :=
 v = (.int .i64 r.1) ∧ FW (Kd.sl 142 kd142) os w w' [w0_0] r.2 ∧ Ky os w w'
set_option maxHeartbeats 4000000 in
set_option maxRecDepth 100000 in
theorem laws_markHeap.calls (a0 : Heap) (a1 : Int) (w : World) (F : Nat → Prop) (w0_0 : Value) (os : List Nat) (h0_0 : (Kd.sl 142 kd142).ow w [w0_0] a0.Pages os) (hn : os.Nodup) (hF : ∀ b, F b → b ∉ os) (r : Int × (List Page)) (m : laws_markHeap.f a0 a1 = some r) :
  Calls Tryz.prog 26 #[(.agg #[w0_0]), (.int .i64 a1)] w fun en w' => ∃ v, en = .returned v ∧ laws_markHeap.Q w F os w0_0 r v w' := by
 obtain ⟨s0, rfl, kp0, z⟩ := start1 w F os hF
 have A0_0 := z.ow h0_0 hn
 refine calls_of_TM (args := [(.agg #[w0_0]), (.int .i64 a1)]) (R := fun r en w' => ∃ v, en = .returned v ∧ laws_markHeap.Q s0.w F os w0_0 r v w') Tryz.func26 Tryz.ntmps26 rfl rfl m ?_
 unfold laws_markHeap.f
 refine sr ?_
 refine bx (cs := [w0_0]) 40 rfl rfl rfl rfl rfl rfl (fun b2 s2 p2 B2 => ?_)
 refine pu rfl rfl rfl rfl rfl ?_
 refine dn ?_
 refine sr ?_
 refine fa fa46_0 rfl rfl rfl rfl rfl rfl ?_
 refine ld B2 Tryz.underlying44 rfl rfl rfl rfl rfl rfl rfl rfl ?_
 refine pu rfl rfl rfl rfl rfl ?_
 have A5 := (A0_0.st p2 rfl)
 obtain ⟨os4, ho4, hn4, hc4⟩ := A5
 refine cl rfl rfl rfl rfl rfl Tryz.func106 rfl rfl rfl (fun r4 m4 => laws_markPageS.calls a0.Pages a1 s2.w (fun b => memb [] (s2.g b) = true) w0_0 os4 ho4 hn4 (apart_of hc4 rfl) r4 m4) ?_
 rintro r4 _ w4 m4 ⟨rfl, w4_, ky4⟩
 obtain ⟨s6, rfl, p6, A6⟩ := nwo 41 hc4 ky4 w4_
 refine pu rfl rfl rfl rfl rfl ?_
 refine dn ?_
 refine sr ?_
 refine pu rfl rfl rfl rfl rfl ?_
 refine pu rfl rfl rfl rfl rfl ?_
 refine dn ?_
 have K8 := ((kp0.st p2 rfl).st p6 rfl)
 exact re rfl Tryz.func26 rfl (r_t rfl r_nil) rfl ⟨_, rfl, rfl, z.fw K8 A6, z.ky K8⟩
noncomputable def laws_heldByteSS.b0 (a0 : (List (List Int))) (x2 : Int × Int) : Option ((Int × Int) ⊕ Int) :=
 (if (decide (x2.2 < (a0.length : Int))) = true then (if 0 ≤ x2.2 ∧ x2.2 < (a0.length : Int) then ((laws_heldByteS.f (at_ a0 x2.2) x2.1).bind fun r9 => (if (decide (r9 < (0 : Int))) = true then (some (Sum.inr (-1 : Int))) else (some (Sum.inl (r9, (IntKind.wrap .i64 (x2.2 + (1 : Int)))))))) else none) else ((some x2.1).bind fun o => some (Sum.inr o)))
noncomputable def laws_heldByteSS.f (a0 : (List (List Int))) (a1 : Int) : Option (Int) :=
 (iter (laws_heldByteSS.b0 a0) (a1, (0 : Int)))
def laws_heldByteSS.Q (w : World) (F : Nat → Prop) (r : Int) (v : Value) (w' : World) : Prop :=
 v = (.int .i64 r) ∧ Ky [] w w'
set_option maxHeartbeats 4000000 in
set_option maxRecDepth 100000 in
theorem laws_heldByteSS.calls (a0 : (List (List Int))) (a1 : Int) (w : World) (F : Nat → Prop) (w0_0 : Value) (h0_0 : (Kd.sl 24 (Kd.sl 5 (Kd.int .u8))).rd w [w0_0] a0 F) (r : Int) (m : laws_heldByteSS.f a0 a1 = some r) :
  Calls Tryz.prog 198 #[w0_0, (.int .i64 a1)] w fun en w' => ∃ v, en = .returned v ∧ laws_heldByteSS.Q w F r v w' := by
 obtain ⟨s0, rfl, kp0, z⟩ := start0 w F
 have A0_0 := z.rd h0_0
 refine calls_of_TM (args := [w0_0, (.int .i64 a1)]) (R := fun r en w' => ∃ v, en = .returned v ∧ laws_heldByteSS.Q s0.w F r v w') Tryz.func198 Tryz.ntmps198 rfl rfl m ?_
 unfold laws_heldByteSS.f
 refine sr ?_
 refine pu rfl rfl rfl rfl rfl ?_
 refine dn ?_
 refine sq ?_
 refine sr ?_
 refine pu rfl rfl rfl rfl rfl ?_
 refine dn ?_
 refine bl ?_
 refine lpI (fun (x2 : Int × Int) (e : Env) (w : World) => ∃ (s : St) (e0 : Env), w = s.w ∧ e = upd (upd (upd e0 0 w0_0) 1 (.int .i64 x2.1)) 5 (.int .i64 x2.2) ∧ Kp s0 s) ⟨s0, _, rfl, (ue (ue (ue rfl rfl) rfl) rfl), kp0⟩ (fun g2 ih2 => ?_)
 rintro x2 _ _ ⟨s3, _, rfl, rfl, Kx2⟩
 unfold laws_heldByteSS.b0
 refine sq ?_
 refine sr ?_
 refine pu rfl rfl rfl rfl rfl ?_
 refine mv w0_0 rfl rfl rfl rfl rfl rfl ?_
 have A4 := (A0_0.kp Kx2)
 refine ln A4 Tryz.underlying140 rfl rfl rfl rfl rfl rfl ?_
 refine pu rfl rfl rfl rfl rfl ?_
 refine dn ?_
 refine cd rfl (fun h5 => ?_) (fun h5 => ?_)
 ·
  refine sk ?_
  refine sq ?_
  refine bl ?_
  refine sr ?_
  refine mv w0_0 rfl rfl rfl rfl rfl rfl ?_
  refine pu rfl rfl rfl rfl rfl ?_
  refine ix A4 Tryz.underlying140 z24 rfl rfl rfl rfl rfl rfl rfl rfl (fun ad6 es6 h0_6 h1_6 he6 ce6 ia6 => ?_)
  obtain ⟨v6, rfl, he6'⟩ := he6
  have A6 : RdF (Kd.sl 5 (Kd.int .u8)) s3 [v6] (at_ a0 x2.2) [0] := ⟨v6, rfl, he6'⟩
  refine lc0 ce6 Tryz.underlying24 rfl rfl rfl rfl rfl rfl rfl rfl ?_
  refine pu rfl rfl rfl rfl rfl ?_
  refine cl rfl rfl rfl rfl rfl Tryz.func181 rfl rfl rfl (fun r9 m9 => laws_heldByteS.calls (at_ a0 x2.2) x2.1 s3.w (fun b => memb [0] (s3.g b) = true) v6 A6 r9 m9) ?_
  rintro r9 _ w9 m9 ⟨rfl, ky9⟩
  obtain ⟨s10, rfl, p10, n10⟩ := nwx s3 w9 40 ky9
  refine pu rfl rfl rfl rfl rfl ?_
  refine dn ?_
  refine sr ?_
  refine pu rfl rfl rfl rfl rfl ?_
  refine pu rfl rfl rfl rfl rfl ?_
  refine dn ?_
  refine cd rfl (fun h11 => ?_) (fun h11 => ?_)
  ·
   refine sr ?_
   refine pu rfl rfl rfl rfl rfl ?_
   refine dn ?_
   refine sgi ?_
   have K12 := (Kx2.st p10 rfl)
   exact re rfl Tryz.func198 rfl (r_t rfl r_nil) rfl ⟨_, rfl, rfl, z.ky K12⟩
  ·
   refine sk ?_
   refine ib ?_
   refine rg ?_
   refine pu rfl rfl rfl rfl rfl ?_
   refine pu rfl rfl rfl rfl rfl ?_
   refine pu rfl rfl rfl rfl rfl ?_
   refine dn ?_
   have K13 := (Kx2.st p10 rfl)
   exact lb ih2 ⟨s10, _, rfl, (ue (ue (ue rfl rfl) rfl) rfl), K13⟩
 ·
  refine xt rfl ?_
  refine sgb ?_
  refine sr ?_
  refine pu rfl rfl rfl rfl rfl ?_
  refine pu rfl rfl rfl rfl rfl ?_
  refine dn ?_
  exact re rfl Tryz.func198 rfl (r_t rfl r_nil) rfl ⟨_, rfl, rfl, z.ky Kx2⟩
noncomputable def laws_heldPageS.b0 (a0 : (List Page)) (x2 : Int × Int) : Option ((Int × Int) ⊕ Int) :=
 (if (decide (x2.2 < (a0.length : Int))) = true then (if 0 ≤ x2.2 ∧ x2.2 < (a0.length : Int) then (if ((at_ a0 x2.2).Lsn != x2.1) = true then (some (Sum.inr (-1 : Int))) else (if 0 ≤ x2.2 ∧ x2.2 < (a0.length : Int) then ((laws_heldByteSS.f ((at_ a0 x2.2).Slots) (IntKind.wrap .i64 (x2.1 + (1 : Int)))).bind fun r13 => (if (decide (r13 < (0 : Int))) = true then (some (Sum.inr (-1 : Int))) else (some (Sum.inl (r13, (IntKind.wrap .i64 (x2.2 + (1 : Int)))))))) else none)) else none) else ((some x2.1).bind fun o => some (Sum.inr o)))
noncomputable def laws_heldPageS.f (a0 : (List Page)) (a1 : Int) : Option (Int) :=
 (iter (laws_heldPageS.b0 a0) (a1, (0 : Int)))
def laws_heldPageS.Q (w : World) (F : Nat → Prop) (r : Int) (v : Value) (w' : World) : Prop :=
 v = (.int .i64 r) ∧ Ky [] w w'
set_option maxHeartbeats 4000000 in
set_option maxRecDepth 100000 in
theorem laws_heldPageS.calls (a0 : (List Page)) (a1 : Int) (w : World) (F : Nat → Prop) (w0_0 : Value) (h0_0 : (Kd.sl 142 kd142).rd w [w0_0] a0 F) (r : Int) (m : laws_heldPageS.f a0 a1 = some r) :
  Calls Tryz.prog 107 #[w0_0, (.int .i64 a1)] w fun en w' => ∃ v, en = .returned v ∧ laws_heldPageS.Q w F r v w' := by
 obtain ⟨s0, rfl, kp0, z⟩ := start0 w F
 have A0_0 := z.rd h0_0
 refine calls_of_TM (args := [w0_0, (.int .i64 a1)]) (R := fun r en w' => ∃ v, en = .returned v ∧ laws_heldPageS.Q s0.w F r v w') Tryz.func107 Tryz.ntmps107 rfl rfl m ?_
 unfold laws_heldPageS.f
 refine sr ?_
 refine pu rfl rfl rfl rfl rfl ?_
 refine dn ?_
 refine sq ?_
 refine sr ?_
 refine pu rfl rfl rfl rfl rfl ?_
 refine dn ?_
 refine bl ?_
 refine lpI (fun (x2 : Int × Int) (e : Env) (w : World) => ∃ (s : St) (e0 : Env), w = s.w ∧ e = upd (upd (upd e0 0 w0_0) 1 (.int .i64 x2.1)) 5 (.int .i64 x2.2) ∧ Kp s0 s) ⟨s0, _, rfl, (ue (ue (ue rfl rfl) rfl) rfl), kp0⟩ (fun g2 ih2 => ?_)
 rintro x2 _ _ ⟨s3, _, rfl, rfl, Kx2⟩
 unfold laws_heldPageS.b0
 refine sq ?_
 refine sr ?_
 refine pu rfl rfl rfl rfl rfl ?_
 refine mv w0_0 rfl rfl rfl rfl rfl rfl ?_
 have A4 := (A0_0.kp Kx2)
 refine ln A4 Tryz.underlying44 rfl rfl rfl rfl rfl rfl ?_
 refine pu rfl rfl rfl rfl rfl ?_
 refine dn ?_
 refine cd rfl (fun h5 => ?_) (fun h5 => ?_)
 ·
  refine sk ?_
  refine sq ?_
  refine bl ?_
  refine sq ?_
  refine sr ?_
  refine mv w0_0 rfl rfl rfl rfl rfl rfl ?_
  refine pu rfl rfl rfl rfl rfl ?_
  refine ix A4 Tryz.underlying44 z142 rfl rfl rfl rfl rfl rfl rfl rfl (fun ad6 es6 h0_6 h1_6 he6 ce6 ia6 => ?_)
  obtain ⟨v6_0, rfl, A6_0⟩ := op142 he6
  refine fa fa142_0 rfl rfl rfl rfl rfl rfl ?_
  refine lc0 ce6 Tryz.underlying3 rfl rfl rfl rfl rfl rfl rfl rfl ?_
  refine pu rfl rfl rfl rfl rfl ?_
  refine pu rfl rfl rfl rfl rfl ?_
  refine dn ?_
  refine cd rfl (fun h9 => ?_) (fun h9 => ?_)
  ·
   refine sr ?_
   refine pu rfl rfl rfl rfl rfl ?_
   refine dn ?_
   refine sgi ?_
   exact re rfl Tryz.func107 rfl (r_t rfl r_nil) rfl ⟨_, rfl, rfl, z.ky Kx2⟩
  ·
   refine sk ?_
   refine sr ?_
   refine pu rfl rfl rfl rfl rfl ?_
   refine pu rfl rfl rfl rfl rfl ?_
   refine pu rfl rfl rfl rfl rfl ?_
   refine dn ?_
   refine sr ?_
   refine mv w0_0 rfl rfl rfl rfl rfl rfl ?_
   refine pu rfl rfl rfl rfl rfl ?_
   refine ix A4 Tryz.underlying44 z142 rfl rfl rfl rfl rfl rfl rfl rfl (fun ad10 es10 h0_10 h1_10 he10 ce10 ia10 => ?_)
   obtain ⟨v10_0, rfl, A10_0⟩ := op142 he10
   refine fa fa142_1 rfl rfl rfl rfl rfl rfl ?_
   refine lc ce10 Tryz.underlying140 rfl rfl rfl rfl rfl rfl rfl rfl ?_
   refine pu rfl rfl rfl rfl rfl ?_
   refine cl rfl rfl rfl rfl rfl Tryz.func198 rfl rfl rfl (fun r13 m13 => laws_heldByteSS.calls ((at_ a0 x2.2).Slots) (IntKind.wrap .i64 (x2.1 + (1 : Int))) s3.w (fun b => memb [0] (s3.g b) = true) v10_0 A10_0 r13 m13) ?_
   rintro r13 _ w13 m13 ⟨rfl, ky13⟩
   obtain ⟨s14, rfl, p14, n14⟩ := nwx s3 w13 40 ky13
   refine pu rfl rfl rfl rfl rfl ?_
   refine dn ?_
   refine sr ?_
   refine pu rfl rfl rfl rfl rfl ?_
   refine pu rfl rfl rfl rfl rfl ?_
   refine dn ?_
   refine cd rfl (fun h15 => ?_) (fun h15 => ?_)
   ·
    refine sr ?_
    refine pu rfl rfl rfl rfl rfl ?_
    refine dn ?_
    refine sgi ?_
    have K16 := (Kx2.st p14 rfl)
    exact re rfl Tryz.func107 rfl (r_t rfl r_nil) rfl ⟨_, rfl, rfl, z.ky K16⟩
   ·
    refine sk ?_
    refine ib ?_
    refine rg ?_
    refine pu rfl rfl rfl rfl rfl ?_
    refine pu rfl rfl rfl rfl rfl ?_
    refine pu rfl rfl rfl rfl rfl ?_
    refine dn ?_
    have K17 := (Kx2.st p14 rfl)
    exact lb ih2 ⟨s14, _, rfl, (ue (ue (ue rfl rfl) rfl) rfl), K17⟩
 ·
  refine xt rfl ?_
  refine sgb ?_
  refine sr ?_
  refine pu rfl rfl rfl rfl rfl ?_
  refine pu rfl rfl rfl rfl rfl ?_
  refine dn ?_
  exact re rfl Tryz.func107 rfl (r_t rfl r_nil) rfl ⟨_, rfl, rfl, z.ky Kx2⟩
noncomputable def laws_heldHeap.f (a0 : Heap) (a1 : Int) : Option (Int) :=
 ((laws_heldPageS.f a0.Pages a1).bind fun r6 => (if (decide (r6 < (0 : Int))) = true then (some (-1 : Int)) else (some r6)))
def laws_heldHeap.Q (w : World) (F : Nat → Prop) (r : Int) (v : Value) (w' : World) : Prop :=
 v = (.int .i64 r) ∧ Ky [] w w'
set_option maxHeartbeats 4000000 in
set_option maxRecDepth 100000 in
theorem laws_heldHeap.calls (a0 : Heap) (a1 : Int) (w : World) (F : Nat → Prop) (w0_0 : Value) (h0_0 : (Kd.sl 142 kd142).rd w [w0_0] a0.Pages F) (r : Int) (m : laws_heldHeap.f a0 a1 = some r) :
  Calls Tryz.prog 27 #[(.agg #[w0_0]), (.int .i64 a1)] w fun en w' => ∃ v, en = .returned v ∧ laws_heldHeap.Q w F r v w' := by
 obtain ⟨s0, rfl, kp0, z⟩ := start0 w F
 have A0_0 := z.rd h0_0
 refine calls_of_TM (args := [(.agg #[w0_0]), (.int .i64 a1)]) (R := fun r en w' => ∃ v, en = .returned v ∧ laws_heldHeap.Q s0.w F r v w') Tryz.func27 Tryz.ntmps27 rfl rfl m ?_
 unfold laws_heldHeap.f
 refine sr ?_
 refine bx (cs := [w0_0]) 40 rfl rfl rfl rfl rfl rfl (fun b2 s2 p2 B2 => ?_)
 refine pu rfl rfl rfl rfl rfl ?_
 refine dn ?_
 refine sr ?_
 refine fa fa46_0 rfl rfl rfl rfl rfl rfl ?_
 refine ld B2 Tryz.underlying44 rfl rfl rfl rfl rfl rfl rfl rfl ?_
 refine pu rfl rfl rfl rfl rfl ?_
 have K4 := (kp0.st p2 rfl)
 have A5 := (A0_0.kp K4)
 refine cl rfl rfl rfl rfl rfl Tryz.func107 rfl rfl rfl (fun r6 m6 => laws_heldPageS.calls a0.Pages a1 s2.w (fun b => memb [0] (s2.g b) = true) w0_0 A5 r6 m6) ?_
 rintro r6 _ w6 m6 ⟨rfl, ky6⟩
 obtain ⟨s7, rfl, p7, n7⟩ := nwx s2 w6 41 ky6
 refine pu rfl rfl rfl rfl rfl ?_
 refine dn ?_
 refine sq ?_
 refine sr ?_
 refine pu rfl rfl rfl rfl rfl ?_
 refine pu rfl rfl rfl rfl rfl ?_
 refine dn ?_
 refine cd rfl (fun h8 => ?_) (fun h8 => ?_)
 ·
  refine sr ?_
  refine pu rfl rfl rfl rfl rfl ?_
  refine dn ?_
  have K9 := (K4.st p7 rfl)
  exact re rfl Tryz.func27 rfl (r_t rfl r_nil) rfl ⟨_, rfl, rfl, z.ky K9⟩
 ·
  refine sk ?_
  refine sr ?_
  refine pu rfl rfl rfl rfl rfl ?_
  refine pu rfl rfl rfl rfl rfl ?_
  refine dn ?_
  have K10 := (K4.st p7 rfl)
  exact re rfl Tryz.func27 rfl (r_t rfl r_nil) rfl ⟨_, rfl, rfl, z.ky K10⟩
noncomputable def laws_szTuple.f (a0 : Tuple) (a1 : Int) : Option (Int) :=
 ((laws_szItem.f a0.Key a1).bind fun r7 => (if (decide (r7 < (0 : Int))) = true then (some (-1 : Int)) else ((laws_szItem.f a0.Value r7).bind fun r14 => (if (decide (r14 < (0 : Int))) = true then (some (-1 : Int)) else (some r14)))))
def laws_szTuple.Q (w : World) (F : Nat → Prop) (r : Int) (v : Value) (w' : World) : Prop :=
 v = (.int .i64 r) ∧ Ky [] w w'
set_option maxHeartbeats 4000000 in
set_option maxRecDepth 100000 in
theorem laws_szTuple.calls (a0 : Tuple) (a1 : Int) (w : World) (F : Nat → Prop) (w0_0 : Value) (w0_1 : Value) (w0_2 : Value) (w0_3 : Value) (h0_0 : Kd.flt.rd w [w0_0] a0.Key.F F) (h0_1 : (Kd.sl 5 (Kd.int .u8)).rd w [w0_1] a0.Key.T F) (h0_2 : Kd.flt.rd w [w0_2] a0.Value.F F) (h0_3 : (Kd.sl 5 (Kd.int .u8)).rd w [w0_3] a0.Value.T F) (r : Int) (m : laws_szTuple.f a0 a1 = some r) :
  Calls Tryz.prog 28 #[(.agg #[(.int .i64 a0.Xmin), (.int .i64 a0.Xmax), (.int .i64 a0.Key.Kind), (.int .i64 a0.Key.N), w0_0, w0_1, (.int .i64 a0.Value.Kind), (.int .i64 a0.Value.N), w0_2, w0_3]), (.int .i64 a1)] w fun en w' => ∃ v, en = .returned v ∧ laws_szTuple.Q w F r v w' := by
 obtain ⟨s0, rfl, kp0, z⟩ := start0 w F
 have A0_0 := fl_of h0_0
 have A0_1 := z.rd h0_1
 have A0_2 := fl_of h0_2
 have A0_3 := z.rd h0_3
 refine calls_of_TM (args := [(.agg #[(.int .i64 a0.Xmin), (.int .i64 a0.Xmax), (.int .i64 a0.Key.Kind), (.int .i64 a0.Key.N), w0_0, w0_1, (.int .i64 a0.Value.Kind), (.int .i64 a0.Value.N), w0_2, w0_3]), (.int .i64 a1)]) (R := fun r en w' => ∃ v, en = .returned v ∧ laws_szTuple.Q s0.w F r v w') Tryz.func28 Tryz.ntmps28 rfl rfl m ?_
 unfold laws_szTuple.f
 refine sr ?_
 refine bx (cs := [(.int .i64 a0.Xmin), (.int .i64 a0.Xmax), (.int .i64 a0.Key.Kind), (.int .i64 a0.Key.N), w0_0, w0_1, (.int .i64 a0.Value.Kind), (.int .i64 a0.Value.N), w0_2, w0_3]) 40 rfl rfl rfl rfl rfl rfl (fun b3 s3 p3 B3 => ?_)
 refine pu rfl rfl rfl rfl rfl ?_
 refine dn ?_
 refine sr ?_
 refine fa fa54_2 rfl rfl rfl rfl rfl rfl ?_
 refine lda (es := [(.int .i64 a0.Key.Kind), (.int .i64 a0.Key.N), w0_0, w0_1]) B3 Tryz.underlying26 z26 rfl rfl rfl rfl rfl rfl rfl rfl ?_
 refine pu rfl rfl rfl rfl rfl ?_
 have K5 := (kp0.st p3 rfl)
 have A6 := (A0_1.kp K5)
 refine cl rfl rfl rfl rfl rfl Tryz.func11 rfl rfl rfl (fun r7 m7 => laws_szItem.calls a0.Key a1 s3.w (fun b => memb [0] (s3.g b) = true) w0_0 w0_1 ((fl_rdf (s := s3) A0_0).sub (D := [0]) rfl) A6 r7 m7) ?_
 rintro r7 _ w7 m7 ⟨rfl, ky7⟩
 obtain ⟨s8, rfl, p8, n8⟩ := nwx s3 w7 41 ky7
 refine pu rfl rfl rfl rfl rfl ?_
 refine dn ?_
 refine sq ?_
 refine sr ?_
 refine pu rfl rfl rfl rfl rfl ?_
 refine pu rfl rfl rfl rfl rfl ?_
 refine dn ?_
 refine cd rfl (fun h9 => ?_) (fun h9 => ?_)
 ·
  refine sr ?_
  refine pu rfl rfl rfl rfl rfl ?_
  refine dn ?_
  have K10 := (K5.st p8 rfl)
  exact re rfl Tryz.func28 rfl (r_t rfl r_nil) rfl ⟨_, rfl, rfl, z.ky K10⟩
 ·
  refine sk ?_
  refine sr ?_
  refine fa fa54_3 rfl rfl rfl rfl rfl rfl ?_
  have A11 := (BlF.st B3 p8 rfl)
  refine lda (es := [(.int .i64 a0.Value.Kind), (.int .i64 a0.Value.N), w0_2, w0_3]) A11 Tryz.underlying26 z26 rfl rfl rfl rfl rfl rfl rfl rfl ?_
  refine pu rfl rfl rfl rfl rfl ?_
  have K12 := (K5.st p8 rfl)
  have A13 := (A0_3.kp K12)
  refine cl rfl rfl rfl rfl rfl Tryz.func11 rfl rfl rfl (fun r14 m14 => laws_szItem.calls a0.Value r7 s8.w (fun b => memb [0] (s8.g b) = true) w0_2 w0_3 ((fl_rdf (s := s8) A0_2).sub (D := [0]) rfl) A13 r14 m14) ?_
  rintro r14 _ w14 m14 ⟨rfl, ky14⟩
  obtain ⟨s15, rfl, p15, n15⟩ := nwx s8 w14 42 ky14
  refine pu rfl rfl rfl rfl rfl ?_
  refine dn ?_
  refine sq ?_
  refine sr ?_
  refine pu rfl rfl rfl rfl rfl ?_
  refine pu rfl rfl rfl rfl rfl ?_
  refine dn ?_
  refine cd rfl (fun h16 => ?_) (fun h16 => ?_)
  ·
   refine sr ?_
   refine pu rfl rfl rfl rfl rfl ?_
   refine dn ?_
   have K17 := (K12.st p15 rfl)
   exact re rfl Tryz.func28 rfl (r_t rfl r_nil) rfl ⟨_, rfl, rfl, z.ky K17⟩
  ·
   refine sk ?_
   refine sr ?_
   refine pu rfl rfl rfl rfl rfl ?_
   refine pu rfl rfl rfl rfl rfl ?_
   refine dn ?_
   have K18 := (K12.st p15 rfl)
   exact re rfl Tryz.func28 rfl (r_t rfl r_nil) rfl ⟨_, rfl, rfl, z.ky K18⟩
noncomputable def laws_toTuple.f (a0 : Tuple) : Option (Tuple) :=
 ((laws_toItem.f a0.Key).bind fun r18 => ((laws_toItem.f a0.Value).bind fun r27 => (some (Tuple.mk a0.Xmin a0.Xmax r18 r27))))
def laws_toTuple.Q (w : World) (F : Nat → Prop) (r : Tuple) (v : Value) (w' : World) : Prop :=
 ∃ (v0 : Value) (v1 : Value) (v2 : Value) (v3 : Value), v = (.agg #[(.int .i64 r.Xmin), (.int .i64 r.Xmax), (.int .i64 r.Key.Kind), (.int .i64 r.Key.N), v0, v1, (.int .i64 r.Value.Kind), (.int .i64 r.Value.N), v2, v3]) ∧ FO kd58 w w' [(.int .i64 r.Xmin), (.int .i64 r.Xmax), (.int .i64 r.Key.Kind), (.int .i64 r.Key.N), v0, v1, (.int .i64 r.Value.Kind), (.int .i64 r.Value.N), v2, v3] r ∧ Ky [] w w'
set_option maxHeartbeats 4000000 in
set_option maxRecDepth 100000 in
theorem laws_toTuple.calls (a0 : Tuple) (w : World) (F : Nat → Prop) (w0_0 : Value) (w0_1 : Value) (w0_2 : Value) (w0_3 : Value) (h0_0 : Kd.flt.rd w [w0_0] a0.Key.F F) (h0_1 : (Kd.sl 5 (Kd.int .u8)).rd w [w0_1] a0.Key.T F) (h0_2 : Kd.flt.rd w [w0_2] a0.Value.F F) (h0_3 : (Kd.sl 5 (Kd.int .u8)).rd w [w0_3] a0.Value.T F) (r : Tuple) (m : laws_toTuple.f a0 = some r) :
  Calls Tryz.prog 30 #[(.agg #[(.int .i64 a0.Xmin), (.int .i64 a0.Xmax), (.int .i64 a0.Key.Kind), (.int .i64 a0.Key.N), w0_0, w0_1, (.int .i64 a0.Value.Kind), (.int .i64 a0.Value.N), w0_2, w0_3])] w fun en w' => ∃ v, en = .returned v ∧ laws_toTuple.Q w F r v w' := by
 obtain ⟨s0, rfl, kp0, z⟩ := start0 w F
 have A0_0 := fl_of h0_0
 have A0_1 := z.rd h0_1
 have A0_2 := fl_of h0_2
 have A0_3 := z.rd h0_3
 refine calls_of_TM (args := [(.agg #[(.int .i64 a0.Xmin), (.int .i64 a0.Xmax), (.int .i64 a0.Key.Kind), (.int .i64 a0.Key.N), w0_0, w0_1, (.int .i64 a0.Value.Kind), (.int .i64 a0.Value.N), w0_2, w0_3])]) (R := fun r en w' => ∃ v, en = .returned v ∧ laws_toTuple.Q s0.w F r v w') Tryz.func30 Tryz.ntmps30 rfl rfl m ?_
 unfold laws_toTuple.f
 refine sr ?_
 refine bx (cs := [(.int .i64 a0.Xmin), (.int .i64 a0.Xmax), (.int .i64 a0.Key.Kind), (.int .i64 a0.Key.N), w0_0, w0_1, (.int .i64 a0.Value.Kind), (.int .i64 a0.Value.N), w0_2, w0_3]) 40 rfl rfl rfl rfl rfl rfl (fun b3 s3 p3 B3 => ?_)
 refine al (cs := [(.int .i64 (0 : Int)), (.int .i64 (0 : Int)), (.int .i64 (0 : Int)), (.int .i64 (0 : Int)), (.float .f64 0), (.slice none 0 0), (.int .i64 (0 : Int)), (.int .i64 (0 : Int)), (.float .f64 0), (.slice none 0 0)]) 41 rfl rfl rfl rfl rfl o58 rfl (fun b5 s5 p5 B5 => ?_)
 refine dn ?_
 refine sr ?_
 refine al (cs := [(.int .i64 (0 : Int)), (.int .i64 (0 : Int)), (.int .i64 (0 : Int)), (.int .i64 (0 : Int)), (.float .f64 0), (.slice none 0 0), (.int .i64 (0 : Int)), (.int .i64 (0 : Int)), (.float .f64 0), (.slice none 0 0)]) 42 rfl rfl rfl rfl rfl o58 rfl (fun b7 s7 p7 B7 => ?_)
 refine dn ?_
 refine sr ?_
 refine fa fa54_0 rfl rfl rfl rfl rfl rfl ?_
 have A9 := (BlF.st (BlF.st B3 p5 rfl) p7 rfl)
 refine ld A9 Tryz.underlying3 rfl rfl rfl rfl rfl rfl rfl rfl ?_
 refine fa fa58_0 rfl rfl rfl rfl rfl rfl ?_
 refine sv B7 z3 rfl rfl rfl rfl rfl rfl rfl rfl (fun s10 p10 B10 => ?_)
 refine dn ?_
 refine sr ?_
 refine fa fa54_1 rfl rfl rfl rfl rfl rfl ?_
 have A12 := (BlF.st A9 p10 rfl)
 refine ld A12 Tryz.underlying3 rfl rfl rfl rfl rfl rfl rfl rfl ?_
 refine fa fa58_1 rfl rfl rfl rfl rfl rfl ?_
 refine sv B10 z3 rfl rfl rfl rfl rfl rfl rfl rfl (fun s13 p13 B13 => ?_)
 refine dn ?_
 refine sr ?_
 refine fa fa54_2 rfl rfl rfl rfl rfl rfl ?_
 have A15 := (BlF.st A12 p13 rfl)
 refine lda (es := [(.int .i64 a0.Key.Kind), (.int .i64 a0.Key.N), w0_0, w0_1]) A15 Tryz.underlying26 z26 rfl rfl rfl rfl rfl rfl rfl rfl ?_
 have K16 := (((((kp0.st p3 rfl).st p5 rfl).st p7 rfl).st p10 rfl).st p13 rfl)
 have A17 := (A0_1.kp K16)
 refine cl rfl rfl rfl rfl rfl Tryz.func14 rfl rfl rfl (fun r18 m18 => laws_toItem.calls a0.Key s13.w (fun b => memb [0] (s13.g b) = true) w0_0 w0_1 ((fl_rdf (s := s13) A0_0).sub (D := [0]) rfl) A17 r18 m18) ?_
 rintro r18 _ w18 m18 ⟨v18_0, v18_1, rfl, f18_0, ky18⟩
 obtain ⟨s19, rfl, p19, n19⟩ := nwx s13 w18 43 ky18
 have A18_0 := f18_0.c n19
 obtain ⟨os18_0, ho18_0, hn18_0, hc18_0⟩ := A18_0
 obtain ⟨u18_0_0, u18_0_1, qu18_0_1, e18_0, eo18_0, hu18_0_0, hu18_0_1⟩ := po33 ho18_0
 have yu18_0_0 : v18_0 = u18_0_0 := congrArg (fun l => (List.drop 2 l).headD undef) e18_0
 have yu18_0_1 : v18_1 = u18_0_1 := congrArg (fun l => (List.drop 3 l).headD undef) e18_0
 subst yu18_0_0
 subst yu18_0_1
 subst eo18_0
 have Au18_0_1 : OwF (Kd.sl 5 (Kd.int .u8)) s19 [v18_1] r18.T 43 := sp1 hu18_0_1 hn18_0 hc18_0
 refine fa fa58_2 rfl rfl rfl rfl rfl rfl ?_
 have A21 := (BlF.st B13 p19 rfl)
 refine sva (vs := [(.int .i64 r18.Kind), (.int .i64 r18.N), v18_0, v18_1]) A21 z33 rfl rfl rfl rfl rfl rfl (on_cons rfl (on_cons rfl (on_cons (FL.one hu18_0_0) (on_cons Au18_0_1.rd.one on_nil)))) rfl (fun s22 p22 B22 => ?_)
 refine dn ?_
 refine sr ?_
 refine fa fa54_3 rfl rfl rfl rfl rfl rfl ?_
 have A24 := (BlF.st (BlF.st A15 p19 rfl) p22 rfl)
 refine lda (es := [(.int .i64 a0.Value.Kind), (.int .i64 a0.Value.N), w0_2, w0_3]) A24 Tryz.underlying26 z26 rfl rfl rfl rfl rfl rfl rfl rfl ?_
 have K25 := ((K16.st p19 rfl).st p22 rfl)
 have A26 := (A0_3.kp K25)
 refine cl rfl rfl rfl rfl rfl Tryz.func14 rfl rfl rfl (fun r27 m27 => laws_toItem.calls a0.Value s22.w (fun b => memb [0] (s22.g b) = true) w0_2 w0_3 ((fl_rdf (s := s22) A0_2).sub (D := [0]) rfl) A26 r27 m27) ?_
 rintro r27 _ w27 m27 ⟨v27_0, v27_1, rfl, f27_0, ky27⟩
 obtain ⟨s28, rfl, p28, n28⟩ := nwx s22 w27 44 ky27
 have A27_0 := f27_0.c n28
 obtain ⟨os27_0, ho27_0, hn27_0, hc27_0⟩ := A27_0
 obtain ⟨u27_0_0, u27_0_1, qu27_0_1, e27_0, eo27_0, hu27_0_0, hu27_0_1⟩ := po33 ho27_0
 have yu27_0_0 : v27_0 = u27_0_0 := congrArg (fun l => (List.drop 2 l).headD undef) e27_0
 have yu27_0_1 : v27_1 = u27_0_1 := congrArg (fun l => (List.drop 3 l).headD undef) e27_0
 subst yu27_0_0
 subst yu27_0_1
 subst eo27_0
 have Au27_0_1 : OwF (Kd.sl 5 (Kd.int .u8)) s28 [v27_1] r27.T 44 := sp1 hu27_0_1 hn27_0 hc27_0
 refine fa fa58_3 rfl rfl rfl rfl rfl rfl ?_
 have A30 := (BlF.st B22 p28 rfl)
 refine sva (vs := [(.int .i64 r27.Kind), (.int .i64 r27.N), v27_0, v27_1]) A30 z33 rfl rfl rfl rfl rfl rfl (on_cons rfl (on_cons rfl (on_cons (FL.one hu27_0_0) (on_cons Au27_0_1.rd.one on_nil)))) rfl (fun s31 p31 B31 => ?_)
 refine dn ?_
 refine sr ?_
 refine lda (es := [(.int .i64 a0.Xmin), (.int .i64 a0.Xmax), (.int .i64 r18.Kind), (.int .i64 r18.N), v18_0, v18_1, (.int .i64 r27.Kind), (.int .i64 r27.N), v27_0, v27_1]) B31 Tryz.underlying58 z58 rfl rfl rfl rfl rfl rfl rfl rfl ?_
 have A33 := (BlF.st (BlF.st (BlF.st (BlF.st (BlF.st (BlF.st (BlF.st B5 p7 rfl) p10 rfl) p13 rfl) p19 rfl) p22 rfl) p28 rfl) p31 rfl)
 have A34 := (Au27_0_1.st p31 rfl)
 have A35 := (((Au18_0_1.st p22 rfl).st p28 rfl).st p31 rfl)
 refine sva (vs := [(.int .i64 a0.Xmin), (.int .i64 a0.Xmax), (.int .i64 r18.Kind), (.int .i64 r18.N), v18_0, v18_1, (.int .i64 r27.Kind), (.int .i64 r27.N), v27_0, v27_1]) A33 z58 rfl rfl rfl rfl rfl rfl (on_cons rfl (on_cons rfl (on_cons rfl (on_cons rfl (on_cons (FL.one hu18_0_0) (on_cons A35.rd.one (on_cons rfl (on_cons rfl (on_cons (FL.one hu27_0_0) (on_cons A34.rd.one on_nil)))))))))) rfl (fun s36 p36 B36 => ?_)
 refine dn ?_
 have A38 := (A35.st p36 rfl)
 have A39 := (A34.st p36 rfl)
 obtain ⟨s40, hw40, p40, A40⟩ := ow_2 (ow_isoz (fun x : Item => (x.Kind, x.N, x.F, x.T)) r18 (ow_l (fz_int .i64 r18.Kind) (ow_l (fz_int .i64 r18.N) (ow_l (fz_flt hu18_0_0) A38)))) (ow_isoz (fun x : Item => (x.Kind, x.N, x.F, x.T)) r27 (ow_l (fz_int .i64 r27.Kind) (ow_l (fz_int .i64 r27.N) (ow_l (fz_flt hu27_0_0) A39)))) rfl rfl
 rw [hw40]
 have A42 : OwF kd58 s40 [(.int .i64 a0.Xmin), (.int .i64 a0.Xmax), (.int .i64 r18.Kind), (.int .i64 r18.N), v18_0, v18_1, (.int .i64 r27.Kind), (.int .i64 r27.N), v27_0, v27_1] (Tuple.mk a0.Xmin a0.Xmax r18 r27) 43 := (ow_isoz (fun x : Tuple => (x.Xmin, x.Xmax, x.Key, x.Value)) (Tuple.mk a0.Xmin a0.Xmax r18 r27) (ow_l (fz_int .i64 a0.Xmin) (ow_l (fz_int .i64 a0.Xmax) A40)))
 have A44 := (BlF.st B36 p40 rfl)
 have K45 := ((((K25.st p28 rfl).st p31 rfl).st p36 rfl).st p40 rfl)
 exact re rfl Tryz.func30 rfl (r_b A44 Tryz.underlying58 rfl z58 rfl r_nil) rfl ⟨_, rfl, v18_0, v18_1, v27_0, v27_1, rfl, A42.fo K45 rfl z.l, z.ky K45⟩
end Go.Proofs.YtcagjdngannneaaGreat
