/- The functions as models, and that the calls come to what the models tell. -/
import Derived.Test.YtcagjdngannneaaGreatXsb
set_option linter.unusedVariables false
set_option linter.unusedSimpArgs false
namespace Go.Proofs.YtcagjdngannneaaGreat
open Go V
noncomputable def impl_meet.b0 (a0 : (List Track)) (a1 : Int) (a2 : (Track → Option Bool)) (a3 : ((List Track) → Int → Int → Option (List Track))) (x2 : (List Track) × Bool × Int) : Option (((List Track) × Bool × Int) ⊕ (Int × (List Track))) :=
 (if (decide (x2.2.2 < (a0.length : Int))) = true then (((if (x2.2.2 == a1) = true then (some true) else (if 0 ≤ x2.2.2 ∧ x2.2.2 < (x2.1.length : Int) then (if 0 ≤ a1 ∧ a1 < (x2.1.length : Int) then ((impl_Concurrent.f (at_ x2.1 x2.2.2) (at_ x2.1 a1)).bind fun r50 => ((if (!r50) = true then (some (true, true)) else (if 0 ≤ x2.2.2 ∧ x2.2.2 < (x2.1.length : Int) then ((a2 (at_ x2.1 x2.2.2)).bind fun r79 => (some (false, (!r79)))) else none)).bind fun y56 => (some y56.2))) else none) else none)).bind fun y12 => (if y12 = true then (some (x2.1, x2.2.1)) else (if 0 ≤ a1 ∧ a1 < (x2.1.length : Int) then (if 0 ≤ x2.2.2 ∧ x2.2.2 < (x2.1.length : Int) then ((a3 x2.1 a1 x2.2.2).bind fun r108 => ((if x2.2.1 = true then (some true) else (if 0 ≤ x2.2.2 ∧ x2.2.2 < (r108.length : Int) then ((if (at_ r108 x2.2.2).In = true then (if 0 ≤ x2.2.2 ∧ x2.2.2 < (r108.length : Int) then (some (true, (at_ r108 x2.2.2).Out)) else none) else (some (false, false))).bind fun y117 => ((if y117.2 = true then (if 0 ≤ x2.2.2 ∧ x2.2.2 < (r108.length : Int) then ((impl_Track_isActive.f (at_ r108 x2.2.2)).bind fun r130 => (some (true, (!r130)))) else none) else (some (false, false))).bind fun y125 => (some y125.2))) else none)).bind fun y111 => (some (r108, y111)))) else none) else none))).bind fun y6 => (some (Sum.inl (y6.1, y6.2, (IntKind.wrap .i64 (x2.2.2 + (1 : Int))))))) else (((if x2.2.1 = true then (some true) else (if 0 ≤ a1 ∧ a1 < (x2.1.length : Int) then ((if (at_ x2.1 a1).In = true then (if 0 ≤ a1 ∧ a1 < (x2.1.length : Int) then (some ((at_ x2.1 a1).Out)) else none) else (some false)).bind fun y143 => (some y143)) else none)).bind fun y138 => (if y138 = true then (some ((2 : Int), x2.1)) else (some ((0 : Int), x2.1)))).bind fun o => some (Sum.inr o)))
noncomputable def impl_meet.f (a0 : (List Track)) (a1 : Int) (a2 : (Track → Option Bool)) (a3 : ((List Track) → Int → Int → Option (List Track))) : Option (Int × (List Track)) :=
 (iter (impl_meet.b0 a0 a1 a2 a3) (a0, false, (0 : Int)))
def impl_meet.Q (w : World) (F : Nat → Prop) (os : List Nat) (w0_0 : Value) (r : Int × (List Track)) (v : Value) (w' : World) : Prop :=
 v = (.int .i64 r.1) ∧ FW (Kd.sl 117 kd117) os w w' [w0_0] r.2 ∧ Ky os w w'
set_option maxHeartbeats 4000000 in
set_option maxRecDepth 100000 in
theorem impl_meet.calls (a0 : (List Track)) (a1 : Int) (a2 : (Track → Option Bool)) (a3 : ((List Track) → Int → Int → Option (List Track))) (w : World) (F : Nat → Prop) (w0_0 : Value) (f2 : Value) (f3 : Value) (os : List Nat) (h0_0 : (Kd.sl 117 kd117).ow w [w0_0] a0 os) (hn : os.Nodup) (hF : ∀ b, F b → b ∉ os) (hf2 : ∀ (x0 : Track) (u0_0 u0_1 : Value) (w' : World), Ky os w w' → (Kd.sl 200 kd200).rd w' [u0_0] x0.Reads (fun _ => True) → (Kd.sl 33 kd33).rd w' [u0_1] x0.Writes (fun _ => True) → ∀ r, a2 x0 = some r → CallV Tryz.prog f2 [(.agg #[(.int .i64 x0.Xid), (.int .i64 x0.Begun), (.int .i64 x0.Ended), (.bool x0.All), u0_0, u0_1, (.bool x0.In), (.bool x0.Out)])] w' fun en w'' => ∃ v, en = .returned v ∧ v = (.bool r) ∧ Ky [] w' w'') (ho2 : f2.cells = #[f2]) (hf3 : ∀ (l : List Track) (x0 x1 : Int) (u : Value) (d0 d1 : Addr) (os1 : List Nat) (w' : World), Ky os w w' → (Kd.sl 117 kd117).ow w' [u] l os1 → os1.Nodup → IxA u kd117.n x0 d0 → 0 ≤ x0 → x0 < (l.length : Int) → IxA u kd117.n x1 d1 → 0 ≤ x1 → x1 < (l.length : Int) → ∀ r, a3 l x0 x1 = some r → CallV Tryz.prog f3 [.pointer (some d0), .pointer (some d1)] w' fun en w'' => ∃ v, en = .returned v ∧ v = .tuple #[] ∧ FW (Kd.sl 117 kd117) os1 w' w'' [u] r ∧ Ky os1 w' w'') (ho3 : f3.cells = #[f3]) (r : Int × (List Track)) (m : impl_meet.f a0 a1 a2 a3 = some r) :
  Calls Tryz.prog 82 #[w0_0, (.int .i64 a1), f2, f3] w fun en w' => ∃ v, en = .returned v ∧ impl_meet.Q w F os w0_0 r v w' := by
 obtain ⟨s0, rfl, kp0, z⟩ := start1 w F os hF
 have A0_0 := z.ow h0_0 hn
 refine calls_of_TM (args := [w0_0, (.int .i64 a1), f2, f3]) (R := fun r en w' => ∃ v, en = .returned v ∧ impl_meet.Q s0.w F os w0_0 r v w') Tryz.func82 Tryz.ntmps82 rfl rfl m ?_
 unfold impl_meet.f
 refine sr ?_
 refine pu rfl rfl rfl rfl rfl ?_
 refine dn ?_
 refine sr ?_
 refine pu rfl rfl rfl rfl rfl ?_
 refine dn ?_
 refine sq ?_
 refine sr ?_
 refine mv w0_0 rfl rfl rfl rfl rfl rfl ?_
 refine ln A0_0.rd Tryz.underlying29 rfl rfl rfl rfl rfl rfl ?_
 refine pu rfl rfl rfl rfl rfl ?_
 refine dn ?_
 refine bl ?_
 refine lpI (fun (x2 : (List Track) × Bool × Int) (e : Env) (w : World) => ∃ (s : St) (e0 : Env), w = s.w ∧ e = upd (upd (upd (upd (upd (upd (upd e0 0 w0_0) 1 (.int .i64 a1)) 2 f2) 3 f3) 9 (.bool x2.2.1)) 12 (.int .i64 (a0.length : Int))) 13 (.int .i64 x2.2.2) ∧ Kp s0 s ∧ OwF (Kd.sl 117 kd117) s [w0_0] x2.1 2) ⟨s0, _, rfl, (ue (ue (ue (ue (ue (ue (ue rfl rfl) rfl) rfl) rfl) rfl) rfl) rfl), kp0, A0_0⟩ (fun g2 ih2 => ?_)
 rintro x2 _ _ ⟨s3, _, rfl, rfl, Kx2, Ax2_0⟩
 unfold impl_meet.b0
 refine sr ?_
 refine pu rfl rfl rfl rfl rfl ?_
 refine dn ?_
 refine sq ?_
 refine cd rfl (fun h5 => ?_) (fun h5 => ?_)
 ·
  refine sk ?_
  refine sq ?_
  refine jc (fun (y6 : (List Track) × Bool) (e : Env) (w : World) => ∃ (s : St) (e0 : Env), w = s.w ∧ e = upd (upd (upd (upd (upd (upd (upd e0 0 w0_0) 1 (.int .i64 a1)) 2 f2) 3 f3) 9 (.bool y6.2)) 12 (.int .i64 (a0.length : Int))) 13 (.int .i64 x2.2.2) ∧ Kp s0 s ∧ OwF (Kd.sl 117 kd117) s [w0_0] y6.1 2) (fun Gj6 Kj6 => ?_) ?_
  ·
   refine bl ?_
   refine sr ?_
   refine pu rfl rfl rfl rfl rfl ?_
   refine pu rfl rfl rfl rfl rfl ?_
   refine dn ?_
   refine sq ?_
   refine sq ?_
   refine zdraw [[], [], [0, 1], [2], [3], [3], [4, 5, 3], [6, 3], [3], [3], [8, 9, 3], [10, 3], [7, 11, 3, 3], [12, 3], [3, 13], [14, 12], [15], [15], [15], [17, 18, 15], [19, 15], [16, 20, 15, 15], [21, 15], [15, 22]] [some 16, some 17, some 18, some 19, some 20, some 21, some 22, some 23, some 24, some 25, some 26, some 27, some 28, some 29, some 30, some 31, some 32, some 33, some 34, some 35, some 36, some 37, some 38, some 39] [[10], [1], [16, 17], [18], [0, 19], [10, 19], [20, 21, 19], [22, 19], [0, 19], [1, 19], [24, 25, 19], [26, 19], [23, 27, 19], [28, 19], [19, 29], [30], [2, 31], [0, 31], [10, 31], [33, 34, 31], [35, 31], [32, 36, 31], [37, 31], [31, 38]] [0, 1, 2, 3, 4, 5, 6, 7, 8, 9, 10, 11, 12, 13, 14, 15, 16, 17, 18, 19, 20, 21, 22, 23] ⟨by kernel_rfl, by kernel_rfl, by kernel_rfl⟩ (by kernel_rfl) (fun s7 p7 l7 tb7 zd7 => ?_)
   have zd8 := zd7.add 0 16 (.int .i64 x2.2.2) rfl
   have zd9 := zd8.add 1 17 (.int .i64 a1) rfl
   have zd10 := zd9.add 2 18 (.bool (x2.2.2 == a1)) rfl
   have zd11 := zd10.add 3 19 (.bool (x2.2.2 == a1)) rfl
   refine ji [] (fun (y12 : Bool) (e : Env) (w : World) => ∃ (s : St) (e0 : Env), w = s.w ∧ e = upd (upd (upd (upd (upd (upd (upd (upd (upd e0 0 w0_0) 1 (.int .i64 a1)) 2 f2) 3 f3) 9 (.bool x2.2.1)) 10 (.int .i64 x2.2.2)) 12 (.int .i64 (a0.length : Int))) 13 (.int .i64 x2.2.2)) 39 (.bool y12) ∧ Kp s0 s ∧ OwF (Kd.sl 117 kd117) s [w0_0] x2.1 2) (fun Gj12 Kj12 => ?_) ?_
   ·
    rcases Bool.eq_false_or_eq_true (x2.2.2 == a1) with hb12 | hb12
    ·
     rw [if_pos hb12]
     rw [hb12] at zd11
     try rw [hb12]
     have zd13 := zd11.add 4 20 undef rfl
     have zd14 := zd13.add 5 21 undef rfl
     have zd15 := zd14.add 6 22 undef rfl
     have zd16 := zd15.add 7 23 undef rfl
     have zd17 := zd16.add 8 24 undef rfl
     have zd18 := zd17.add 9 25 undef rfl
     have zd19 := zd18.add 10 26 undef rfl
     have zd20 := zd19.add 11 27 undef rfl
     have zd21 := zd20.add 12 28 undef rfl
     have zd22 := zd21.add 13 29 undef rfl
     have zd23 := zd22.add 14 30 (.bool true) rfl
     have zd24 := zd23.add 15 31 (.bool true) rfl
     have zd25 := zd24.add 16 32 undef rfl
     have zd26 := zd25.add 17 33 undef rfl
     have zd27 := zd26.add 18 34 undef rfl
     have zd28 := zd27.add 19 35 undef rfl
     have zd29 := zd28.add 20 36 undef rfl
     refine zfin [21, 22, 23] tb7 zd29 (pq_cons (uw_q rfl rfl rfl rfl rfl) rfl (pq_cons (uw_q rfl rfl rfl rfl rfl) rfl (pq_cons (uw_q rfl rfl rfl rfl rfl) rfl (pq_cons (uw_q rfl rfl rfl rfl rfl) rfl (pq_cons (uw_q rfl rfl rfl rfl rfl) rfl (pq_cons (pu_q rfl rfl rfl rfl rfl rfl) rfl (pq_cons (pu_q rfl rfl rfl rfl rfl rfl) rfl (pq_cons (uw_q rfl rfl rfl rfl rfl) rfl (pq_cons (uw_q rfl rfl rfl rfl rfl) rfl (pq_cons (uw_q rfl rfl rfl rfl rfl) rfl (pq_cons (uw_q rfl rfl rfl rfl rfl) rfl (pq_cons (uw_q rfl rfl rfl rfl rfl) rfl (pq_cons (uw_q rfl rfl rfl rfl rfl) rfl (pq_cons (uw_q rfl rfl rfl rfl rfl) rfl (pq_cons (uw_q rfl rfl rfl rfl rfl) rfl (pq_cons (uw_q rfl rfl rfl rfl rfl) rfl (pq_cons (uw_q rfl rfl rfl rfl rfl) rfl (pq_cons (pu_q rfl rfl rfl rfl rfl rfl) rfl (pq_cons (qv_b (pu_q rfl rfl rfl rfl rfl rfl) hb12) rfl (pq_cons (pu_q rfl rfl rfl rfl rfl rfl) rfl (pq_cons (pu_q rfl rfl rfl rfl rfl rfl) rfl pq_nil))))))))))))))))))))) (by kernel_rfl) (by decide) ?_
     refine uw rfl rfl rfl rfl ?_
     refine uw rfl rfl rfl rfl ?_
     refine pu rfl rfl rfl rfl rfl ?_
     have A30 := (Ax2_0.st p7 rfl)
     have K31 := (Kx2.st p7 rfl)
     exact Kj12 _ _ _ ⟨s7, _, rfl, (ue (ue (ue (ue (ue (ue (ue (ue (ue rfl rfl) rfl) rfl) rfl) rfl) rfl) rfl) rfl) rfl), K31, A30⟩
    ·
     rw [if_neg (by rw [hb12]; decide)]
     rw [hb12] at zd11
     try rw [hb12]
     have zd32 := zd11.add 4 20 w0_0 rfl
     have zd33 := zd32.add 5 21 (.int .i64 x2.2.2) rfl
     have A34 := (Ax2_0.st p7 rfl)
     refine mg fun hg35 => ?_
     obtain ⟨ad35, es35, he35, ce35, ia35⟩ := ix_e A34.rd rfl hg35.1 hg35.2
     have h0_35 := hg35.1
     have h1_35 := hg35.2
     obtain ⟨v35_0, v35_1, rfl, A35_0, A35_1⟩ := op117 he35
     have zd39 := zd33.add 6 22 (.pointer (some ad35)) rfl
     have zd40 := zd39.add 7 23 (.agg #[(.int .i64 ((at_ x2.1 x2.2.2).Xid)), (.int .i64 ((at_ x2.1 x2.2.2).Begun)), (.int .i64 ((at_ x2.1 x2.2.2).Ended)), (.bool ((at_ x2.1 x2.2.2).All)), v35_0, v35_1, (.bool ((at_ x2.1 x2.2.2).In)), (.bool ((at_ x2.1 x2.2.2).Out))]) rfl
     have zd41 := zd40.add 8 24 w0_0 rfl
     have zd42 := zd41.add 9 25 (.int .i64 a1) rfl
     refine mg fun hg43 => ?_
     obtain ⟨ad43, es43, he43, ce43, ia43⟩ := ix_e A34.rd rfl hg43.1 hg43.2
     have h0_43 := hg43.1
     have h1_43 := hg43.2
     obtain ⟨v43_0, v43_1, rfl, A43_0, A43_1⟩ := op117 he43
     have zd47 := zd42.add 10 26 (.pointer (some ad43)) rfl
     have zd48 := zd47.add 11 27 (.agg #[(.int .i64 ((at_ x2.1 a1).Xid)), (.int .i64 ((at_ x2.1 a1).Begun)), (.int .i64 ((at_ x2.1 a1).Ended)), (.bool ((at_ x2.1 a1).All)), v43_0, v43_1, (.bool ((at_ x2.1 a1).In)), (.bool ((at_ x2.1 a1).Out))]) rfl
     refine zstep 12 [] tb7 zd48 (pq_cons (lca_q ce43 Tryz.underlying117 z117 rfl rfl rfl rfl rfl rfl rfl) rfl (pq_cons (ix_q A34.rd Tryz.underlying29 z117 hg43.1 hg43.2 ia43 rfl rfl rfl rfl rfl rfl rfl) rfl (pq_cons (pu_q rfl rfl rfl rfl rfl rfl) rfl (pq_cons (mv_q w0_0 rfl rfl rfl rfl rfl rfl) rfl (pq_cons (lca_q ce35 Tryz.underlying117 z117 rfl rfl rfl rfl rfl rfl rfl) rfl (pq_cons (ix_q A34.rd Tryz.underlying29 z117 hg35.1 hg35.2 ia35 rfl rfl rfl rfl rfl rfl rfl) rfl (pq_cons (pu_q rfl rfl rfl rfl rfl rfl) rfl (pq_cons (mv_q w0_0 rfl rfl rfl rfl rfl rfl) rfl (pq_cons (pu_q rfl rfl rfl rfl rfl rfl) rfl (pq_cons (qv_b (pu_q rfl rfl rfl rfl rfl rfl) hb12) rfl (pq_cons (pu_q rfl rfl rfl rfl rfl rfl) rfl (pq_cons (pu_q rfl rfl rfl rfl rfl rfl) rfl pq_nil)))))))))))) (by kernel_rfl) rfl (fun l49 e49 zd49 => ?_)
     refine cl rfl rfl rfl rfl rfl Tryz.func175 rfl rfl rfl (fun r50 m50 => impl_Concurrent.calls (at_ x2.1 x2.2.2) (at_ x2.1 a1) s7.w (fun b => memb [2] (s7.g b) = true) v35_0 v35_1 v43_0 v43_1 A35_0 A35_1 A43_0 A43_1 r50 m50) ?_
     rintro r50 _ w50 m50 ⟨rfl, ky50⟩
     obtain ⟨s51, rfl, p51, n51⟩ := nwx s7 w50 40 ky50
     refine zdone (L' := []) (D' := [0, 1, 2, 4, 5, 6, 8, 9, 10, 7, 11, 3, 3, 12]) zd49 rfl rfl rfl (fun zd52 => ?_)
     have zd53 := zd52.add 13 29 (.bool (!r50)) rfl
     have zd54 := zd53.add 14 30 (.bool (!r50)) rfl
     have zd55 := zd54.add 15 31 (.bool (!r50)) rfl
     refine ji [] (fun (y56 : Bool × Bool) (e : Env) (w : World) => ∃ (s : St) (e0 : Env), w = s.w ∧ e = upd (upd (upd (upd (upd (upd (upd (upd (upd (upd (upd (upd (upd (upd (upd (upd (upd (upd (upd e0 0 w0_0) 1 (.int .i64 a1)) 2 f2) 3 f3) 9 (.bool x2.2.1)) 10 (.int .i64 x2.2.2)) 12 (.int .i64 (a0.length : Int))) 13 (.int .i64 x2.2.2)) 20 w0_0) 21 (.int .i64 x2.2.2)) 22 (.pointer (some ad35))) 23 (.agg #[(.int .i64 ((at_ x2.1 x2.2.2).Xid)), (.int .i64 ((at_ x2.1 x2.2.2).Begun)), (.int .i64 ((at_ x2.1 x2.2.2).Ended)), (.bool ((at_ x2.1 x2.2.2).All)), v35_0, v35_1, (.bool ((at_ x2.1 x2.2.2).In)), (.bool ((at_ x2.1 x2.2.2).Out))])) 24 w0_0) 25 (.int .i64 a1)) 26 (.pointer (some ad43))) 27 (.agg #[(.int .i64 ((at_ x2.1 a1).Xid)), (.int .i64 ((at_ x2.1 a1).Begun)), (.int .i64 ((at_ x2.1 a1).Ended)), (.bool ((at_ x2.1 a1).All)), v43_0, v43_1, (.bool ((at_ x2.1 a1).In)), (.bool ((at_ x2.1 a1).Out))])) 28 (.bool r50)) 29 (.bool y56.1)) 39 (.bool y56.2) ∧ Kp s0 s ∧ OwF (Kd.sl 117 kd117) s [w0_0] x2.1 2 ∧ RdF (Kd.sl 200 kd200) s [v35_0] ((at_ x2.1 x2.2.2).Reads) [2] ∧ RdF (Kd.sl 33 kd33) s [v35_1] ((at_ x2.1 x2.2.2).Writes) [2] ∧ RdF (Kd.sl 200 kd200) s [v43_0] ((at_ x2.1 a1).Reads) [2] ∧ RdF (Kd.sl 33 kd33) s [v43_1] ((at_ x2.1 a1).Writes) [2]) (fun Gj56 Kj56 => ?_) ?_
     ·
      rcases Bool.eq_false_or_eq_true (!r50) with hb56 | hb56
      ·
       rw [if_pos hb56]
       rw [hb56] at zd55
       try rw [hb56]
       have zd57 := zd55.add 16 32 undef rfl
       have zd58 := zd57.add 17 33 undef rfl
       have zd59 := zd58.add 18 34 undef rfl
       have zd60 := zd59.add 19 35 undef rfl
       have zd61 := zd60.add 20 36 undef rfl
       refine zfin [21, 22, 23] tb7 zd61 (pq_cons (uw_q rfl rfl rfl rfl rfl) rfl (pq_cons (uw_q rfl rfl rfl rfl rfl) rfl (pq_cons (uw_q rfl rfl rfl rfl rfl) rfl (pq_cons (uw_q rfl rfl rfl rfl rfl) rfl (pq_cons (uw_q rfl rfl rfl rfl rfl) rfl (pq_cons (pu_q rfl rfl rfl rfl rfl rfl) rfl (pq_cons (pu_q rfl rfl rfl rfl rfl rfl) rfl (pq_cons (qv_b (pu_q rfl rfl rfl rfl rfl rfl) hb56) rfl pq_nil)))))))) (by kernel_rfl) (by decide) ?_
       refine uw rfl rfl rfl rfl ?_
       refine uw rfl rfl rfl rfl ?_
       refine pu rfl rfl rfl rfl rfl ?_
       have A62 := (A34.st p51 rfl)
       have A63 := (A35_0.st p51 rfl)
       have A64 := (A35_1.st p51 rfl)
       have A65 := (A43_0.st p51 rfl)
       have A66 := (A43_1.st p51 rfl)
       have K67 := ((Kx2.st p7 rfl).st p51 rfl)
       exact Kj56 _ _ _ ⟨s51, _, rfl, (ue (ue (ue (ue (ue (ue (ue (ue (ue (ue (ue (ue (ue (ue (ue (ue (ue (ue (ue rfl rfl) rfl) rfl) rfl) rfl) rfl) rfl) rfl) rfl) rfl) rfl) rfl) rfl) rfl) rfl) rfl) rfl) rfl) rfl), K67, A62, A63, A64, A65, A66⟩
      ·
       rw [if_neg (by rw [hb56]; decide)]
       rw [hb56] at zd55
       try rw [hb56]
       have zd68 := zd55.add 16 32 f2 rfl
       have zd69 := zd68.add 17 33 w0_0 rfl
       have zd70 := zd69.add 18 34 (.int .i64 x2.2.2) rfl
       have A71 := (A34.st p51 rfl)
       refine mg fun hg72 => ?_
       obtain ⟨ad72, es72, he72, ce72, ia72⟩ := ix_e A71.rd rfl hg72.1 hg72.2
       have h0_72 := hg72.1
       have h1_72 := hg72.2
       obtain ⟨v72_0, v72_1, rfl, A72_0, A72_1⟩ := op117 he72
       have zd76 := zd70.add 19 35 (.pointer (some ad72)) rfl
       have zd77 := zd76.add 20 36 (.agg #[(.int .i64 ((at_ x2.1 x2.2.2).Xid)), (.int .i64 ((at_ x2.1 x2.2.2).Begun)), (.int .i64 ((at_ x2.1 x2.2.2).Ended)), (.bool ((at_ x2.1 x2.2.2).All)), v72_0, v72_1, (.bool ((at_ x2.1 x2.2.2).In)), (.bool ((at_ x2.1 x2.2.2).Out))]) rfl
       refine zfin [21, 22, 23] tb7 zd77 (pq_cons (lca_q ce72 Tryz.underlying117 z117 rfl rfl rfl rfl rfl rfl rfl) rfl (pq_cons (ix_q A71.rd Tryz.underlying29 z117 hg72.1 hg72.2 ia72 rfl rfl rfl rfl rfl rfl rfl) rfl (pq_cons (pu_q rfl rfl rfl rfl rfl rfl) rfl (pq_cons (mv_q w0_0 rfl rfl rfl rfl rfl rfl) rfl (pq_cons (mv_q f2 rfl rfl rfl rfl rfl rfl) rfl (pq_cons (pu_q rfl rfl rfl rfl rfl rfl) rfl (pq_cons (pu_q rfl rfl rfl rfl rfl rfl) rfl (pq_cons (qv_b (pu_q rfl rfl rfl rfl rfl rfl) hb56) rfl pq_nil)))))))) (by kernel_rfl) (by decide) ?_
       have K78 := ((Kx2.st p7 rfl).st p51 rfl)
       refine clv rfl rfl rfl rfl rfl rfl rfl (fun r79 m79 => hf2 (at_ x2.1 x2.2.2) v72_0 v72_1 s51.w (z.ky K78) (RdF.top A72_0) (RdF.top A72_1) r79 m79) ?_
       rintro r79 _ w79 m79 ⟨rfl, ky79⟩
       obtain ⟨s80, rfl, p80, n80⟩ := nwx s51 w79 41 ky79
       refine pu rfl rfl rfl rfl rfl ?_
       refine pu rfl rfl rfl rfl rfl ?_
       have A81 := (A71.st p80 rfl)
       have A82 := ((A35_0.st p51 rfl).st p80 rfl)
       have A83 := ((A35_1.st p51 rfl).st p80 rfl)
       have A84 := ((A43_0.st p51 rfl).st p80 rfl)
       have A85 := ((A43_1.st p51 rfl).st p80 rfl)
       have K86 := (K78.st p80 rfl)
       exact Kj56 _ _ _ ⟨s80, _, rfl, (ue (ue (ue (ue (ue (ue (ue (ue (ue (ue (ue (ue (ue (ue (ue (ue (ue (ue (ue rfl rfl) rfl) rfl) rfl) rfl) rfl) rfl) rfl) rfl) rfl) rfl) rfl) rfl) rfl) rfl) rfl) rfl) rfl) rfl), K86, A81, A82, A83, A84, A85⟩
     rintro y56 _ _ ⟨s87, _, rfl, rfl, Ky56, Cy56_4, Cy56_36, Cy56_37, Cy56_44, Cy56_45⟩
     exact Kj12 _ _ _ ⟨s87, _, rfl, (ue (ue (ue (ue (ue (ue (ue (ue (ue rfl rfl) rfl) rfl) rfl) rfl) rfl) rfl) rfl) rfl), Ky56, Cy56_4⟩
   rintro y12 _ _ ⟨s88, _, rfl, rfl, Ky12, Cy12_4⟩
   refine dn ?_
   refine cd rfl (fun h89 => ?_) (fun h89 => ?_)
   ·
    refine xt rfl ?_
    exact Kj6 _ _ _ ⟨s88, _, rfl, (ue (ue (ue (ue (ue (ue (ue rfl rfl) rfl) rfl) rfl) rfl) rfl) rfl), Ky12, Cy12_4⟩
   ·
    refine sk ?_
    refine sq ?_
    refine zdraw [[], [], [], [1, 2], [], [], [4, 5], [0, 3, 6]] [some 40, some 41, some 42, some 43, some 44, some 45, some 46, some 47] [[3], [0], [1], [41, 42], [0], [10], [44, 45], [40, 43, 46]] [0, 1, 2, 3, 4, 5, 6, 7] ⟨by kernel_rfl, by kernel_rfl, by kernel_rfl⟩ (by kernel_rfl) (fun s90 p90 l90 tb90 zd90 => ?_)
    have zd91 := zd90.add 0 40 f3 rfl
    have zd92 := zd91.add 1 41 w0_0 rfl
    have zd93 := zd92.add 2 42 (.int .i64 a1) rfl
    have A94 := (Cy12_4.st p90 rfl)
    refine mg fun hg95 => ?_
    obtain ⟨ad95, es95, he95, ce95, ia95⟩ := ix_e A94.rd rfl hg95.1 hg95.2
    have h0_95 := hg95.1
    have h1_95 := hg95.2
    obtain ⟨v95_0, v95_1, rfl, A95_0, A95_1⟩ := op117 he95
    have zd99 := zd93.add 3 43 (.pointer (some ad95)) rfl
    have zd100 := zd99.add 4 44 w0_0 rfl
    have zd101 := zd100.add 5 45 (.int .i64 x2.2.2) rfl
    refine mg fun hg102 => ?_
    obtain ⟨ad102, es102, he102, ce102, ia102⟩ := ix_e A94.rd rfl hg102.1 hg102.2
    have h0_102 := hg102.1
    have h1_102 := hg102.2
    obtain ⟨v102_0, v102_1, rfl, A102_0, A102_1⟩ := op117 he102
    have zd106 := zd101.add 6 46 (.pointer (some ad102)) rfl
    refine zfin [7] tb90 zd106 (pq_cons (ix_q A94.rd Tryz.underlying29 z117 hg102.1 hg102.2 ia102 rfl rfl rfl rfl rfl rfl rfl) rfl (pq_cons (pu_q rfl rfl rfl rfl rfl rfl) rfl (pq_cons (mv_q w0_0 rfl rfl rfl rfl rfl rfl) rfl (pq_cons (ix_q A94.rd Tryz.underlying29 z117 hg95.1 hg95.2 ia95 rfl rfl rfl rfl rfl rfl rfl) rfl (pq_cons (pu_q rfl rfl rfl rfl rfl rfl) rfl (pq_cons (mv_q w0_0 rfl rfl rfl rfl rfl rfl) rfl (pq_cons (mv_q f3 rfl rfl rfl rfl rfl rfl) rfl pq_nil))))))) (by kernel_rfl) (by decide) ?_
    have K107 := (Ky12.st p90 rfl)
    obtain ⟨os108, ho108, hn108, hc108⟩ := A94
    refine clv rfl rfl rfl rfl rfl rfl rfl (fun r108 m108 => hf3 x2.1 a1 x2.2.2 w0_0 ad95 ad102 os108 s90.w (z.ky K107) ho108 hn108 ia95 h0_95 h1_95 ia102 h0_102 h1_102 r108 m108) ?_
    rintro r108 _ w108 m108 ⟨rfl, w108_, ky108⟩
    obtain ⟨s109, rfl, p109, A109⟩ := nwo 42 hc108 ky108 w108_
    refine dn ?_
    refine rg ?_
    refine pu rfl rfl rfl rfl rfl ?_
    refine pu rfl rfl rfl rfl rfl ?_
    refine ji [23] (fun (y111 : Bool) (e : Env) (w : World) => ∃ (s : St) (e0 : Env), w = s.w ∧ e = upd (upd (upd (upd (upd (upd (upd e0 0 w0_0) 1 (.int .i64 a1)) 2 f2) 3 f3) 12 (.int .i64 (a0.length : Int))) 13 (.int .i64 x2.2.2)) 70 (.bool y111) ∧ Kp s0 s ∧ OwF (Kd.sl 117 kd117) s [w0_0] r108 2) (fun Gj111 Kj111 => ?_) ?_
    ·
     rcases Bool.eq_false_or_eq_true x2.2.1 with hb111 | hb111
     ·
      refine sbT hb111 ?_
      rw [if_pos hb111]
      refine uw rfl rfl rfl rfl ?_
      refine uw rfl rfl rfl rfl ?_
      refine uw rfl rfl rfl rfl ?_
      refine uw rfl rfl rfl rfl ?_
      refine uw rfl rfl rfl rfl ?_
      refine uw rfl rfl rfl rfl ?_
      refine uw rfl rfl rfl rfl ?_
      refine uw rfl rfl rfl rfl ?_
      refine uw rfl rfl rfl rfl ?_
      refine uw rfl rfl rfl rfl ?_
      refine uw rfl rfl rfl rfl ?_
      refine uw rfl rfl rfl rfl ?_
      refine uw rfl rfl rfl rfl ?_
      refine uw rfl rfl rfl rfl ?_
      refine uw rfl rfl rfl rfl ?_
      refine uw rfl rfl rfl rfl ?_
      refine uw rfl rfl rfl rfl ?_
      refine uw rfl rfl rfl rfl ?_
      refine uw rfl rfl rfl rfl ?_
      refine uw rfl rfl rfl rfl ?_
      refine pu rfl rfl rfl rfl rfl ?_
      have K112 := (K107.st p109 rfl)
      exact Kj111 _ _ _ ⟨s109, _, rfl, (ue (ue (ue (ue (ue (ue (ue rfl rfl) rfl) rfl) rfl) rfl) rfl) rfl), K112, A109⟩
     ·
      refine sbT hb111 ?_
      rw [if_neg (by rw [hb111]; decide)]
      refine mv w0_0 rfl rfl rfl rfl rfl rfl ?_
      refine pu rfl rfl rfl rfl rfl ?_
      refine ix A109.rd Tryz.underlying29 z117 rfl rfl rfl rfl rfl rfl rfl rfl (fun ad113 es113 h0_113 h1_113 he113 ce113 ia113 => ?_)
      obtain ⟨v113_0, v113_1, rfl, A113_0, A113_1⟩ := op117 he113
      refine fa fa117_6 rfl rfl rfl rfl rfl rfl ?_
      refine lc ce113 Tryz.underlying4 rfl rfl rfl rfl rfl rfl rfl rfl ?_
      refine pu rfl rfl rfl rfl rfl ?_
      refine ji [14, 15, 16, 17, 18, 19, 20, 21, 22, 23] (fun (y117 : Bool × Bool) (e : Env) (w : World) => ∃ (s : St) (e0 : Env), w = s.w ∧ e = upd (upd (upd (upd (upd (upd (upd (upd (upd (upd (upd (upd (upd (upd (upd e0 0 w0_0) 1 (.int .i64 a1)) 2 f2) 3 f3) 10 (.int .i64 x2.2.2)) 12 (.int .i64 (a0.length : Int))) 13 (.int .i64 x2.2.2)) 49 (.bool false)) 50 w0_0) 51 (.int .i64 x2.2.2)) 52 (.pointer (some ad113))) 53 (.pointer (some (ad113.add 6)))) 54 (.bool ((at_ r108 x2.2.2).In))) 55 (.bool y117.1)) 61 (.bool y117.2) ∧ Kp s0 s ∧ OwF (Kd.sl 117 kd117) s [w0_0] r108 2) (fun Gj117 Kj117 => ?_) ?_
      ·
       rcases Bool.eq_false_or_eq_true ((at_ r108 x2.2.2).In) with hb117 | hb117
       ·
        refine sbT hb117 ?_
        rw [if_pos hb117]
        refine mv w0_0 rfl rfl rfl rfl rfl rfl ?_
        refine pu rfl rfl rfl rfl rfl ?_
        refine ix A109.rd Tryz.underlying29 z117 rfl rfl rfl rfl rfl rfl rfl rfl (fun ad118 es118 h0_118 h1_118 he118 ce118 ia118 => ?_)
        obtain ⟨v118_0, v118_1, rfl, A118_0, A118_1⟩ := op117 he118
        refine fa fa117_7 rfl rfl rfl rfl rfl rfl ?_
        refine lc ce118 Tryz.underlying4 rfl rfl rfl rfl rfl rfl rfl rfl ?_
        refine pu rfl rfl rfl rfl rfl ?_
        have K122 := (K107.st p109 rfl)
        exact Kj117 _ _ _ ⟨s109, _, rfl, (ue (ue (ue (ue (ue (ue (ue (ue (ue (ue (ue (ue (ue (ue (ue rfl rfl) rfl) rfl) rfl) rfl) rfl) rfl) rfl) rfl) rfl) rfl) rfl) rfl) rfl) rfl), K122, A109⟩
       ·
        refine sbT hb117 ?_
        rw [if_neg (by rw [hb117]; decide)]
        refine uw rfl rfl rfl rfl ?_
        refine uw rfl rfl rfl rfl ?_
        refine uw rfl rfl rfl rfl ?_
        refine uw rfl rfl rfl rfl ?_
        refine uw rfl rfl rfl rfl ?_
        refine pu rfl rfl rfl rfl rfl ?_
        have K123 := (K107.st p109 rfl)
        exact Kj117 _ _ _ ⟨s109, _, rfl, (ue (ue (ue (ue (ue (ue (ue (ue (ue (ue (ue (ue (ue (ue (ue rfl rfl) rfl) rfl) rfl) rfl) rfl) rfl) rfl) rfl) rfl) rfl) rfl) rfl) rfl) rfl), K123, A109⟩
      rintro y117 _ _ ⟨s124, _, rfl, rfl, Ky117, Cy117_110⟩
      refine pu rfl rfl rfl rfl rfl ?_
      refine ji [22, 23] (fun (y125 : Bool × Bool) (e : Env) (w : World) => ∃ (s : St) (e0 : Env), w = s.w ∧ e = upd (upd (upd (upd (upd (upd (upd (upd (upd (upd (upd (upd (upd (upd (upd (upd e0 0 w0_0) 1 (.int .i64 a1)) 2 f2) 3 f3) 12 (.int .i64 (a0.length : Int))) 13 (.int .i64 x2.2.2)) 49 (.bool false)) 50 w0_0) 51 (.int .i64 x2.2.2)) 52 (.pointer (some ad113))) 53 (.pointer (some (ad113.add 6)))) 54 (.bool ((at_ r108 x2.2.2).In))) 55 (.bool y117.1)) 61 (.bool y117.2)) 62 (.bool y125.1)) 69 (.bool y125.2) ∧ Kp s0 s ∧ OwF (Kd.sl 117 kd117) s [w0_0] r108 2) (fun Gj125 Kj125 => ?_) ?_
      ·
       rcases Bool.eq_false_or_eq_true y117.2 with hb125 | hb125
       ·
        refine sbT hb125 ?_
        rw [if_pos hb125]
        refine mv w0_0 rfl rfl rfl rfl rfl rfl ?_
        refine pu rfl rfl rfl rfl rfl ?_
        refine ix Cy117_110.rd Tryz.underlying29 z117 rfl rfl rfl rfl rfl rfl rfl rfl (fun ad126 es126 h0_126 h1_126 he126 ce126 ia126 => ?_)
        obtain ⟨v126_0, v126_1, rfl, A126_0, A126_1⟩ := op117 he126
        refine lca ce126 Tryz.underlying117 z117 rfl rfl rfl rfl rfl rfl rfl ?_
        refine cl rfl rfl rfl rfl rfl Tryz.func160 rfl rfl rfl (fun r130 m130 => impl_Track_isActive.calls (at_ r108 x2.2.2) s124.w (fun b => memb [2] (s124.g b) = true) v126_0 v126_1 A126_0 A126_1 r130 m130) ?_
        rintro r130 _ w130 m130 ⟨rfl, ky130⟩
        obtain ⟨s131, rfl, p131, n131⟩ := nwx s124 w130 43 ky130
        refine pu rfl rfl rfl rfl rfl ?_
        refine pu rfl rfl rfl rfl rfl ?_
        have A132 := (Cy117_110.st p131 rfl)
        have K133 := (Ky117.st p131 rfl)
        exact Kj125 _ _ _ ⟨s131, _, rfl, (ue (ue (ue (ue (ue (ue (ue (ue (ue (ue (ue (ue (ue (ue (ue (ue rfl rfl) rfl) rfl) rfl) rfl) rfl) rfl) rfl) rfl) rfl) rfl) rfl) rfl) rfl) rfl) rfl), K133, A132⟩
       ·
        refine sbT hb125 ?_
        rw [if_neg (by rw [hb125]; decide)]
        refine uw rfl rfl rfl rfl ?_
        refine uw rfl rfl rfl rfl ?_
        refine uw rfl rfl rfl rfl ?_
        refine uw rfl rfl rfl rfl ?_
        refine uw rfl rfl rfl rfl ?_
        refine uw rfl rfl rfl rfl ?_
        refine pu rfl rfl rfl rfl rfl ?_
        exact Kj125 _ _ _ ⟨s124, _, rfl, (ue (ue (ue (ue (ue (ue (ue (ue (ue (ue (ue (ue (ue (ue (ue (ue rfl rfl) rfl) rfl) rfl) rfl) rfl) rfl) rfl) rfl) rfl) rfl) rfl) rfl) rfl) rfl) rfl), Ky117, Cy117_110⟩
      rintro y125 _ _ ⟨s134, _, rfl, rfl, Ky125, Cy125_110⟩
      refine pu rfl rfl rfl rfl rfl ?_
      exact Kj111 _ _ _ ⟨s134, _, rfl, (ue (ue (ue (ue (ue (ue (ue rfl rfl) rfl) rfl) rfl) rfl) rfl) rfl), Ky125, Cy125_110⟩
    rintro y111 _ _ ⟨s135, _, rfl, rfl, Ky111, Cy111_110⟩
    refine pu rfl rfl rfl rfl rfl ?_
    refine dn ?_
    refine ib ?_
    exact Kj6 _ _ _ ⟨s135, _, rfl, (ue (ue (ue (ue (ue (ue (ue rfl rfl) rfl) rfl) rfl) rfl) rfl) rfl), Ky111, Cy111_110⟩
  rintro y6 _ _ ⟨s136, _, rfl, rfl, Ky6, Ay6_0⟩
  refine rg ?_
  refine pu rfl rfl rfl rfl rfl ?_
  refine pu rfl rfl rfl rfl rfl ?_
  refine dn ?_
  exact lb ih2 ⟨s136, _, rfl, (ue (ue (ue (ue (ue (ue (ue rfl rfl) rfl) rfl) rfl) rfl) rfl) rfl), Ky6, Ay6_0⟩
 ·
  refine xt rfl ?_
  refine sgb ?_
  refine sq ?_
  refine sr ?_
  refine pu rfl rfl rfl rfl rfl ?_
  refine pu rfl rfl rfl rfl rfl ?_
  refine ji [] (fun (y138 : Bool) (e : Env) (w : World) => ∃ (s : St) (e0 : Env), w = s.w ∧ e = upd e0 86 (.bool y138) ∧ Kp s0 s ∧ OwF (Kd.sl 117 kd117) s [w0_0] x2.1 2) (fun Gj138 Kj138 => ?_) ?_
  ·
   rcases Bool.eq_false_or_eq_true x2.2.1 with hb138 | hb138
   ·
    refine sbT hb138 ?_
    rw [if_pos hb138]
    refine uw rfl rfl rfl rfl ?_
    refine uw rfl rfl rfl rfl ?_
    refine uw rfl rfl rfl rfl ?_
    refine uw rfl rfl rfl rfl ?_
    refine uw rfl rfl rfl rfl ?_
    refine uw rfl rfl rfl rfl ?_
    refine uw rfl rfl rfl rfl ?_
    refine uw rfl rfl rfl rfl ?_
    refine uw rfl rfl rfl rfl ?_
    refine uw rfl rfl rfl rfl ?_
    refine uw rfl rfl rfl rfl ?_
    refine uw rfl rfl rfl rfl ?_
    refine pu rfl rfl rfl rfl rfl ?_
    exact Kj138 _ _ _ ⟨s3, _, rfl, (ue rfl rfl), Kx2, Ax2_0⟩
   ·
    refine sbT hb138 ?_
    rw [if_neg (by rw [hb138]; decide)]
    refine mv w0_0 rfl rfl rfl rfl rfl rfl ?_
    refine pu rfl rfl rfl rfl rfl ?_
    refine ix Ax2_0.rd Tryz.underlying29 z117 rfl rfl rfl rfl rfl rfl rfl rfl (fun ad139 es139 h0_139 h1_139 he139 ce139 ia139 => ?_)
    obtain ⟨v139_0, v139_1, rfl, A139_0, A139_1⟩ := op117 he139
    refine fa fa117_6 rfl rfl rfl rfl rfl rfl ?_
    refine lc ce139 Tryz.underlying4 rfl rfl rfl rfl rfl rfl rfl rfl ?_
    refine pu rfl rfl rfl rfl rfl ?_
    refine ji [14] (fun (y143 : Bool) (e : Env) (w : World) => ∃ (s : St) (e0 : Env), w = s.w ∧ e = upd (upd e0 73 (.bool false)) 85 (.bool y143) ∧ Kp s0 s ∧ OwF (Kd.sl 117 kd117) s [w0_0] x2.1 2) (fun Gj143 Kj143 => ?_) ?_
    ·
     rcases Bool.eq_false_or_eq_true ((at_ x2.1 a1).In) with hb143 | hb143
     ·
      refine sbT hb143 ?_
      rw [if_pos hb143]
      refine mv w0_0 rfl rfl rfl rfl rfl rfl ?_
      refine pu rfl rfl rfl rfl rfl ?_
      refine ix Ax2_0.rd Tryz.underlying29 z117 rfl rfl rfl rfl rfl rfl rfl rfl (fun ad144 es144 h0_144 h1_144 he144 ce144 ia144 => ?_)
      obtain ⟨v144_0, v144_1, rfl, A144_0, A144_1⟩ := op117 he144
      refine fa fa117_7 rfl rfl rfl rfl rfl rfl ?_
      refine lc ce144 Tryz.underlying4 rfl rfl rfl rfl rfl rfl rfl rfl ?_
      refine pu rfl rfl rfl rfl rfl ?_
      exact Kj143 _ _ _ ⟨s3, _, rfl, (ue (ue rfl rfl) rfl), Kx2, Ax2_0⟩
     ·
      refine sbT hb143 ?_
      rw [if_neg (by rw [hb143]; decide)]
      refine uw rfl rfl rfl rfl ?_
      refine uw rfl rfl rfl rfl ?_
      refine uw rfl rfl rfl rfl ?_
      refine uw rfl rfl rfl rfl ?_
      refine uw rfl rfl rfl rfl ?_
      refine pu rfl rfl rfl rfl rfl ?_
      exact Kj143 _ _ _ ⟨s3, _, rfl, (ue (ue rfl rfl) rfl), Kx2, Ax2_0⟩
    rintro y143 _ _ ⟨s148, _, rfl, rfl, Ky143, Cy143_4⟩
    refine pu rfl rfl rfl rfl rfl ?_
    exact Kj138 _ _ _ ⟨s148, _, rfl, (ue rfl rfl), Ky143, Cy143_4⟩
  rintro y138 _ _ ⟨s149, _, rfl, rfl, Ky138, Cy138_4⟩
  refine dn ?_
  refine cd rfl (fun h150 => ?_) (fun h150 => ?_)
  ·
   refine sr ?_
   refine pu rfl rfl rfl rfl rfl ?_
   refine dn ?_
   exact re rfl Tryz.func82 rfl (r_t rfl r_nil) rfl ⟨_, rfl, rfl, z.fw Ky138 Cy138_4, z.ky Ky138⟩
  ·
   refine sk ?_
   refine sr ?_
   refine pu rfl rfl rfl rfl rfl ?_
   refine dn ?_
   exact re rfl Tryz.func82 rfl (r_t rfl r_nil) rfl ⟨_, rfl, rfl, z.fw Ky138 Cy138_4, z.ky Ky138⟩
noncomputable def impl_EdgeWrite_3.f (a0 : (List Track)) (i0 : Int)  (i1 : Int) : Option ((List Track)) :=
 ((some (a0.set (i0).toNat (Track.mk (at_ a0 i0).Xid (at_ a0 i0).Begun (at_ a0 i0).Ended (at_ a0 i0).All (at_ a0 i0).Reads (at_ a0 i0).Writes true (at_ a0 i0).Out))).bind fun y8 => ((some (y8.set (i1).toNat (Track.mk (at_ y8 i1).Xid (at_ y8 i1).Begun (at_ y8 i1).Ended (at_ y8 i1).All (at_ y8 i1).Reads (at_ y8 i1).Writes (at_ y8 i1).In true))).bind fun y15 => (some y15)))
def impl_EdgeWrite_3.Q (w : World) (F : Nat → Prop) (os : List Nat) (w0_0 : Value) (r : (List Track)) (v : Value) (w' : World) : Prop :=
 v = .tuple #[] ∧ FW (Kd.sl 117 kd117) os w w' [w0_0] r ∧ Ky os w w'
set_option maxHeartbeats 4000000 in
set_option maxRecDepth 100000 in
theorem impl_EdgeWrite_3.calls (a0 : (List Track)) (i0 : Int)  (i1 : Int) (w : World) (F : Nat → Prop) (w0_0 : Value) (ad0 : Addr) (ad1 : Addr) (os : List Nat) (h0_0 : (Kd.sl 117 kd117).ow w [w0_0] a0 os) (hn : os.Nodup) (hF : ∀ b, F b → b ∉ os) (x0 : IxA w0_0 kd117.n i0 ad0) (g0 : 0 ≤ i0) (l0 : i0 < (a0.length : Int)) (x1 : IxA w0_0 kd117.n i1 ad1) (g1 : 0 ≤ i1) (l1 : i1 < (a0.length : Int)) (r : (List Track)) (m : impl_EdgeWrite_3.f a0 i0  i1 = some r) :
  Calls Tryz.prog 85 #[(.pointer (some ad0)), (.pointer (some ad1))] w fun en w' => ∃ v, en = .returned v ∧ impl_EdgeWrite_3.Q w F os w0_0 r v w' := by
 obtain ⟨s0, rfl, kp0, z⟩ := startN w F [(os, 40)] (by simpa [fl_] using hn) (fun b hb => by simpa [fl_] using hF b hb) rfl
 have ez : fl_ [(os, 40)] = os := by simp [fl_]
 have A0_0 := z.ow (c := 40) (by simp) hn h0_0
 refine calls_of_TM (args := [(.pointer (some ad0)), (.pointer (some ad1))]) (R := fun r en w' => ∃ v, en = .returned v ∧ impl_EdgeWrite_3.Q s0.w F os w0_0 r v w') Tryz.func85 Tryz.ntmps85 rfl rfl m ?_
 unfold impl_EdgeWrite_3.f
 refine rg ?_
 refine pu rfl rfl rfl rfl rfl ?_
 refine pu rfl rfl rfl rfl rfl ?_
 refine pu rfl rfl rfl rfl rfl ?_
 refine fa fa117_6 rfl rfl rfl rfl rfl rfl ?_
 have h1_2 : i0 < (a0.length : Int) := by simpa using l0
 obtain ⟨es2, he2, ce2⟩ := ix_re A0_0.rd rfl g0 h1_2 x0
 have h0_2 := g0
 have ia2 := x0
 obtain ⟨v2_0, v2_1, rfl, A2_0, A2_1⟩ := op117 he2
 refine so (x' := (Track.mk (at_ a0 i0).Xid (at_ a0 i0).Begun (at_ a0 i0).Ended (at_ a0 i0).All (at_ a0 i0).Reads (at_ a0 i0).Writes true (at_ a0 i0).Out)) A0_0 x0 g0 h1_2 (cs_iso (cs_right (cs_right (cs_right (cs_right (cs_right (cs_right (cs_left cs_flat)))))))) z4 rfl rfl rfl rfl rfl rfl (fun s6 p6 A6 => ?_)
 refine nb (fun y8 h8 => ?_)
 have A8 : OwF (Kd.sl 117 kd117) s6 [w0_0] y8 40 := by rw [h8]; exact A6
 refine pu rfl rfl rfl rfl rfl ?_
 refine fa fa117_7 rfl rfl rfl rfl rfl rfl ?_
 have h1_9 : i1 < (y8.length : Int) := by simpa [h8] using l1
 obtain ⟨es9, he9, ce9⟩ := ix_re A8.rd rfl g1 h1_9 x1
 have h0_9 := g1
 have ia9 := x1
 obtain ⟨v9_0, v9_1, rfl, A9_0, A9_1⟩ := op117 he9
 refine so (x' := (Track.mk (at_ y8 i1).Xid (at_ y8 i1).Begun (at_ y8 i1).Ended (at_ y8 i1).All (at_ y8 i1).Reads (at_ y8 i1).Writes (at_ y8 i1).In true)) A8 x1 g1 h1_9 (cs_iso (cs_right (cs_right (cs_right (cs_right (cs_right (cs_right (cs_right cs_flat)))))))) z4 rfl rfl rfl rfl rfl rfl (fun s13 p13 A13 => ?_)
 refine nb (fun y15 h15 => ?_)
 have A15 : OwF (Kd.sl 117 kd117) s13 [w0_0] y15 40 := by rw [h15]; exact A13
 refine dn ?_
 have K16 := ((kp0.st p6 rfl).st p13 rfl)
 exact reE rfl Tryz.func85 rfl r_nil rfl ⟨_, rfl, rfl, z.fw' ez K16 (oc_ow A15) rfl, z.ky' ez K16⟩
noncomputable def impl_EdgeWrite.f (a0 : (List Track)) (a1 : Int) (a2 : Item) : Option ((List Track) × Int) :=
 ((impl_active.f a0 a1).bind fun r7 => ((impl_TracksOk.f a0).bind fun r11 => ((if ((!r11) || (decide (r7 < (0 : Int)))) = true then (some true) else ((impl_KeyOk.f a2).bind fun r20 => (some (!r20)))).bind fun y14 => (if y14 = true then (some (([] : (List Track)), (1 : Int))) else ((impl_ownTracks.f a0).bind fun r28 => (if 0 ≤ r7 ∧ r7 < (r28.length : Int) then ((slices_ContainsFunc_impl_Item_impl_Item.f ((at_ r28 r7).Writes) (fun x0 => impl_EdgeWrite_1.f x0 a2)).bind fun r38 => ((if (!r38) = true then ((impl_Item_own.f a2).bind fun r56 => (if ((at_ r28 r7).Writes).length + ([r56]).length ≤ Lim then ((some (r28.set (r7).toNat (Track.mk (at_ r28 r7).Xid (at_ r28 r7).Begun (at_ r28 r7).Ended (at_ r28 r7).All (at_ r28 r7).Reads ((at_ r28 r7).Writes ++ [r56]) (at_ r28 r7).In (at_ r28 r7).Out))).bind fun y82 => (some y82)) else none)) else (some r28)).bind fun y40 => (if r7 < (y40.length : Int) then (if (decide ((((at_ y40 r7).Writes).length : Int) > (200 : Int))) = true then (some (([] : (List Track)), (1 : Int))) else ((impl_meet.f y40 r7 (fun x0 => impl_EdgeWrite_2.f x0 a2) impl_EdgeWrite_3.f).bind fun r97 => (some (r97.2, r97.1)))) else none))) else none))))))
def impl_EdgeWrite.Q (w : World) (F : Nat → Prop) (r : (List Track) × Int) (v : Value) (w' : World) : Prop :=
 ∃ (v0 : Value), v = .tuple #[v0, (.int .i64 r.2)] ∧ FO (Kd.sl 117 kd117) w w' [v0] r.1 ∧ Ky [] w w'
set_option maxHeartbeats 4000000 in
set_option maxRecDepth 100000 in
theorem impl_EdgeWrite.calls (a0 : (List Track)) (a1 : Int) (a2 : Item) (w : World) (F : Nat → Prop) (w0_0 : Value) (w2_0 : Value) (w2_1 : Value) (h0_0 : (Kd.sl 117 kd117).rd w [w0_0] a0 F) (h2_0 : Kd.flt.rd w [w2_0] a2.F F) (h2_1 : (Kd.sl 5 (Kd.int .u8)).rd w [w2_1] a2.T F) (r : (List Track) × Int) (m : impl_EdgeWrite.f a0 a1 a2 = some r) :
  Calls Tryz.prog 15 #[w0_0, (.int .i64 a1), (.agg #[(.int .i64 a2.Kind), (.int .i64 a2.N), w2_0, w2_1])] w fun en w' => ∃ v, en = .returned v ∧ impl_EdgeWrite.Q w F r v w' := by
 obtain ⟨s0, rfl, kp0, z⟩ := start0 w F
 have A0_0 := z.rd h0_0
 have A2_0 := fl_of h2_0
 have A2_1 := z.rd h2_1
 refine calls_of_TM (args := [w0_0, (.int .i64 a1), (.agg #[(.int .i64 a2.Kind), (.int .i64 a2.N), w2_0, w2_1])]) (R := fun r en w' => ∃ v, en = .returned v ∧ impl_EdgeWrite.Q s0.w F r v w') Tryz.func15 Tryz.ntmps15 rfl rfl m ?_
 unfold impl_EdgeWrite.f
 refine sr ?_
 refine bx (cs := [(.int .i64 a2.Kind), (.int .i64 a2.N), w2_0, w2_1]) 40 rfl rfl rfl rfl rfl rfl (fun b3 s3 p3 B3 => ?_)
 refine pu rfl rfl rfl rfl rfl ?_
 refine pu rfl rfl rfl rfl rfl ?_
 refine dn ?_
 refine sr ?_
 refine mv w0_0 rfl rfl rfl rfl rfl rfl ?_
 refine pu rfl rfl rfl rfl rfl ?_
 have K5 := (kp0.st p3 rfl)
 have A6 := (A0_0.kp K5)
 refine cl rfl rfl rfl rfl rfl Tryz.func74 rfl rfl rfl (fun r7 m7 => impl_active.calls a0 a1 s3.w (fun b => memb [0] (s3.g b) = true) w0_0 A6 r7 m7) ?_
 rintro r7 _ w7 m7 ⟨rfl, ky7⟩
 obtain ⟨s8, rfl, p8, n8⟩ := nwx s3 w7 41 ky7
 refine pu rfl rfl rfl rfl rfl ?_
 refine dn ?_
 refine sq ?_
 refine sr ?_
 refine mv w0_0 rfl rfl rfl rfl rfl rfl ?_
 have K9 := (K5.st p8 rfl)
 have A10 := (A0_0.kp K9)
 refine cl rfl rfl rfl rfl rfl Tryz.func75 rfl rfl rfl (fun r11 m11 => impl_TracksOk.calls a0 s8.w (fun b => memb [0] (s8.g b) = true) w0_0 A10 r11 m11) ?_
 rintro r11 _ w11 m11 ⟨rfl, ky11⟩
 obtain ⟨s12, rfl, p12, n12⟩ := nwx s8 w11 42 ky11
 refine pu rfl rfl rfl rfl rfl ?_
 refine pu rfl rfl rfl rfl rfl ?_
 refine jy [17, 18, 19, 20] [7, 8, 9, 10, 11] 20 (.bool ((!r11) || (decide (r7 < (0 : Int))))) rfl (fun Kg13 => ?_) (fun j13 => ?_)
 ·
  rcases Bool.eq_false_or_eq_true (!r11) with hb13 | hb13
  ·
   refine sbT hb13 ?_
   refine uw rfl rfl rfl rfl ?_
   refine uw rfl rfl rfl rfl ?_
   refine pu rfl rfl rfl rfl rfl ?_
   exact Kg13 _ (Ag.put ((Ag.put ((Ag.put (Ag.base rfl) rfl)) rfl)) rfl) (by rw [hb13]; rfl)
  ·
   refine sbT hb13 ?_
   refine pu rfl rfl rfl rfl rfl ?_
   refine pu rfl rfl rfl rfl rfl ?_
   refine pu rfl rfl rfl rfl rfl ?_
   exact Kg13 _ (Ag.put ((Ag.put ((Ag.put (Ag.base rfl) rfl)) rfl)) rfl) (by rw [hb13]; rfl)
 refine pu rfl rfl rfl rfl rfl ?_
 refine ji [] (fun (y14 : Bool) (e : Env) (w : World) => ∃ (s : St) (e0 : Env), w = s.w ∧ e = upd (upd (upd (upd e0 0 w0_0) 5 (.pointer (some ⟨b3, 0, none⟩))) 8 (.int .i64 r7)) 25 (.bool y14) ∧ Kp s0 s ∧ BlF s b3 33 [(.int .i64 a2.Kind), (.int .i64 a2.N), w2_0, w2_1] 40) (fun Gj14 Kj14 => ?_) ?_
 ·
  rcases Bool.eq_false_or_eq_true ((!r11) || (decide (r7 < (0 : Int)))) with hb14 | hb14
  ·
   refine sbT hb14 ?_
   rw [if_pos hb14]
   refine uw rfl rfl rfl rfl ?_
   refine uw rfl rfl rfl rfl ?_
   refine uw rfl rfl rfl rfl ?_
   refine pu rfl rfl rfl rfl rfl ?_
   have A15 := (BlF.st (BlF.st B3 p8 rfl) p12 rfl)
   have K16 := (K9.st p12 rfl)
   exact Kj14 _ _ _ ⟨s12, _, rfl, (ue (ue (ue (ue rfl rfl) rfl) rfl) rfl), K16, A15⟩
  ·
   refine sbT hb14 ?_
   rw [if_neg (by rw [hb14]; decide)]
   have A17 := (BlF.st (BlF.st B3 p8 rfl) p12 rfl)
   refine lda (es := [(.int .i64 a2.Kind), (.int .i64 a2.N), w2_0, w2_1]) A17 Tryz.underlying33 z33 rfl rfl rfl rfl rfl rfl rfl rfl ?_
   have K18 := (K9.st p12 rfl)
   have A19 := (A2_1.kp K18)
   refine cl rfl rfl rfl rfl rfl Tryz.func76 rfl rfl rfl (fun r20 m20 => impl_KeyOk.calls a2 s12.w (fun b => memb [0] (s12.g b) = true) w2_0 w2_1 ((fl_rdf (s := s12) A2_0).sub (D := [0]) rfl) A19 r20 m20) ?_
   rintro r20 _ w20 m20 ⟨rfl, ky20⟩
   obtain ⟨s21, rfl, p21, n21⟩ := nwx s12 w20 43 ky20
   refine pu rfl rfl rfl rfl rfl ?_
   refine pu rfl rfl rfl rfl rfl ?_
   have A22 := (BlF.st A17 p21 rfl)
   have K23 := (K18.st p21 rfl)
   exact Kj14 _ _ _ ⟨s21, _, rfl, (ue (ue (ue (ue rfl rfl) rfl) rfl) rfl), K23, A22⟩
 rintro y14 _ _ ⟨s24, _, rfl, rfl, Ky14, By14_b3⟩
 refine dn ?_
 refine cd rfl (fun h26 => ?_) (fun h26 => ?_)
 ·
  refine sr ?_
  refine pu rfl rfl rfl rfl rfl ?_
  refine pu rfl rfl rfl rfl rfl ?_
  refine dn ?_
  exact re rfl Tryz.func15 rfl (r_t rfl (r_t rfl r_nil)) rfl ⟨_, rfl, (.slice none 0 0), rfl, (ow_nil 117 kd117 s24 40).fo Ky14 rfl z.l, z.ky Ky14⟩
 ·
  refine sk ?_
  refine sr ?_
  refine mv w0_0 rfl rfl rfl rfl rfl rfl ?_
  have A27 := (A0_0.kp Ky14)
  refine cl rfl rfl rfl rfl rfl Tryz.func77 rfl rfl rfl (fun r28 m28 => impl_ownTracks.calls a0 s24.w (fun b => memb [0] (s24.g b) = true) w0_0 A27 r28 m28) ?_
  rintro r28 v28_0 w28 m28 ⟨f28_0, ky28⟩
  obtain ⟨s29, rfl, p29, n29⟩ := nwx s24 w28 44 ky28
  have A28_0 := f28_0.c n29
  refine asg v28_0 rfl rfl rfl rfl rfl rfl ?_
  refine dn ?_
  refine sr ?_
  refine mv v28_0 rfl rfl rfl rfl rfl rfl ?_
  refine pu rfl rfl rfl rfl rfl ?_
  refine ix A28_0.rd Tryz.underlying29 z117 rfl rfl rfl rfl rfl rfl rfl rfl (fun ad31 es31 h0_31 h1_31 he31 ce31 ia31 => ?_)
  obtain ⟨v31_0, v31_1, rfl, A31_0, A31_1⟩ := op117 he31
  refine pu rfl rfl rfl rfl rfl ?_
  refine dn ?_
  refine sq ?_
  refine sr ?_
  refine pu rfl rfl rfl rfl rfl ?_
  refine pu rfl rfl rfl rfl rfl ?_
  refine fa fa117_5 rfl rfl rfl rfl rfl rfl ?_
  refine lc ce31 Tryz.underlying115 rfl rfl rfl rfl rfl rfl rfl rfl ?_
  refine mkf (fs := []) (cs := [(.pointer (some ⟨b3, 0, none⟩))]) rfl rfl rfl rfl rfl rfl rfl ?_
  have K35 := (Ky14.st p29 rfl)
  have A36 := (A2_1.kp K35)
  have A37 := (BlF.st By14_b3 p29 rfl)
  refine cl rfl rfl rfl rfl rfl Tryz.func78 rfl rfl rfl (fun r38 m38 => slices_ContainsFunc_impl_Item_impl_Item.calls ((at_ r28 r7).Writes) (fun x0 => impl_EdgeWrite_1.f x0 a2) s29.w (fun b => memb [44] (s29.g b) = true) v31_1 (.func (.func 79) (List.toArray []) (List.toArray [(.pointer (some ⟨b3, 0, none⟩))])) A31_1 (fun x0 u0_0 u0_1 w' k h0 h1 r m =>  ⟨79, _, _, [], [(.pointer (some ⟨b3, 0, none⟩))], rfl, Tryz.func79, rfl, rfl, (impl_EdgeWrite_1.calls x0 a2 w' (fun _ => True) u0_0 u0_1 b3 w2_0 w2_1 h0 h1 (fl_rd A2_0) (RdF.ky A36 k) (BlF.ky A37 k) trivial r m).mono fun en w2 hq => by obtain ⟨v, e, q⟩ := hq; exact ⟨v, e, q⟩⟩) rfl r38 m38) ?_
  rintro r38 _ w38 m38 ⟨rfl, ky38⟩
  obtain ⟨s39, rfl, p39, n39⟩ := nwx s29 w38 45 ky38
  refine pu rfl rfl rfl rfl rfl ?_
  refine dn ?_
  refine jc (fun (y40 : (List Track)) (e : Env) (w : World) => ∃ (s : St) (e0 : Env), w = s.w ∧ e = upd (upd (upd (upd e0 5 (.pointer (some ⟨b3, 0, none⟩))) 8 (.int .i64 r7)) 9 v28_0) 10 (.pointer (some ad31)) ∧ Kp s0 s ∧ OwF (Kd.sl 117 kd117) s [v28_0] y40 44 ∧ BlF s b3 33 [(.int .i64 a2.Kind), (.int .i64 a2.N), w2_0, w2_1] 40) (fun Gj40 Kj40 => ?_) ?_
  ·
   refine cd rfl (fun h41 => ?_) (fun h41 => ?_)
   ·
    refine zdraw [[], [], [1], [2], [3], [], [5], [6], [4, 7, 6], [0, 0, 1, 2, 3, 4, 5, 6, 7, 8], [9, 0, 1, 2, 3, 4, 5, 6, 7, 8], [10, 8, 8, 0, 1, 2, 3, 4, 5, 6, 7, 8]] [some 38, some 39, some 40, some 41, some 42, some 43, some 44, some 45, some 46, some 47, some 48, none] [[10], [10], [39], [40], [41], [5], [43], [44], [42, 45], [38], [47], [48, 46]] [0, 1, 2, 3, 4, 5, 6, 7, 8, 9, 10, 11] ⟨by kernel_rfl, by kernel_rfl, by kernel_rfl⟩ (by kernel_rfl) (fun s42 p42 l42 tb42 zd42 => ?_)
    have zd43 := zd42.add 0 38 (.pointer (some ad31)) rfl
    have zd44 := zd43.add 1 39 (.pointer (some ad31)) rfl
    have zd45 := zd44.add 2 40 (.pointer (some ad31)) rfl
    have zd46 := zd45.add 3 41 (.pointer (some (ad31.add 5))) rfl
    have ce47 := ((ce31.st p39 rfl rfl).st p42 rfl rfl)
    have zd48 := zd46.add 4 42 v31_1 rfl
    have A49 := (BlF.st (BlF.st A37 p39 rfl) p42 rfl)
    have zd50 := zd48.add 5 43 (.agg #[(.int .i64 a2.Kind), (.int .i64 a2.N), w2_0, w2_1]) rfl
    have ce52 := ((ce31.st p39 rfl rfl).st p42 rfl rfl)
    have A53 := (BlF.st (BlF.st A37 p39 rfl) p42 rfl)
    refine zstep 6 [some 42, some 41, some 40, some 39, some 38] tb42 zd50 (pq_cons (lda_q (es := [(.int .i64 a2.Kind), (.int .i64 a2.N), w2_0, w2_1]) A53 Tryz.underlying33 z33 rfl rfl rfl rfl rfl rfl rfl rfl) rfl (pq_cons (lc_q ce52 Tryz.underlying115 rfl rfl rfl rfl rfl rfl rfl rfl) rfl (pq_cons (fa_q fa117_5 rfl rfl rfl rfl rfl rfl) rfl (pq_cons (pu_q rfl rfl rfl rfl rfl rfl) rfl (pq_cons (pu_q rfl rfl rfl rfl rfl rfl) rfl (pq_cons (pu_q rfl rfl rfl rfl rfl rfl) rfl pq_nil)))))) (by kernel_rfl) rfl (fun l51 e51 zd51 => ?_)
    have K54 := ((K35.st p39 rfl).st p42 rfl)
    have A55 := (A2_1.kp K54)
    refine cl rfl rfl rfl rfl rfl Tryz.func81 rfl rfl rfl (fun r56 m56 => impl_Item_own.calls a2 s42.w (fun b => memb [0] (s42.g b) = true) w2_0 w2_1 ((fl_rdf (s := s42) A2_0).sub (D := [0]) rfl) A55 r56 m56) ?_
    rintro r56 _ w56 m56 ⟨v56_0, v56_1, rfl, f56_0, ky56⟩
    obtain ⟨s57, rfl, p57, n57⟩ := nwx s42 w56 46 ky56
    have A56_0 := f56_0.c n57
    obtain ⟨os56_0, ho56_0, hn56_0, hc56_0⟩ := A56_0
    obtain ⟨u56_0_0, u56_0_1, qu56_0_1, e56_0, eo56_0, hu56_0_0, hu56_0_1⟩ := po33 ho56_0
    have yu56_0_0 : v56_0 = u56_0_0 := congrArg (fun l => (List.drop 2 l).headD undef) e56_0
    have yu56_0_1 : v56_1 = u56_0_1 := congrArg (fun l => (List.drop 3 l).headD undef) e56_0
    subst yu56_0_0
    subst yu56_0_1
    subst eo56_0
    have Au56_0_1 : OwF (Kd.sl 5 (Kd.int .u8)) s57 [v56_1] r56.T 46 := sp1 hu56_0_1 hn56_0 hc56_0
    refine zdone (L' := [4, 3, 2, 1, 0]) (D' := [5, 6]) zd51 rfl rfl rfl (fun zd59 => ?_)
    have ce61 := (((ce31.st p39 rfl rfl).st p42 rfl rfl).st p57 rfl rfl)
    refine zstep 7 [some 42, some 41, some 40, some 39, some 38] tb42 zd59 (pq_cons (lc_q ce61 Tryz.underlying115 rfl rfl rfl rfl rfl rfl rfl rfl) rfl (pq_cons (fa_q fa117_5 rfl rfl rfl rfl rfl rfl) rfl (pq_cons (pu_q rfl rfl rfl rfl rfl rfl) rfl (pq_cons (pu_q rfl rfl rfl rfl rfl rfl) rfl (pq_cons (pu_q rfl rfl rfl rfl rfl rfl) rfl pq_nil))))) (by kernel_rfl) rfl (fun l60 e60 zd60 => ?_)
    have A62 : OwF kd33 s57 [(.int .i64 r56.Kind), (.int .i64 r56.N), v56_0, v56_1] r56 46 := (ow_isoz (fun x : Item => (x.Kind, x.N, x.F, x.T)) r56 (ow_l (fz_int .i64 r56.Kind) (ow_l (fz_int .i64 r56.N) (ow_l (fz_flt hu56_0_0) Au56_0_1))))
    have L64 := lo_one A62
    refine ltO (K := kd33) (cells := [(.int .i64 r56.Kind), (.int .i64 r56.N), v56_0, v56_1]) [r56] 46 Tryz.underlying115 z33 o33 L64 rfl rfl rfl rfl rfl rfl rfl rfl rfl rfl (fun v65 s65 p65 A65 => ?_)
    refine zdone (L' := [4, 3, 2, 1, 0]) (D' := [7, 5, 6]) zd60 rfl rfl rfl (fun zd67 => ?_)
    have ce69 := ((((ce31.st p39 rfl rfl).st p42 rfl rfl).st p57 rfl rfl).st p65 rfl rfl)
    refine zstep 8 [some 38] tb42 zd67 (pq_cons (lc_q ce69 Tryz.underlying115 rfl rfl rfl rfl rfl rfl rfl rfl) rfl (pq_cons (fa_q fa117_5 rfl rfl rfl rfl rfl rfl) rfl (pq_cons (pu_q rfl rfl rfl rfl rfl rfl) rfl (pq_cons (pu_q rfl rfl rfl rfl rfl rfl) rfl (pq_cons (pu_q rfl rfl rfl rfl rfl rfl) rfl pq_nil))))) (by kernel_rfl) rfl (fun l68 e68 zd68 => ?_)
    have A70 := ((((A28_0.st p39 rfl).st p42 rfl).st p57 rfl).st p65 rfl)
    have ce71 := ((((ce31.st p39 rfl rfl).st p42 rfl rfl).st p57 rfl rfl).st p65 rfl rfl)
    obtain ⟨s72, hw72, p72, A72, H72, ce72⟩ := take_ 48 (lg_iso (fun x : Track => (x.Xid, x.Begun, x.Ended, x.All, x.Reads, x.Writes, x.In, x.Out)) (fun x => x.Writes) (fun x y => (Track.mk x.Xid x.Begun x.Ended x.All x.Reads y x.In x.Out)) (lg_right (lg_right (lg_right (lg_right (lg_right (lg_left lg_id)))))) (fun _ => rfl) (fun _ _ => rfl)) A70 h0_31 h1_31 ia31 ce71 rfl rfl rfl rfl
    rw [hw72]
    have A75 := (A65.st p72 rfl)
    refine apO sl115 A72 A75 rfl rfl rfl rfl rfl rfl rfl rfl rfl (fun v76 s76 p76 A76 => ?_)
    refine zdone (L' := [0]) (D' := [1, 2, 3, 4, 8, 7, 5, 6]) zd68 rfl rfl rfl (fun zd78 => ?_)
    refine zfin [9, 10, 11] tb42 zd78 (pq_cons (pu_q rfl rfl rfl rfl rfl rfl) rfl pq_nil) (by kernel_rfl) (by decide) ?_
    refine pu rfl rfl rfl rfl rfl ?_
    refine fa fa117_5 rfl rfl rfl rfl rfl rfl ?_
    have A79 := (H72.st p76 rfl)
    refine soh (x' := ((at_ r28 r7).Writes ++ [r56])) A79 ia31 A76 rfl rfl z115 rfl rfl rfl rfl rfl (oc A76.rd.one) (fun s80 p80 A80 => ?_)
    refine nb (fun y82 h82 => ?_)
    have A82 : OwF (Kd.sl 117 kd117) s80 [v28_0] y82 44 := by rw [h82]; exact A80
    refine dn ?_
    have A83 := (BlF.st (BlF.st (BlF.st (BlF.st (BlF.st (BlF.st (BlF.st A37 p39 rfl) p42 rfl) p57 rfl) p65 rfl) p72 rfl) p76 rfl) p80 rfl)
    have K84 := (((((K54.st p57 rfl).st p65 rfl).st p72 rfl).st p76 rfl).st p80 rfl)
    exact Kj40 _ _ _ ⟨s80, _, rfl, (ue (ue (ue (ue rfl rfl) rfl) rfl) rfl), K84, A82, A83⟩
   ·
    refine sk ?_
    have A85 := (A28_0.st p39 rfl)
    have A86 := (BlF.st A37 p39 rfl)
    have K87 := (K35.st p39 rfl)
    exact Kj40 _ _ _ ⟨s39, _, rfl, (ue (ue (ue (ue rfl rfl) rfl) rfl) rfl), K87, A85, A86⟩
  rintro y40 _ _ ⟨s88, _, rfl, rfl, Ky40, Ay40_0, By40_b3⟩
  refine sq ?_
  refine sr ?_
  refine pu rfl rfl rfl rfl rfl ?_
  refine pu rfl rfl rfl rfl rfl ?_
  refine fa fa117_5 rfl rfl rfl rfl rfl rfl ?_
  refine mg fun hg91 => ?_
  have h1_92 : r7 < (y40.length : Int) := by simpa using hg91
  obtain ⟨es92, he92, ce92⟩ := ix_re Ay40_0.rd rfl h0_31 h1_92 ia31
  have h0_92 := h0_31
  have ia92 := ia31
  obtain ⟨v92_0, v92_1, rfl, A92_0, A92_1⟩ := op117 he92
  refine lc ce92 Tryz.underlying115 rfl rfl rfl rfl rfl rfl rfl rfl ?_
  refine ln A92_1 Tryz.underlying115 rfl rfl rfl rfl rfl rfl ?_
  refine pu rfl rfl rfl rfl rfl ?_
  refine dn ?_
  refine cd rfl (fun h96 => ?_) (fun h96 => ?_)
  ·
   refine sr ?_
   refine pu rfl rfl rfl rfl rfl ?_
   refine pu rfl rfl rfl rfl rfl ?_
   refine dn ?_
   exact re rfl Tryz.func15 rfl (r_t rfl (r_t rfl r_nil)) rfl ⟨_, rfl, (.slice none 0 0), rfl, (ow_nil 117 kd117 s88 40).fo Ky40 rfl z.l, z.ky Ky40⟩
  ·
   refine sk ?_
   refine sr ?_
   refine mv v28_0 rfl rfl rfl rfl rfl rfl ?_
   refine mv v28_0 rfl rfl rfl rfl rfl rfl ?_
   refine pu rfl rfl rfl rfl rfl ?_
   refine mkf (fs := []) (cs := [(.pointer (some ⟨b3, 0, none⟩))]) rfl rfl rfl rfl rfl rfl rfl ?_
   obtain ⟨os97, ho97, hn97, hc97⟩ := Ay40_0
   have A98 := (A2_1.kp Ky40)
   refine cl rfl rfl rfl rfl rfl Tryz.func82 rfl rfl rfl (fun r97 m97 => impl_meet.calls y40 r7 (fun x0 => impl_EdgeWrite_2.f x0 a2) impl_EdgeWrite_3.f s88.w (fun b => memb [] (s88.g b) = true) v28_0 (.func (.func 83) (List.toArray []) (List.toArray [(.pointer (some ⟨b3, 0, none⟩))])) (.func (.func 85) #[] #[]) os97 ho97 hn97 (apart_of hc97 rfl) (fun x0 u0_0 u0_1 w' k h0 h1 r m =>  ⟨83, _, _, [], [(.pointer (some ⟨b3, 0, none⟩))], rfl, Tryz.func83, rfl, rfl, (impl_EdgeWrite_2.calls x0 a2 w' (fun _ => True) u0_0 u0_1 b3 w2_0 w2_1 h0 h1 (fl_rd A2_0) (RdF.kyo A98 hc97 k rfl) (BlF.kyo By40_b3 hc97 k rfl) trivial r m).mono fun en w2 hq => by obtain ⟨v, e, q⟩ := hq; exact ⟨v, e, q⟩⟩) rfl (fun l x0 x1 u d0 d1 os1 w1 k1 b1 n1 e0 g0 l0 e1 g1 l1 r m => ⟨85, _, _, [], [], rfl, Tryz.func85, rfl, rfl, (impl_EdgeWrite_3.calls l x0 x1 w1 (fun _ => False) u d0 d1 os1 b1 n1 (fun _ h => h.elim) e0 g0 l0 e1 g1 l1 r m).mono fun en w2 hq => by obtain ⟨v, e, q⟩ := hq; exact ⟨v, e, q⟩⟩) rfl r97 m97) ?_
   rintro r97 _ w97 m97 ⟨rfl, w97_, ky97⟩
   obtain ⟨s99, rfl, p99, A99⟩ := nwo 49 hc97 ky97 w97_
   refine asg v28_0 rfl rfl rfl rfl rfl rfl ?_
   refine pu rfl rfl rfl rfl rfl ?_
   refine dn ?_
   have K101 := (Ky40.st p99 rfl)
   exact re rfl Tryz.func15 rfl (r_t rfl (r_t rfl r_nil)) rfl ⟨_, rfl, v28_0, rfl, A99.fo K101 rfl z.l, z.ky K101⟩
noncomputable def laws_sameFloat.f (a0 : Nat) (a1 : Nat) : Option (Bool) :=
 (if ((fcmp .f64 a0 a0 != some .eq) || (fcmp .f64 a1 a1 != some .eq)) = true then (some ((fcmp .f64 a0 a0 != some .eq) && (fcmp .f64 a1 a1 != some .eq))) else (if ((fcmp .f64 a0 (0 : Nat) == some .eq) && (fcmp .f64 a1 (0 : Nat) == some .eq)) = true then (some ((fcmp .f64 (far .quo (4607182418800017408 : Nat) a0) (0 : Nat) == some .gt) == (fcmp .f64 (far .quo (4607182418800017408 : Nat) a1) (0 : Nat) == some .gt))) else (some (fcmp .f64 a0 a1 == some .eq))))
def laws_sameFloat.Q (w : World) (F : Nat → Prop) (r : Bool) (v : Value) (w' : World) : Prop :=
 v = (.bool r) ∧ Ky [] w w'
set_option maxHeartbeats 4000000 in
set_option maxRecDepth 100000 in
theorem laws_sameFloat.calls (a0 : Nat) (a1 : Nat) (w : World) (F : Nat → Prop) (w0_0 : Value) (w1_0 : Value) (h0_0 : Kd.flt.rd w [w0_0] a0 F) (h1_0 : Kd.flt.rd w [w1_0] a1 F) (r : Bool) (m : laws_sameFloat.f a0 a1 = some r) :
  Calls Tryz.prog 87 #[w0_0, w1_0] w fun en w' => ∃ v, en = .returned v ∧ laws_sameFloat.Q w F r v w' := by
 obtain ⟨s0, rfl, kp0, z⟩ := start0 w F
 have A0_0 := fl_of h0_0
 have A1_0 := fl_of h1_0
 refine calls_of_TM (args := [w0_0, w1_0]) (R := fun r en w' => ∃ v, en = .returned v ∧ laws_sameFloat.Q s0.w F r v w') Tryz.func87 Tryz.ntmps87 rfl rfl m ?_
 unfold laws_sameFloat.f
 refine sr ?_
 refine pu rfl rfl rfl rfl rfl ?_
 refine dn ?_
 refine sq ?_
 refine sr ?_
 refine mv w0_0 rfl rfl rfl rfl rfl rfl ?_
 refine mv w0_0 rfl rfl rfl rfl rfl rfl ?_
 refine fq_ A0_0 A0_0 rfl rfl rfl rfl rfl rfl rfl rfl ?_
 refine pu rfl rfl rfl rfl rfl ?_
 refine jy [8, 9, 10, 11, 12] [] 12 (.bool ((fcmp .f64 a0 a0 != some .eq) || (fcmp .f64 a1 a1 != some .eq))) rfl (fun Kg1 => ?_) (fun j1 => ?_)
 ·
  rcases Bool.eq_false_or_eq_true (fcmp .f64 a0 a0 != some .eq) with hb1 | hb1
  ·
   refine sbT hb1 ?_
   refine uw rfl rfl rfl rfl ?_
   refine uw rfl rfl rfl rfl ?_
   refine uw rfl rfl rfl rfl ?_
   refine pu rfl rfl rfl rfl rfl ?_
   exact Kg1 _ (Ag.put ((Ag.put ((Ag.put ((Ag.put (Ag.base rfl) rfl)) rfl)) rfl)) rfl) (by rw [hb1]; rfl)
  ·
   refine sbT hb1 ?_
   refine mv w1_0 rfl rfl rfl rfl rfl rfl ?_
   refine mv w1_0 rfl rfl rfl rfl rfl rfl ?_
   refine fq_ A1_0 A1_0 rfl rfl rfl rfl rfl rfl rfl rfl ?_
   refine pu rfl rfl rfl rfl rfl ?_
   exact Kg1 _ (Ag.put ((Ag.put ((Ag.put ((Ag.put (Ag.base rfl) rfl)) rfl)) rfl)) rfl) (by rw [hb1]; rfl)
 refine dn ?_
 refine cd rfl (fun h2 => ?_) (fun h2 => ?_)
 ·
  refine sr ?_
  refine mv w0_0 rfl rfl rfl rfl rfl rfl ?_
  refine mv w0_0 rfl rfl rfl rfl rfl rfl ?_
  refine fq_ A0_0 A0_0 rfl rfl rfl rfl rfl rfl rfl rfl ?_
  refine pu rfl rfl rfl rfl rfl ?_
  refine jy [16, 17, 18, 19, 20] [8] 20 (.bool ((fcmp .f64 a0 a0 != some .eq) && (fcmp .f64 a1 a1 != some .eq))) rfl (fun Kg3 => ?_) (fun j3 => ?_)
  ·
   rcases Bool.eq_false_or_eq_true (fcmp .f64 a0 a0 != some .eq) with hb3 | hb3
   ·
    refine sbT hb3 ?_
    refine mv w1_0 rfl rfl rfl rfl rfl rfl ?_
    refine mv w1_0 rfl rfl rfl rfl rfl rfl ?_
    refine fq_ A1_0 A1_0 rfl rfl rfl rfl rfl rfl rfl rfl ?_
    refine pu rfl rfl rfl rfl rfl ?_
    exact Kg3 _ (Ag.put ((Ag.put ((Ag.put ((Ag.put (Ag.base rfl) rfl)) rfl)) rfl)) rfl) (by rw [hb3]; rfl)
   ·
    refine sbT hb3 ?_
    refine uw rfl rfl rfl rfl ?_
    refine uw rfl rfl rfl rfl ?_
    refine uw rfl rfl rfl rfl ?_
    refine pu rfl rfl rfl rfl rfl ?_
    exact Kg3 _ (Ag.put ((Ag.put ((Ag.put ((Ag.put (Ag.base rfl) rfl)) rfl)) rfl)) rfl) (by rw [hb3]; rfl)
  refine pu rfl rfl rfl rfl rfl ?_
  refine dn ?_
  exact re rfl Tryz.func87 rfl (r_t rfl r_nil) rfl ⟨_, rfl, rfl, z.ky kp0⟩
 ·
  refine sk ?_
  refine sq ?_
  refine sr ?_
  refine mv w0_0 rfl rfl rfl rfl rfl rfl ?_
  refine fq_ A0_0 (fl_c rfl) rfl rfl rfl rfl rfl rfl rfl rfl ?_
  refine pu rfl rfl rfl rfl rfl ?_
  refine jy [23, 24, 25, 26] [] 26 (.bool ((fcmp .f64 a0 (0 : Nat) == some .eq) && (fcmp .f64 a1 (0 : Nat) == some .eq))) rfl (fun Kg4 => ?_) (fun j4 => ?_)
  ·
   rcases Bool.eq_false_or_eq_true (fcmp .f64 a0 (0 : Nat) == some .eq) with hb4 | hb4
   ·
    refine sbT hb4 ?_
    refine mv w1_0 rfl rfl rfl rfl rfl rfl ?_
    refine fq_ A1_0 (fl_c rfl) rfl rfl rfl rfl rfl rfl rfl rfl ?_
    refine pu rfl rfl rfl rfl rfl ?_
    exact Kg4 _ (Ag.put ((Ag.put ((Ag.put (Ag.base rfl) rfl)) rfl)) rfl) (by rw [hb4]; rfl)
   ·
    refine sbT hb4 ?_
    refine uw rfl rfl rfl rfl ?_
    refine uw rfl rfl rfl rfl ?_
    refine pu rfl rfl rfl rfl rfl ?_
    exact Kg4 _ (Ag.put ((Ag.put ((Ag.put (Ag.base rfl) rfl)) rfl)) rfl) (by rw [hb4]; rfl)
  refine dn ?_
  refine cd rfl (fun h5 => ?_) (fun h5 => ?_)
  ·
   refine sr ?_
   refine mv w0_0 rfl rfl rfl rfl rfl rfl ?_
   refine fa_ (fl_c rfl) A0_0 (by simp) rfl rfl rfl rfl rfl rfl rfl (fun v6 s6 p6 A6 => ?_)
   refine fq_ A6 (fl_c rfl) rfl rfl rfl rfl rfl rfl rfl rfl ?_
   refine mv w1_0 rfl rfl rfl rfl rfl rfl ?_
   refine fa_ (fl_c rfl) A1_0 (by simp) rfl rfl rfl rfl rfl rfl rfl (fun v7 s7 p7 A7 => ?_)
   refine fq_ A7 (fl_c rfl) rfl rfl rfl rfl rfl rfl rfl rfl ?_
   refine beq_ Tryz.underlying4 rfl rfl rfl rfl rfl rfl rfl ?_
   refine pu rfl rfl rfl rfl rfl ?_
   refine dn ?_
   have K8 := ((kp0.st p6 rfl).st p7 rfl)
   exact re rfl Tryz.func87 rfl (r_t rfl r_nil) rfl ⟨_, rfl, rfl, z.ky K8⟩
  ·
   refine sk ?_
   refine sr ?_
   refine mv w0_0 rfl rfl rfl rfl rfl rfl ?_
   refine mv w1_0 rfl rfl rfl rfl rfl rfl ?_
   refine fq_ A0_0 A1_0 rfl rfl rfl rfl rfl rfl rfl rfl ?_
   refine pu rfl rfl rfl rfl rfl ?_
   refine dn ?_
   exact re rfl Tryz.func87 rfl (r_t rfl r_nil) rfl ⟨_, rfl, rfl, z.ky kp0⟩
noncomputable def laws_eqByteS.b0 (a0 : (List Int)) (a1 : (List Int)) (x4 : Int) : Option (Int ⊕ Bool) :=
 (if (decide (x4 < (a0.length : Int))) = true then (if 0 ≤ x4 ∧ x4 < (a0.length : Int) then (if 0 ≤ x4 ∧ x4 < (a1.length : Int) then (if ((at_ a0 x4) != (at_ a1 x4)) = true then (some (Sum.inr false)) else (some (Sum.inl (IntKind.wrap .i64 (x4 + (1 : Int)))))) else none) else none) else ((some true).bind fun o => some (Sum.inr o)))
noncomputable def laws_eqByteS.f (a0 : (List Int)) (a1 : (List Int)) : Option (Bool) :=
 (if ((a0.length : Int) != (a1.length : Int)) = true then (some false) else (iter (laws_eqByteS.b0 a0 a1) (0 : Int)))
def laws_eqByteS.Q (w : World) (F : Nat → Prop) (r : Bool) (v : Value) (w' : World) : Prop :=
 v = (.bool r) ∧ Ky [] w w'
set_option maxHeartbeats 4000000 in
set_option maxRecDepth 100000 in
theorem laws_eqByteS.calls (a0 : (List Int)) (a1 : (List Int)) (w : World) (F : Nat → Prop) (w0_0 : Value) (w1_0 : Value) (h0_0 : (Kd.sl 5 (Kd.int .u8)).rd w [w0_0] a0 F) (h1_0 : (Kd.sl 5 (Kd.int .u8)).rd w [w1_0] a1 F) (r : Bool) (m : laws_eqByteS.f a0 a1 = some r) :
  Calls Tryz.prog 88 #[w0_0, w1_0] w fun en w' => ∃ v, en = .returned v ∧ laws_eqByteS.Q w F r v w' := by
 obtain ⟨s0, rfl, kp0, z⟩ := start0 w F
 have A0_0 := z.rd h0_0
 have A1_0 := z.rd h1_0
 refine calls_of_TM (args := [w0_0, w1_0]) (R := fun r en w' => ∃ v, en = .returned v ∧ laws_eqByteS.Q s0.w F r v w') Tryz.func88 Tryz.ntmps88 rfl rfl m ?_
 unfold laws_eqByteS.f
 refine sr ?_
 refine pu rfl rfl rfl rfl rfl ?_
 refine dn ?_
 refine sq ?_
 refine sr ?_
 refine mv w0_0 rfl rfl rfl rfl rfl rfl ?_
 refine ln A0_0 Tryz.underlying24 rfl rfl rfl rfl rfl rfl ?_
 refine mv w1_0 rfl rfl rfl rfl rfl rfl ?_
 refine ln A1_0 Tryz.underlying24 rfl rfl rfl rfl rfl rfl ?_
 refine pu rfl rfl rfl rfl rfl ?_
 refine dn ?_
 refine cd rfl (fun h3 => ?_) (fun h3 => ?_)
 ·
  refine sr ?_
  refine pu rfl rfl rfl rfl rfl ?_
  refine dn ?_
  exact re rfl Tryz.func88 rfl (r_t rfl r_nil) rfl ⟨_, rfl, rfl, z.ky kp0⟩
 ·
  refine sk ?_
  refine sq ?_
  refine sr ?_
  refine pu rfl rfl rfl rfl rfl ?_
  refine dn ?_
  refine bl ?_
  refine lpI (fun (x4 : Int) (e : Env) (w : World) => ∃ (s : St) (e0 : Env), w = s.w ∧ e = upd (upd (upd e0 0 w0_0) 1 w1_0) 5 (.int .i64 x4) ∧ Kp s0 s) ⟨s0, _, rfl, (ue (ue (ue rfl rfl) rfl) rfl), kp0⟩ (fun g4 ih4 => ?_)
  rintro x4 _ _ ⟨s5, _, rfl, rfl, Kx4⟩
  unfold laws_eqByteS.b0
  refine sq ?_
  refine sr ?_
  refine pu rfl rfl rfl rfl rfl ?_
  refine mv w0_0 rfl rfl rfl rfl rfl rfl ?_
  have A6 := (A0_0.kp Kx4)
  refine ln A6 Tryz.underlying24 rfl rfl rfl rfl rfl rfl ?_
  refine pu rfl rfl rfl rfl rfl ?_
  refine dn ?_
  refine cd rfl (fun h7 => ?_) (fun h7 => ?_)
  ·
   refine sk ?_
   refine sq ?_
   refine bl ?_
   refine sq ?_
   refine zdraw [[], [], [0, 1], [2], [], [], [4, 5], [6], [3, 7]] [some 17, some 18, some 19, some 20, some 21, some 22, some 23, some 24, some 25] [[0], [5], [17, 18], [19], [1], [5], [21, 22], [23], [20, 24]] [0, 1, 2, 3, 4, 5, 6, 7, 8] ⟨by kernel_rfl, by kernel_rfl, by kernel_rfl⟩ (by kernel_rfl) (fun s8 p8 l8 tb8 zd8 => ?_)
   have zd9 := zd8.add 0 17 w0_0 rfl
   have zd10 := zd9.add 1 18 (.int .i64 x4) rfl
   have K11 := (Kx4.st p8 rfl)
   have A12 := (A0_0.kp K11)
   refine mg fun hg13 => ?_
   obtain ⟨ad13, es13, he13, ce13, ia13⟩ := ix_e A12 rfl hg13.1 hg13.2
   have h0_13 := hg13.1
   have h1_13 := hg13.2
   obtain rfl := he13
   have zd15 := zd10.add 2 19 (.pointer (some ad13)) rfl
   have zd16 := zd15.add 3 20 (.int .u8 (at_ a0 x4)) rfl
   have zd17 := zd16.add 4 21 w1_0 rfl
   have zd18 := zd17.add 5 22 (.int .i64 x4) rfl
   have A19 := (A1_0.kp K11)
   refine mg fun hg20 => ?_
   obtain ⟨ad20, es20, he20, ce20, ia20⟩ := ix_e A19 rfl hg20.1 hg20.2
   have h0_20 := hg20.1
   have h1_20 := hg20.2
   obtain rfl := he20
   have zd22 := zd18.add 6 23 (.pointer (some ad20)) rfl
   have zd23 := zd22.add 7 24 (.int .u8 (at_ a1 x4)) rfl
   refine zfin [8] tb8 zd23 (pq_cons (lc0_q ce20 Tryz.underlying5 rfl rfl rfl rfl rfl rfl rfl rfl) rfl (pq_cons (ix_q A19 Tryz.underlying24 z5 hg20.1 hg20.2 ia20 rfl rfl rfl rfl rfl rfl rfl) rfl (pq_cons (pu_q rfl rfl rfl rfl rfl rfl) rfl (pq_cons (mv_q w1_0 rfl rfl rfl rfl rfl rfl) rfl (pq_cons (lc0_q ce13 Tryz.underlying5 rfl rfl rfl rfl rfl rfl rfl rfl) rfl (pq_cons (ix_q A12 Tryz.underlying24 z5 hg13.1 hg13.2 ia13 rfl rfl rfl rfl rfl rfl rfl) rfl (pq_cons (pu_q rfl rfl rfl rfl rfl rfl) rfl (pq_cons (mv_q w0_0 rfl rfl rfl rfl rfl rfl) rfl pq_nil)))))))) (by kernel_rfl) (by decide) ?_
   refine pu rfl rfl rfl rfl rfl ?_
   refine dn ?_
   refine cd rfl (fun h24 => ?_) (fun h24 => ?_)
   ·
    refine sr ?_
    refine pu rfl rfl rfl rfl rfl ?_
    refine dn ?_
    refine sgi ?_
    exact re rfl Tryz.func88 rfl (r_t rfl r_nil) rfl ⟨_, rfl, rfl, z.ky K11⟩
   ·
    refine sk ?_
    refine ib ?_
    refine rg ?_
    refine pu rfl rfl rfl rfl rfl ?_
    refine pu rfl rfl rfl rfl rfl ?_
    refine pu rfl rfl rfl rfl rfl ?_
    refine dn ?_
    exact lb ih4 ⟨s8, _, rfl, (ue (ue (ue rfl rfl) rfl) rfl), K11⟩
  ·
   refine xt rfl ?_
   refine sgb ?_
   refine sr ?_
   refine pu rfl rfl rfl rfl rfl ?_
   refine dn ?_
   exact re rfl Tryz.func88 rfl (r_t rfl r_nil) rfl ⟨_, rfl, rfl, z.ky Kx4⟩
noncomputable def laws_eqItem.f (a0 : Item) (a1 : Item) : Option (Bool) :=
 (if (a0.Kind != a1.Kind) = true then (some false) else (if (a0.N != a1.N) = true then (some false) else ((laws_sameFloat.f a0.F a1.F).bind fun r12 => (if (!r12) = true then (some false) else ((laws_eqByteS.f a0.T a1.T).bind fun r21 => (if (!r21) = true then (some false) else (some true)))))))
def laws_eqItem.Q (w : World) (F : Nat → Prop) (r : Bool) (v : Value) (w' : World) : Prop :=
 v = (.bool r) ∧ Ky [] w w'
set_option maxHeartbeats 4000000 in
set_option maxRecDepth 100000 in
theorem laws_eqItem.calls (a0 : Item) (a1 : Item) (w : World) (F : Nat → Prop) (w0_0 : Value) (w0_1 : Value) (w1_0 : Value) (w1_1 : Value) (h0_0 : Kd.flt.rd w [w0_0] a0.F F) (h0_1 : (Kd.sl 5 (Kd.int .u8)).rd w [w0_1] a0.T F) (h1_0 : Kd.flt.rd w [w1_0] a1.F F) (h1_1 : (Kd.sl 5 (Kd.int .u8)).rd w [w1_1] a1.T F) (r : Bool) (m : laws_eqItem.f a0 a1 = some r) :
  Calls Tryz.prog 17 #[(.agg #[(.int .i64 a0.Kind), (.int .i64 a0.N), w0_0, w0_1]), (.agg #[(.int .i64 a1.Kind), (.int .i64 a1.N), w1_0, w1_1])] w fun en w' => ∃ v, en = .returned v ∧ laws_eqItem.Q w F r v w' := by
 obtain ⟨s0, rfl, kp0, z⟩ := start0 w F
 have A0_0 := fl_of h0_0
 have A0_1 := z.rd h0_1
 have A1_0 := fl_of h1_0
 have A1_1 := z.rd h1_1
 refine calls_of_TM (args := [(.agg #[(.int .i64 a0.Kind), (.int .i64 a0.N), w0_0, w0_1]), (.agg #[(.int .i64 a1.Kind), (.int .i64 a1.N), w1_0, w1_1])]) (R := fun r en w' => ∃ v, en = .returned v ∧ laws_eqItem.Q s0.w F r v w') Tryz.func17 Tryz.ntmps17 rfl rfl m ?_
 unfold laws_eqItem.f
 refine sr ?_
 refine bx (cs := [(.int .i64 a0.Kind), (.int .i64 a0.N), w0_0, w0_1]) 40 rfl rfl rfl rfl rfl rfl (fun b3 s3 p3 B3 => ?_)
 refine bx (cs := [(.int .i64 a1.Kind), (.int .i64 a1.N), w1_0, w1_1]) 41 rfl rfl rfl rfl rfl rfl (fun b5 s5 p5 B5 => ?_)
 refine pu rfl rfl rfl rfl rfl ?_
 refine dn ?_
 refine sq ?_
 refine sr ?_
 refine fa fa33_0 rfl rfl rfl rfl rfl rfl ?_
 have A7 := (BlF.st B3 p5 rfl)
 refine ld A7 Tryz.underlying3 rfl rfl rfl rfl rfl rfl rfl rfl ?_
 refine fa fa33_0 rfl rfl rfl rfl rfl rfl ?_
 refine ld B5 Tryz.underlying3 rfl rfl rfl rfl rfl rfl rfl rfl ?_
 refine pu rfl rfl rfl rfl rfl ?_
 refine dn ?_
 refine cd rfl (fun h8 => ?_) (fun h8 => ?_)
 ·
  refine sr ?_
  refine pu rfl rfl rfl rfl rfl ?_
  refine dn ?_
  have K9 := ((kp0.st p3 rfl).st p5 rfl)
  exact re rfl Tryz.func17 rfl (r_t rfl r_nil) rfl ⟨_, rfl, rfl, z.ky K9⟩
 ·
  refine sk ?_
  refine sq ?_
  refine sr ?_
  refine fa fa33_1 rfl rfl rfl rfl rfl rfl ?_
  refine ld A7 Tryz.underlying3 rfl rfl rfl rfl rfl rfl rfl rfl ?_
  refine fa fa33_1 rfl rfl rfl rfl rfl rfl ?_
  refine ld B5 Tryz.underlying3 rfl rfl rfl rfl rfl rfl rfl rfl ?_
  refine pu rfl rfl rfl rfl rfl ?_
  refine dn ?_
  refine cd rfl (fun h10 => ?_) (fun h10 => ?_)
  ·
   refine sr ?_
   refine pu rfl rfl rfl rfl rfl ?_
   refine dn ?_
   have K11 := ((kp0.st p3 rfl).st p5 rfl)
   exact re rfl Tryz.func17 rfl (r_t rfl r_nil) rfl ⟨_, rfl, rfl, z.ky K11⟩
  ·
   refine sk ?_
   refine sq ?_
   refine sr ?_
   refine fa fa33_2 rfl rfl rfl rfl rfl rfl ?_
   refine ld A7 Tryz.underlying23 rfl rfl rfl rfl rfl rfl rfl rfl ?_
   refine fa fa33_2 rfl rfl rfl rfl rfl rfl ?_
   refine ld B5 Tryz.underlying23 rfl rfl rfl rfl rfl rfl rfl rfl ?_
   refine cl rfl rfl rfl rfl rfl Tryz.func87 rfl rfl rfl (fun r12 m12 => laws_sameFloat.calls a0.F a1.F s5.w (fun b => memb [] (s5.g b) = true) w0_0 w1_0 (fl_rdf (s := s5) A0_0) (fl_rdf (s := s5) A1_0) r12 m12) ?_
   rintro r12 _ w12 m12 ⟨rfl, ky12⟩
   obtain ⟨s13, rfl, p13, n13⟩ := nwx s5 w12 42 ky12
   refine pu rfl rfl rfl rfl rfl ?_
   refine dn ?_
   refine cd rfl (fun h14 => ?_) (fun h14 => ?_)
   ·
    refine sr ?_
    refine pu rfl rfl rfl rfl rfl ?_
    refine dn ?_
    have K15 := (((kp0.st p3 rfl).st p5 rfl).st p13 rfl)
    exact re rfl Tryz.func17 rfl (r_t rfl r_nil) rfl ⟨_, rfl, rfl, z.ky K15⟩
   ·
    refine sk ?_
    refine sq ?_
    refine sr ?_
    refine fa fa33_3 rfl rfl rfl rfl rfl rfl ?_
    have A16 := (BlF.st A7 p13 rfl)
    refine ld A16 Tryz.underlying24 rfl rfl rfl rfl rfl rfl rfl rfl ?_
    refine fa fa33_3 rfl rfl rfl rfl rfl rfl ?_
    have A17 := (BlF.st B5 p13 rfl)
    refine ld A17 Tryz.underlying24 rfl rfl rfl rfl rfl rfl rfl rfl ?_
    have K18 := (((kp0.st p3 rfl).st p5 rfl).st p13 rfl)
    have A19 := (A0_1.kp K18)
    have A20 := (A1_1.kp K18)
    refine cl rfl rfl rfl rfl rfl Tryz.func88 rfl rfl rfl (fun r21 m21 => laws_eqByteS.calls a0.T a1.T s13.w (fun b => memb [0] (s13.g b) = true) w0_1 w1_1 A19 A20 r21 m21) ?_
    rintro r21 _ w21 m21 ⟨rfl, ky21⟩
    obtain ⟨s22, rfl, p22, n22⟩ := nwx s13 w21 43 ky21
    refine pu rfl rfl rfl rfl rfl ?_
    refine dn ?_
    refine cd rfl (fun h23 => ?_) (fun h23 => ?_)
    ·
     refine sr ?_
     refine pu rfl rfl rfl rfl rfl ?_
     refine dn ?_
     have K24 := (K18.st p22 rfl)
     exact re rfl Tryz.func17 rfl (r_t rfl r_nil) rfl ⟨_, rfl, rfl, z.ky K24⟩
    ·
     refine sk ?_
     refine sr ?_
     refine pu rfl rfl rfl rfl rfl ?_
     refine dn ?_
     have K25 := (K18.st p22 rfl)
     exact re rfl Tryz.func17 rfl (r_t rfl r_nil) rfl ⟨_, rfl, rfl, z.ky K25⟩
noncomputable def laws_eqSpan.f (a0 : Span) (a1 : Span) : Option (Bool) :=
 ((laws_eqItem.f a0.From a1.From).bind fun r13 => (if (!r13) = true then (some false) else ((laws_eqItem.f a0.To a1.To).bind fun r22 => (if (!r22) = true then (some false) else (some true)))))
def laws_eqSpan.Q (w : World) (F : Nat → Prop) (r : Bool) (v : Value) (w' : World) : Prop :=
 v = (.bool r) ∧ Ky [] w w'
set_option maxHeartbeats 4000000 in
set_option maxRecDepth 100000 in
theorem laws_eqSpan.calls (a0 : Span) (a1 : Span) (w : World) (F : Nat → Prop) (w0_0 : Value) (w0_1 : Value) (w0_2 : Value) (w0_3 : Value) (w1_0 : Value) (w1_1 : Value) (w1_2 : Value) (w1_3 : Value) (h0_0 : Kd.flt.rd w [w0_0] a0.From.F F) (h0_1 : (Kd.sl 5 (Kd.int .u8)).rd w [w0_1] a0.From.T F) (h0_2 : Kd.flt.rd w [w0_2] a0.To.F F) (h0_3 : (Kd.sl 5 (Kd.int .u8)).rd w [w0_3] a0.To.T F) (h1_0 : Kd.flt.rd w [w1_0] a1.From.F F) (h1_1 : (Kd.sl 5 (Kd.int .u8)).rd w [w1_1] a1.From.T F) (h1_2 : Kd.flt.rd w [w1_2] a1.To.F F) (h1_3 : (Kd.sl 5 (Kd.int .u8)).rd w [w1_3] a1.To.T F) (r : Bool) (m : laws_eqSpan.f a0 a1 = some r) :
  Calls Tryz.prog 256 #[(.agg #[(.int .i64 a0.From.Kind), (.int .i64 a0.From.N), w0_0, w0_1, (.int .i64 a0.To.Kind), (.int .i64 a0.To.N), w0_2, w0_3]), (.agg #[(.int .i64 a1.From.Kind), (.int .i64 a1.From.N), w1_0, w1_1, (.int .i64 a1.To.Kind), (.int .i64 a1.To.N), w1_2, w1_3])] w fun en w' => ∃ v, en = .returned v ∧ laws_eqSpan.Q w F r v w' := by
 obtain ⟨s0, rfl, kp0, z⟩ := start0 w F
 have A0_0 := fl_of h0_0
 have A0_1 := z.rd h0_1
 have A0_2 := fl_of h0_2
 have A0_3 := z.rd h0_3
 have A1_0 := fl_of h1_0
 have A1_1 := z.rd h1_1
 have A1_2 := fl_of h1_2
 have A1_3 := z.rd h1_3
 refine calls_of_TM (args := [(.agg #[(.int .i64 a0.From.Kind), (.int .i64 a0.From.N), w0_0, w0_1, (.int .i64 a0.To.Kind), (.int .i64 a0.To.N), w0_2, w0_3]), (.agg #[(.int .i64 a1.From.Kind), (.int .i64 a1.From.N), w1_0, w1_1, (.int .i64 a1.To.Kind), (.int .i64 a1.To.N), w1_2, w1_3])]) (R := fun r en w' => ∃ v, en = .returned v ∧ laws_eqSpan.Q s0.w F r v w') Tryz.func256 Tryz.ntmps256 rfl rfl m ?_
 unfold laws_eqSpan.f
 refine sr ?_
 refine bx (cs := [(.int .i64 a0.From.Kind), (.int .i64 a0.From.N), w0_0, w0_1, (.int .i64 a0.To.Kind), (.int .i64 a0.To.N), w0_2, w0_3]) 40 rfl rfl rfl rfl rfl rfl (fun b5 s5 p5 B5 => ?_)
 refine bx (cs := [(.int .i64 a1.From.Kind), (.int .i64 a1.From.N), w1_0, w1_1, (.int .i64 a1.To.Kind), (.int .i64 a1.To.N), w1_2, w1_3]) 41 rfl rfl rfl rfl rfl rfl (fun b7 s7 p7 B7 => ?_)
 refine pu rfl rfl rfl rfl rfl ?_
 refine dn ?_
 refine sq ?_
 refine sr ?_
 refine fa fa200_0 rfl rfl rfl rfl rfl rfl ?_
 have A9 := (BlF.st B5 p7 rfl)
 refine lda (es := [(.int .i64 a0.From.Kind), (.int .i64 a0.From.N), w0_0, w0_1]) A9 Tryz.underlying33 z33 rfl rfl rfl rfl rfl rfl rfl rfl ?_
 refine fa fa200_0 rfl rfl rfl rfl rfl rfl ?_
 refine lda (es := [(.int .i64 a1.From.Kind), (.int .i64 a1.From.N), w1_0, w1_1]) B7 Tryz.underlying33 z33 rfl rfl rfl rfl rfl rfl rfl rfl ?_
 have K10 := ((kp0.st p5 rfl).st p7 rfl)
 have A11 := (A0_1.kp K10)
 have A12 := (A1_1.kp K10)
 refine cl rfl rfl rfl rfl rfl Tryz.func17 rfl rfl rfl (fun r13 m13 => laws_eqItem.calls a0.From a1.From s7.w (fun b => memb [0] (s7.g b) = true) w0_0 w0_1 w1_0 w1_1 ((fl_rdf (s := s7) A0_0).sub (D := [0]) rfl) A11 ((fl_rdf (s := s7) A1_0).sub (D := [0]) rfl) A12 r13 m13) ?_
 rintro r13 _ w13 m13 ⟨rfl, ky13⟩
 obtain ⟨s14, rfl, p14, n14⟩ := nwx s7 w13 42 ky13
 refine pu rfl rfl rfl rfl rfl ?_
 refine dn ?_
 refine cd rfl (fun h15 => ?_) (fun h15 => ?_)
 ·
  refine sr ?_
  refine pu rfl rfl rfl rfl rfl ?_
  refine dn ?_
  have K16 := (K10.st p14 rfl)
  exact re rfl Tryz.func256 rfl (r_t rfl r_nil) rfl ⟨_, rfl, rfl, z.ky K16⟩
 ·
  refine sk ?_
  refine sq ?_
  refine sr ?_
  refine fa fa200_1 rfl rfl rfl rfl rfl rfl ?_
  have A17 := (BlF.st A9 p14 rfl)
  refine lda (es := [(.int .i64 a0.To.Kind), (.int .i64 a0.To.N), w0_2, w0_3]) A17 Tryz.underlying33 z33 rfl rfl rfl rfl rfl rfl rfl rfl ?_
  refine fa fa200_1 rfl rfl rfl rfl rfl rfl ?_
  have A18 := (BlF.st B7 p14 rfl)
  refine lda (es := [(.int .i64 a1.To.Kind), (.int .i64 a1.To.N), w1_2, w1_3]) A18 Tryz.underlying33 z33 rfl rfl rfl rfl rfl rfl rfl rfl ?_
  have K19 := (K10.st p14 rfl)
  have A20 := (A0_3.kp K19)
  have A21 := (A1_3.kp K19)
  refine cl rfl rfl rfl rfl rfl Tryz.func17 rfl rfl rfl (fun r22 m22 => laws_eqItem.calls a0.To a1.To s14.w (fun b => memb [0] (s14.g b) = true) w0_2 w0_3 w1_2 w1_3 ((fl_rdf (s := s14) A0_2).sub (D := [0]) rfl) A20 ((fl_rdf (s := s14) A1_2).sub (D := [0]) rfl) A21 r22 m22) ?_
  rintro r22 _ w22 m22 ⟨rfl, ky22⟩
  obtain ⟨s23, rfl, p23, n23⟩ := nwx s14 w22 43 ky22
  refine pu rfl rfl rfl rfl rfl ?_
  refine dn ?_
  refine cd rfl (fun h24 => ?_) (fun h24 => ?_)
  ·
   refine sr ?_
   refine pu rfl rfl rfl rfl rfl ?_
   refine dn ?_
   have K25 := (K19.st p23 rfl)
   exact re rfl Tryz.func256 rfl (r_t rfl r_nil) rfl ⟨_, rfl, rfl, z.ky K25⟩
  ·
   refine sk ?_
   refine sr ?_
   refine pu rfl rfl rfl rfl rfl ?_
   refine dn ?_
   have K26 := (K19.st p23 rfl)
   exact re rfl Tryz.func256 rfl (r_t rfl r_nil) rfl ⟨_, rfl, rfl, z.ky K26⟩
noncomputable def laws_eqSpanS.b0 (a0 : (List Span)) (a1 : (List Span)) (x4 : Int) : Option (Int ⊕ Bool) :=
 (if (decide (x4 < (a0.length : Int))) = true then (if 0 ≤ x4 ∧ x4 < (a0.length : Int) then (if 0 ≤ x4 ∧ x4 < (a1.length : Int) then ((laws_eqSpan.f (Span.mk ((at_ a0 x4).From) ((at_ a0 x4).To)) (Span.mk ((at_ a1 x4).From) ((at_ a1 x4).To))).bind fun r28 => (if (!r28) = true then (some (Sum.inr false)) else (some (Sum.inl (IntKind.wrap .i64 (x4 + (1 : Int))))))) else none) else none) else ((some true).bind fun o => some (Sum.inr o)))
noncomputable def laws_eqSpanS.f (a0 : (List Span)) (a1 : (List Span)) : Option (Bool) :=
 (if ((a0.length : Int) != (a1.length : Int)) = true then (some false) else (iter (laws_eqSpanS.b0 a0 a1) (0 : Int)))
def laws_eqSpanS.Q (w : World) (F : Nat → Prop) (r : Bool) (v : Value) (w' : World) : Prop :=
 v = (.bool r) ∧ Ky [] w w'
set_option maxHeartbeats 4000000 in
set_option maxRecDepth 100000 in
theorem laws_eqSpanS.calls (a0 : (List Span)) (a1 : (List Span)) (w : World) (F : Nat → Prop) (w0_0 : Value) (w1_0 : Value) (h0_0 : (Kd.sl 200 kd200).rd w [w0_0] a0 F) (h1_0 : (Kd.sl 200 kd200).rd w [w1_0] a1 F) (r : Bool) (m : laws_eqSpanS.f a0 a1 = some r) :
  Calls Tryz.prog 179 #[w0_0, w1_0] w fun en w' => ∃ v, en = .returned v ∧ laws_eqSpanS.Q w F r v w' := by
 obtain ⟨s0, rfl, kp0, z⟩ := start0 w F
 have A0_0 := z.rd h0_0
 have A1_0 := z.rd h1_0
 refine calls_of_TM (args := [w0_0, w1_0]) (R := fun r en w' => ∃ v, en = .returned v ∧ laws_eqSpanS.Q s0.w F r v w') Tryz.func179 Tryz.ntmps179 rfl rfl m ?_
 unfold laws_eqSpanS.f
 refine sr ?_
 refine pu rfl rfl rfl rfl rfl ?_
 refine dn ?_
 refine sq ?_
 refine sr ?_
 refine mv w0_0 rfl rfl rfl rfl rfl rfl ?_
 refine ln A0_0 Tryz.underlying114 rfl rfl rfl rfl rfl rfl ?_
 refine mv w1_0 rfl rfl rfl rfl rfl rfl ?_
 refine ln A1_0 Tryz.underlying114 rfl rfl rfl rfl rfl rfl ?_
 refine pu rfl rfl rfl rfl rfl ?_
 refine dn ?_
 refine cd rfl (fun h3 => ?_) (fun h3 => ?_)
 ·
  refine sr ?_
  refine pu rfl rfl rfl rfl rfl ?_
  refine dn ?_
  exact re rfl Tryz.func179 rfl (r_t rfl r_nil) rfl ⟨_, rfl, rfl, z.ky kp0⟩
 ·
  refine sk ?_
  refine sq ?_
  refine sr ?_
  refine pu rfl rfl rfl rfl rfl ?_
  refine dn ?_
  refine bl ?_
  refine lpI (fun (x4 : Int) (e : Env) (w : World) => ∃ (s : St) (e0 : Env), w = s.w ∧ e = upd (upd (upd e0 0 w0_0) 1 w1_0) 5 (.int .i64 x4) ∧ Kp s0 s) ⟨s0, _, rfl, (ue (ue (ue rfl rfl) rfl) rfl), kp0⟩ (fun g4 ih4 => ?_)
  rintro x4 _ _ ⟨s5, _, rfl, rfl, Kx4⟩
  unfold laws_eqSpanS.b0
  refine sq ?_
  refine sr ?_
  refine pu rfl rfl rfl rfl rfl ?_
  refine mv w0_0 rfl rfl rfl rfl rfl rfl ?_
  have A6 := (A0_0.kp Kx4)
  refine ln A6 Tryz.underlying114 rfl rfl rfl rfl rfl rfl ?_
  refine pu rfl rfl rfl rfl rfl ?_
  refine dn ?_
  refine cd rfl (fun h7 => ?_) (fun h7 => ?_)
  ·
   refine sk ?_
   refine sq ?_
   refine bl ?_
   refine sq ?_
   refine zdraw [[], [], [0, 1], [2], [], [], [4, 5], [6], [3, 7], [8]] [some 17, some 18, some 19, some 20, some 21, some 22, some 23, some 24, some 25, some 26] [[0], [5], [17, 18], [19], [1], [5], [21, 22], [23], [20, 24], [25]] [0, 1, 2, 3, 4, 5, 6, 7, 8, 9] ⟨by kernel_rfl, by kernel_rfl, by kernel_rfl⟩ (by kernel_rfl) (fun s8 p8 l8 tb8 zd8 => ?_)
   have zd9 := zd8.add 0 17 w0_0 rfl
   have zd10 := zd9.add 1 18 (.int .i64 x4) rfl
   have K11 := (Kx4.st p8 rfl)
   have A12 := (A0_0.kp K11)
   refine mg fun hg13 => ?_
   obtain ⟨ad13, es13, he13, ce13, ia13⟩ := ix_e A12 rfl hg13.1 hg13.2
   have h0_13 := hg13.1
   have h1_13 := hg13.2
   obtain ⟨v13_0, v13_1, v13_2, v13_3, rfl, A13_0, A13_1, A13_2, A13_3⟩ := op200 he13
   have zd17 := zd10.add 2 19 (.pointer (some ad13)) rfl
   have zd18 := zd17.add 3 20 (.agg #[(.int .i64 (((at_ a0 x4).From).Kind)), (.int .i64 (((at_ a0 x4).From).N)), v13_0, v13_1, (.int .i64 (((at_ a0 x4).To).Kind)), (.int .i64 (((at_ a0 x4).To).N)), v13_2, v13_3]) rfl
   have zd19 := zd18.add 4 21 w1_0 rfl
   have zd20 := zd19.add 5 22 (.int .i64 x4) rfl
   have A21 := (A1_0.kp K11)
   refine mg fun hg22 => ?_
   obtain ⟨ad22, es22, he22, ce22, ia22⟩ := ix_e A21 rfl hg22.1 hg22.2
   have h0_22 := hg22.1
   have h1_22 := hg22.2
   obtain ⟨v22_0, v22_1, v22_2, v22_3, rfl, A22_0, A22_1, A22_2, A22_3⟩ := op200 he22
   have zd26 := zd20.add 6 23 (.pointer (some ad22)) rfl
   have zd27 := zd26.add 7 24 (.agg #[(.int .i64 (((at_ a1 x4).From).Kind)), (.int .i64 (((at_ a1 x4).From).N)), v22_0, v22_1, (.int .i64 (((at_ a1 x4).To).Kind)), (.int .i64 (((at_ a1 x4).To).N)), v22_2, v22_3]) rfl
   refine zfin [8, 9] tb8 zd27 (pq_cons (lca_q ce22 Tryz.underlying200 z200 rfl rfl rfl rfl rfl rfl rfl) rfl (pq_cons (ix_q A21 Tryz.underlying114 z200 hg22.1 hg22.2 ia22 rfl rfl rfl rfl rfl rfl rfl) rfl (pq_cons (pu_q rfl rfl rfl rfl rfl rfl) rfl (pq_cons (mv_q w1_0 rfl rfl rfl rfl rfl rfl) rfl (pq_cons (lca_q ce13 Tryz.underlying200 z200 rfl rfl rfl rfl rfl rfl rfl) rfl (pq_cons (ix_q A12 Tryz.underlying114 z200 hg13.1 hg13.2 ia13 rfl rfl rfl rfl rfl rfl rfl) rfl (pq_cons (pu_q rfl rfl rfl rfl rfl rfl) rfl (pq_cons (mv_q w0_0 rfl rfl rfl rfl rfl rfl) rfl pq_nil)))))))) (by kernel_rfl) (by decide) ?_
   refine cl rfl rfl rfl rfl rfl Tryz.func256 rfl rfl rfl (fun r28 m28 => laws_eqSpan.calls (Span.mk ((at_ a0 x4).From) ((at_ a0 x4).To)) (Span.mk ((at_ a1 x4).From) ((at_ a1 x4).To)) s8.w (fun b => memb [0] (s8.g b) = true) v13_0 v13_1 v13_2 v13_3 v22_0 v22_1 v22_2 v22_3 ((fl_rdf (s := s8) A13_0).sub (D := [0]) rfl) A13_1 ((fl_rdf (s := s8) A13_2).sub (D := [0]) rfl) A13_3 ((fl_rdf (s := s8) A22_0).sub (D := [0]) rfl) A22_1 ((fl_rdf (s := s8) A22_2).sub (D := [0]) rfl) A22_3 r28 m28) ?_
   rintro r28 _ w28 m28 ⟨rfl, ky28⟩
   obtain ⟨s29, rfl, p29, n29⟩ := nwx s8 w28 40 ky28
   refine pu rfl rfl rfl rfl rfl ?_
   refine dn ?_
   refine cd rfl (fun h30 => ?_) (fun h30 => ?_)
   ·
    refine sr ?_
    refine pu rfl rfl rfl rfl rfl ?_
    refine dn ?_
    refine sgi ?_
    have K31 := (K11.st p29 rfl)
    exact re rfl Tryz.func179 rfl (r_t rfl r_nil) rfl ⟨_, rfl, rfl, z.ky K31⟩
   ·
    refine sk ?_
    refine ib ?_
    refine rg ?_
    refine pu rfl rfl rfl rfl rfl ?_
    refine pu rfl rfl rfl rfl rfl ?_
    refine pu rfl rfl rfl rfl rfl ?_
    refine dn ?_
    have K32 := (K11.st p29 rfl)
    exact lb ih4 ⟨s29, _, rfl, (ue (ue (ue rfl rfl) rfl) rfl), K32⟩
  ·
   refine xt rfl ?_
   refine sgb ?_
   refine sr ?_
   refine pu rfl rfl rfl rfl rfl ?_
   refine dn ?_
   exact re rfl Tryz.func179 rfl (r_t rfl r_nil) rfl ⟨_, rfl, rfl, z.ky Kx4⟩
noncomputable def laws_eqItemS.b0 (a0 : (List Item)) (a1 : (List Item)) (x4 : Int) : Option (Int ⊕ Bool) :=
 (if (decide (x4 < (a0.length : Int))) = true then (if 0 ≤ x4 ∧ x4 < (a0.length : Int) then (if 0 ≤ x4 ∧ x4 < (a1.length : Int) then ((laws_eqItem.f (at_ a0 x4) (at_ a1 x4)).bind fun r26 => (if (!r26) = true then (some (Sum.inr false)) else (some (Sum.inl (IntKind.wrap .i64 (x4 + (1 : Int))))))) else none) else none) else ((some true).bind fun o => some (Sum.inr o)))
noncomputable def laws_eqItemS.f (a0 : (List Item)) (a1 : (List Item)) : Option (Bool) :=
 (if ((a0.length : Int) != (a1.length : Int)) = true then (some false) else (iter (laws_eqItemS.b0 a0 a1) (0 : Int)))
def laws_eqItemS.Q (w : World) (F : Nat → Prop) (r : Bool) (v : Value) (w' : World) : Prop :=
 v = (.bool r) ∧ Ky [] w w'
set_option maxHeartbeats 4000000 in
set_option maxRecDepth 100000 in
theorem laws_eqItemS.calls (a0 : (List Item)) (a1 : (List Item)) (w : World) (F : Nat → Prop) (w0_0 : Value) (w1_0 : Value) (h0_0 : (Kd.sl 33 kd33).rd w [w0_0] a0 F) (h1_0 : (Kd.sl 33 kd33).rd w [w1_0] a1 F) (r : Bool) (m : laws_eqItemS.f a0 a1 = some r) :
  Calls Tryz.prog 180 #[w0_0, w1_0] w fun en w' => ∃ v, en = .returned v ∧ laws_eqItemS.Q w F r v w' := by
 obtain ⟨s0, rfl, kp0, z⟩ := start0 w F
 have A0_0 := z.rd h0_0
 have A1_0 := z.rd h1_0
 refine calls_of_TM (args := [w0_0, w1_0]) (R := fun r en w' => ∃ v, en = .returned v ∧ laws_eqItemS.Q s0.w F r v w') Tryz.func180 Tryz.ntmps180 rfl rfl m ?_
 unfold laws_eqItemS.f
 refine sr ?_
 refine pu rfl rfl rfl rfl rfl ?_
 refine dn ?_
 refine sq ?_
 refine sr ?_
 refine mv w0_0 rfl rfl rfl rfl rfl rfl ?_
 refine ln A0_0 Tryz.underlying115 rfl rfl rfl rfl rfl rfl ?_
 refine mv w1_0 rfl rfl rfl rfl rfl rfl ?_
 refine ln A1_0 Tryz.underlying115 rfl rfl rfl rfl rfl rfl ?_
 refine pu rfl rfl rfl rfl rfl ?_
 refine dn ?_
 refine cd rfl (fun h3 => ?_) (fun h3 => ?_)
 ·
  refine sr ?_
  refine pu rfl rfl rfl rfl rfl ?_
  refine dn ?_
  exact re rfl Tryz.func180 rfl (r_t rfl r_nil) rfl ⟨_, rfl, rfl, z.ky kp0⟩
 ·
  refine sk ?_
  refine sq ?_
  refine sr ?_
  refine pu rfl rfl rfl rfl rfl ?_
  refine dn ?_
  refine bl ?_
  refine lpI (fun (x4 : Int) (e : Env) (w : World) => ∃ (s : St) (e0 : Env), w = s.w ∧ e = upd (upd (upd e0 0 w0_0) 1 w1_0) 5 (.int .i64 x4) ∧ Kp s0 s) ⟨s0, _, rfl, (ue (ue (ue rfl rfl) rfl) rfl), kp0⟩ (fun g4 ih4 => ?_)
  rintro x4 _ _ ⟨s5, _, rfl, rfl, Kx4⟩
  unfold laws_eqItemS.b0
  refine sq ?_
  refine sr ?_
  refine pu rfl rfl rfl rfl rfl ?_
  refine mv w0_0 rfl rfl rfl rfl rfl rfl ?_
  have A6 := (A0_0.kp Kx4)
  refine ln A6 Tryz.underlying115 rfl rfl rfl rfl rfl rfl ?_
  refine pu rfl rfl rfl rfl rfl ?_
  refine dn ?_
  refine cd rfl (fun h7 => ?_) (fun h7 => ?_)
  ·
   refine sk ?_
   refine sq ?_
   refine bl ?_
   refine sq ?_
   refine zdraw [[], [], [0, 1], [2], [], [], [4, 5], [6], [3, 7], [8]] [some 17, some 18, some 19, some 20, some 21, some 22, some 23, some 24, some 25, some 26] [[0], [5], [17, 18], [19], [1], [5], [21, 22], [23], [20, 24], [25]] [0, 1, 2, 3, 4, 5, 6, 7, 8, 9] ⟨by kernel_rfl, by kernel_rfl, by kernel_rfl⟩ (by kernel_rfl) (fun s8 p8 l8 tb8 zd8 => ?_)
   have zd9 := zd8.add 0 17 w0_0 rfl
   have zd10 := zd9.add 1 18 (.int .i64 x4) rfl
   have K11 := (Kx4.st p8 rfl)
   have A12 := (A0_0.kp K11)
   refine mg fun hg13 => ?_
   obtain ⟨ad13, es13, he13, ce13, ia13⟩ := ix_e A12 rfl hg13.1 hg13.2
   have h0_13 := hg13.1
   have h1_13 := hg13.2
   obtain ⟨v13_0, v13_1, rfl, A13_0, A13_1⟩ := op33 he13
   have zd16 := zd10.add 2 19 (.pointer (some ad13)) rfl
   have zd17 := zd16.add 3 20 (.agg #[(.int .i64 ((at_ a0 x4).Kind)), (.int .i64 ((at_ a0 x4).N)), v13_0, v13_1]) rfl
   have zd18 := zd17.add 4 21 w1_0 rfl
   have zd19 := zd18.add 5 22 (.int .i64 x4) rfl
   have A20 := (A1_0.kp K11)
   refine mg fun hg21 => ?_
   obtain ⟨ad21, es21, he21, ce21, ia21⟩ := ix_e A20 rfl hg21.1 hg21.2
   have h0_21 := hg21.1
   have h1_21 := hg21.2
   obtain ⟨v21_0, v21_1, rfl, A21_0, A21_1⟩ := op33 he21
   have zd24 := zd19.add 6 23 (.pointer (some ad21)) rfl
   have zd25 := zd24.add 7 24 (.agg #[(.int .i64 ((at_ a1 x4).Kind)), (.int .i64 ((at_ a1 x4).N)), v21_0, v21_1]) rfl
   refine zfin [8, 9] tb8 zd25 (pq_cons (lca_q ce21 Tryz.underlying33 z33 rfl rfl rfl rfl rfl rfl rfl) rfl (pq_cons (ix_q A20 Tryz.underlying115 z33 hg21.1 hg21.2 ia21 rfl rfl rfl rfl rfl rfl rfl) rfl (pq_cons (pu_q rfl rfl rfl rfl rfl rfl) rfl (pq_cons (mv_q w1_0 rfl rfl rfl rfl rfl rfl) rfl (pq_cons (lca_q ce13 Tryz.underlying33 z33 rfl rfl rfl rfl rfl rfl rfl) rfl (pq_cons (ix_q A12 Tryz.underlying115 z33 hg13.1 hg13.2 ia13 rfl rfl rfl rfl rfl rfl rfl) rfl (pq_cons (pu_q rfl rfl rfl rfl rfl rfl) rfl (pq_cons (mv_q w0_0 rfl rfl rfl rfl rfl rfl) rfl pq_nil)))))))) (by kernel_rfl) (by decide) ?_
   refine cl rfl rfl rfl rfl rfl Tryz.func17 rfl rfl rfl (fun r26 m26 => laws_eqItem.calls (at_ a0 x4) (at_ a1 x4) s8.w (fun b => memb [0] (s8.g b) = true) v13_0 v13_1 v21_0 v21_1 ((fl_rdf (s := s8) A13_0).sub (D := [0]) rfl) A13_1 ((fl_rdf (s := s8) A21_0).sub (D := [0]) rfl) A21_1 r26 m26) ?_
   rintro r26 _ w26 m26 ⟨rfl, ky26⟩
   obtain ⟨s27, rfl, p27, n27⟩ := nwx s8 w26 40 ky26
   refine pu rfl rfl rfl rfl rfl ?_
   refine dn ?_
   refine cd rfl (fun h28 => ?_) (fun h28 => ?_)
   ·
    refine sr ?_
    refine pu rfl rfl rfl rfl rfl ?_
    refine dn ?_
    refine sgi ?_
    have K29 := (K11.st p27 rfl)
    exact re rfl Tryz.func180 rfl (r_t rfl r_nil) rfl ⟨_, rfl, rfl, z.ky K29⟩
   ·
    refine sk ?_
    refine ib ?_
    refine rg ?_
    refine pu rfl rfl rfl rfl rfl ?_
    refine pu rfl rfl rfl rfl rfl ?_
    refine pu rfl rfl rfl rfl rfl ?_
    refine dn ?_
    have K30 := (K11.st p27 rfl)
    exact lb ih4 ⟨s27, _, rfl, (ue (ue (ue rfl rfl) rfl) rfl), K30⟩
  ·
   refine xt rfl ?_
   refine sgb ?_
   refine sr ?_
   refine pu rfl rfl rfl rfl rfl ?_
   refine dn ?_
   exact re rfl Tryz.func180 rfl (r_t rfl r_nil) rfl ⟨_, rfl, rfl, z.ky Kx4⟩
noncomputable def laws_eqTrack.f (a0 : Track) (a1 : Track) : Option (Bool) :=
 (if (a0.Xid != a1.Xid) = true then (some false) else (if (a0.Begun != a1.Begun) = true then (some false) else (if (a0.Ended != a1.Ended) = true then (some false) else (if (!(a0.All == a1.All)) = true then (some false) else ((laws_eqSpanS.f a0.Reads a1.Reads).bind fun r21 => (if (!r21) = true then (some false) else ((laws_eqItemS.f a0.Writes a1.Writes).bind fun r30 => (if (!r30) = true then (some false) else (if (!(a0.In == a1.In)) = true then (some false) else (if (!(a0.Out == a1.Out)) = true then (some false) else (some true)))))))))))
def laws_eqTrack.Q (w : World) (F : Nat → Prop) (r : Bool) (v : Value) (w' : World) : Prop :=
 v = (.bool r) ∧ Ky [] w w'
set_option maxHeartbeats 4000000 in
set_option maxRecDepth 100000 in
theorem laws_eqTrack.calls (a0 : Track) (a1 : Track) (w : World) (F : Nat → Prop) (w0_0 : Value) (w0_1 : Value) (w1_0 : Value) (w1_1 : Value) (h0_0 : (Kd.sl 200 kd200).rd w [w0_0] a0.Reads F) (h0_1 : (Kd.sl 33 kd33).rd w [w0_1] a0.Writes F) (h1_0 : (Kd.sl 200 kd200).rd w [w1_0] a1.Reads F) (h1_1 : (Kd.sl 33 kd33).rd w [w1_1] a1.Writes F) (r : Bool) (m : laws_eqTrack.f a0 a1 = some r) :
  Calls Tryz.prog 86 #[(.agg #[(.int .i64 a0.Xid), (.int .i64 a0.Begun), (.int .i64 a0.Ended), (.bool a0.All), w0_0, w0_1, (.bool a0.In), (.bool a0.Out)]), (.agg #[(.int .i64 a1.Xid), (.int .i64 a1.Begun), (.int .i64 a1.Ended), (.bool a1.All), w1_0, w1_1, (.bool a1.In), (.bool a1.Out)])] w fun en w' => ∃ v, en = .returned v ∧ laws_eqTrack.Q w F r v w' := by
 obtain ⟨s0, rfl, kp0, z⟩ := start0 w F
 have A0_0 := z.rd h0_0
 have A0_1 := z.rd h0_1
 have A1_0 := z.rd h1_0
 have A1_1 := z.rd h1_1
 refine calls_of_TM (args := [(.agg #[(.int .i64 a0.Xid), (.int .i64 a0.Begun), (.int .i64 a0.Ended), (.bool a0.All), w0_0, w0_1, (.bool a0.In), (.bool a0.Out)]), (.agg #[(.int .i64 a1.Xid), (.int .i64 a1.Begun), (.int .i64 a1.Ended), (.bool a1.All), w1_0, w1_1, (.bool a1.In), (.bool a1.Out)])]) (R := fun r en w' => ∃ v, en = .returned v ∧ laws_eqTrack.Q s0.w F r v w') Tryz.func86 Tryz.ntmps86 rfl rfl m ?_
 unfold laws_eqTrack.f
 refine sr ?_
 refine bx (cs := [(.int .i64 a0.Xid), (.int .i64 a0.Begun), (.int .i64 a0.Ended), (.bool a0.All), w0_0, w0_1, (.bool a0.In), (.bool a0.Out)]) 40 rfl rfl rfl rfl rfl rfl (fun b5 s5 p5 B5 => ?_)
 refine bx (cs := [(.int .i64 a1.Xid), (.int .i64 a1.Begun), (.int .i64 a1.Ended), (.bool a1.All), w1_0, w1_1, (.bool a1.In), (.bool a1.Out)]) 41 rfl rfl rfl rfl rfl rfl (fun b7 s7 p7 B7 => ?_)
 refine pu rfl rfl rfl rfl rfl ?_
 refine dn ?_
 refine sq ?_
 refine sr ?_
 refine fa fa117_0 rfl rfl rfl rfl rfl rfl ?_
 have A9 := (BlF.st B5 p7 rfl)
 refine ld A9 Tryz.underlying3 rfl rfl rfl rfl rfl rfl rfl rfl ?_
 refine fa fa117_0 rfl rfl rfl rfl rfl rfl ?_
 refine ld B7 Tryz.underlying3 rfl rfl rfl rfl rfl rfl rfl rfl ?_
 refine pu rfl rfl rfl rfl rfl ?_
 refine dn ?_
 refine cd rfl (fun h10 => ?_) (fun h10 => ?_)
 ·
  refine sr ?_
  refine pu rfl rfl rfl rfl rfl ?_
  refine dn ?_
  have K11 := ((kp0.st p5 rfl).st p7 rfl)
  exact re rfl Tryz.func86 rfl (r_t rfl r_nil) rfl ⟨_, rfl, rfl, z.ky K11⟩
 ·
  refine sk ?_
  refine sq ?_
  refine sr ?_
  refine fa fa117_1 rfl rfl rfl rfl rfl rfl ?_
  refine ld A9 Tryz.underlying3 rfl rfl rfl rfl rfl rfl rfl rfl ?_
  refine fa fa117_1 rfl rfl rfl rfl rfl rfl ?_
  refine ld B7 Tryz.underlying3 rfl rfl rfl rfl rfl rfl rfl rfl ?_
  refine pu rfl rfl rfl rfl rfl ?_
  refine dn ?_
  refine cd rfl (fun h12 => ?_) (fun h12 => ?_)
  ·
   refine sr ?_
   refine pu rfl rfl rfl rfl rfl ?_
   refine dn ?_
   have K13 := ((kp0.st p5 rfl).st p7 rfl)
   exact re rfl Tryz.func86 rfl (r_t rfl r_nil) rfl ⟨_, rfl, rfl, z.ky K13⟩
  ·
   refine sk ?_
   refine sq ?_
   refine sr ?_
   refine fa fa117_2 rfl rfl rfl rfl rfl rfl ?_
   refine ld A9 Tryz.underlying3 rfl rfl rfl rfl rfl rfl rfl rfl ?_
   refine fa fa117_2 rfl rfl rfl rfl rfl rfl ?_
   refine ld B7 Tryz.underlying3 rfl rfl rfl rfl rfl rfl rfl rfl ?_
   refine pu rfl rfl rfl rfl rfl ?_
   refine dn ?_
   refine cd rfl (fun h14 => ?_) (fun h14 => ?_)
   ·
    refine sr ?_
    refine pu rfl rfl rfl rfl rfl ?_
    refine dn ?_
    have K15 := ((kp0.st p5 rfl).st p7 rfl)
    exact re rfl Tryz.func86 rfl (r_t rfl r_nil) rfl ⟨_, rfl, rfl, z.ky K15⟩
   ·
    refine sk ?_
    refine sq ?_
    refine sr ?_
    refine fa fa117_3 rfl rfl rfl rfl rfl rfl ?_
    refine ld A9 Tryz.underlying4 rfl rfl rfl rfl rfl rfl rfl rfl ?_
    refine fa fa117_3 rfl rfl rfl rfl rfl rfl ?_
    refine ld B7 Tryz.underlying4 rfl rfl rfl rfl rfl rfl rfl rfl ?_
    refine bne_ Tryz.underlying4 rfl rfl rfl rfl rfl rfl rfl ?_
    refine dn ?_
    refine cd rfl (fun h16 => ?_) (fun h16 => ?_)
    ·
     refine sr ?_
     refine pu rfl rfl rfl rfl rfl ?_
     refine dn ?_
     have K17 := ((kp0.st p5 rfl).st p7 rfl)
     exact re rfl Tryz.func86 rfl (r_t rfl r_nil) rfl ⟨_, rfl, rfl, z.ky K17⟩
    ·
     refine sk ?_
     refine sq ?_
     refine sr ?_
     refine fa fa117_4 rfl rfl rfl rfl rfl rfl ?_
     refine ld A9 Tryz.underlying114 rfl rfl rfl rfl rfl rfl rfl rfl ?_
     refine fa fa117_4 rfl rfl rfl rfl rfl rfl ?_
     refine ld B7 Tryz.underlying114 rfl rfl rfl rfl rfl rfl rfl rfl ?_
     have K18 := ((kp0.st p5 rfl).st p7 rfl)
     have A19 := (A0_0.kp K18)
     have A20 := (A1_0.kp K18)
     refine cl rfl rfl rfl rfl rfl Tryz.func179 rfl rfl rfl (fun r21 m21 => laws_eqSpanS.calls a0.Reads a1.Reads s7.w (fun b => memb [0] (s7.g b) = true) w0_0 w1_0 A19 A20 r21 m21) ?_
     rintro r21 _ w21 m21 ⟨rfl, ky21⟩
     obtain ⟨s22, rfl, p22, n22⟩ := nwx s7 w21 42 ky21
     refine pu rfl rfl rfl rfl rfl ?_
     refine dn ?_
     refine cd rfl (fun h23 => ?_) (fun h23 => ?_)
     ·
      refine sr ?_
      refine pu rfl rfl rfl rfl rfl ?_
      refine dn ?_
      have K24 := (K18.st p22 rfl)
      exact re rfl Tryz.func86 rfl (r_t rfl r_nil) rfl ⟨_, rfl, rfl, z.ky K24⟩
     ·
      refine sk ?_
      refine sq ?_
      refine sr ?_
      refine fa fa117_5 rfl rfl rfl rfl rfl rfl ?_
      have A25 := (BlF.st A9 p22 rfl)
      refine ld A25 Tryz.underlying115 rfl rfl rfl rfl rfl rfl rfl rfl ?_
      refine fa fa117_5 rfl rfl rfl rfl rfl rfl ?_
      have A26 := (BlF.st B7 p22 rfl)
      refine ld A26 Tryz.underlying115 rfl rfl rfl rfl rfl rfl rfl rfl ?_
      have K27 := (K18.st p22 rfl)
      have A28 := (A0_1.kp K27)
      have A29 := (A1_1.kp K27)
      refine cl rfl rfl rfl rfl rfl Tryz.func180 rfl rfl rfl (fun r30 m30 => laws_eqItemS.calls a0.Writes a1.Writes s22.w (fun b => memb [0] (s22.g b) = true) w0_1 w1_1 A28 A29 r30 m30) ?_
      rintro r30 _ w30 m30 ⟨rfl, ky30⟩
      obtain ⟨s31, rfl, p31, n31⟩ := nwx s22 w30 43 ky30
      refine pu rfl rfl rfl rfl rfl ?_
      refine dn ?_
      refine cd rfl (fun h32 => ?_) (fun h32 => ?_)
      ·
       refine sr ?_
       refine pu rfl rfl rfl rfl rfl ?_
       refine dn ?_
       have K33 := (K27.st p31 rfl)
       exact re rfl Tryz.func86 rfl (r_t rfl r_nil) rfl ⟨_, rfl, rfl, z.ky K33⟩
      ·
       refine sk ?_
       refine sq ?_
       refine sr ?_
       refine fa fa117_6 rfl rfl rfl rfl rfl rfl ?_
       have A34 := (BlF.st A25 p31 rfl)
       refine ld A34 Tryz.underlying4 rfl rfl rfl rfl rfl rfl rfl rfl ?_
       refine fa fa117_6 rfl rfl rfl rfl rfl rfl ?_
       have A35 := (BlF.st A26 p31 rfl)
       refine ld A35 Tryz.underlying4 rfl rfl rfl rfl rfl rfl rfl rfl ?_
       refine bne_ Tryz.underlying4 rfl rfl rfl rfl rfl rfl rfl ?_
       refine dn ?_
       refine cd rfl (fun h36 => ?_) (fun h36 => ?_)
       ·
        refine sr ?_
        refine pu rfl rfl rfl rfl rfl ?_
        refine dn ?_
        have K37 := (K27.st p31 rfl)
        exact re rfl Tryz.func86 rfl (r_t rfl r_nil) rfl ⟨_, rfl, rfl, z.ky K37⟩
       ·
        refine sk ?_
        refine sq ?_
        refine sr ?_
        refine fa fa117_7 rfl rfl rfl rfl rfl rfl ?_
        refine ld A34 Tryz.underlying4 rfl rfl rfl rfl rfl rfl rfl rfl ?_
        refine fa fa117_7 rfl rfl rfl rfl rfl rfl ?_
        refine ld A35 Tryz.underlying4 rfl rfl rfl rfl rfl rfl rfl rfl ?_
        refine bne_ Tryz.underlying4 rfl rfl rfl rfl rfl rfl rfl ?_
        refine dn ?_
        refine cd rfl (fun h38 => ?_) (fun h38 => ?_)
        ·
         refine sr ?_
         refine pu rfl rfl rfl rfl rfl ?_
         refine dn ?_
         have K39 := (K27.st p31 rfl)
         exact re rfl Tryz.func86 rfl (r_t rfl r_nil) rfl ⟨_, rfl, rfl, z.ky K39⟩
        ·
         refine sk ?_
         refine sr ?_
         refine pu rfl rfl rfl rfl rfl ?_
         refine dn ?_
         have K40 := (K27.st p31 rfl)
         exact re rfl Tryz.func86 rfl (r_t rfl r_nil) rfl ⟨_, rfl, rfl, z.ky K40⟩
noncomputable def laws_eqTrackS.b0 (a0 : (List Track)) (a1 : (List Track)) (x4 : Int) : Option (Int ⊕ Bool) :=
 (if (decide (x4 < (a0.length : Int))) = true then (if 0 ≤ x4 ∧ x4 < (a0.length : Int) then (if 0 ≤ x4 ∧ x4 < (a1.length : Int) then ((laws_eqTrack.f (at_ a0 x4) (at_ a1 x4)).bind fun r28 => (if (!r28) = true then (some (Sum.inr false)) else (some (Sum.inl (IntKind.wrap .i64 (x4 + (1 : Int))))))) else none) else none) else ((some true).bind fun o => some (Sum.inr o)))
noncomputable def laws_eqTrackS.f (a0 : (List Track)) (a1 : (List Track)) : Option (Bool) :=
 (if ((a0.length : Int) != (a1.length : Int)) = true then (some false) else (iter (laws_eqTrackS.b0 a0 a1) (0 : Int)))
def laws_eqTrackS.Q (w : World) (F : Nat → Prop) (r : Bool) (v : Value) (w' : World) : Prop :=
 v = (.bool r) ∧ Ky [] w w'
set_option maxHeartbeats 4000000 in
set_option maxRecDepth 100000 in
theorem laws_eqTrackS.calls (a0 : (List Track)) (a1 : (List Track)) (w : World) (F : Nat → Prop) (w0_0 : Value) (w1_0 : Value) (h0_0 : (Kd.sl 117 kd117).rd w [w0_0] a0 F) (h1_0 : (Kd.sl 117 kd117).rd w [w1_0] a1 F) (r : Bool) (m : laws_eqTrackS.f a0 a1 = some r) :
  Calls Tryz.prog 16 #[w0_0, w1_0] w fun en w' => ∃ v, en = .returned v ∧ laws_eqTrackS.Q w F r v w' := by
 obtain ⟨s0, rfl, kp0, z⟩ := start0 w F
 have A0_0 := z.rd h0_0
 have A1_0 := z.rd h1_0
 refine calls_of_TM (args := [w0_0, w1_0]) (R := fun r en w' => ∃ v, en = .returned v ∧ laws_eqTrackS.Q s0.w F r v w') Tryz.func16 Tryz.ntmps16 rfl rfl m ?_
 unfold laws_eqTrackS.f
 refine sr ?_
 refine pu rfl rfl rfl rfl rfl ?_
 refine dn ?_
 refine sq ?_
 refine sr ?_
 refine mv w0_0 rfl rfl rfl rfl rfl rfl ?_
 refine ln A0_0 Tryz.underlying29 rfl rfl rfl rfl rfl rfl ?_
 refine mv w1_0 rfl rfl rfl rfl rfl rfl ?_
 refine ln A1_0 Tryz.underlying29 rfl rfl rfl rfl rfl rfl ?_
 refine pu rfl rfl rfl rfl rfl ?_
 refine dn ?_
 refine cd rfl (fun h3 => ?_) (fun h3 => ?_)
 ·
  refine sr ?_
  refine pu rfl rfl rfl rfl rfl ?_
  refine dn ?_
  exact re rfl Tryz.func16 rfl (r_t rfl r_nil) rfl ⟨_, rfl, rfl, z.ky kp0⟩
 ·
  refine sk ?_
  refine sq ?_
  refine sr ?_
  refine pu rfl rfl rfl rfl rfl ?_
  refine dn ?_
  refine bl ?_
  refine lpI (fun (x4 : Int) (e : Env) (w : World) => ∃ (s : St) (e0 : Env), w = s.w ∧ e = upd (upd (upd e0 0 w0_0) 1 w1_0) 5 (.int .i64 x4) ∧ Kp s0 s) ⟨s0, _, rfl, (ue (ue (ue rfl rfl) rfl) rfl), kp0⟩ (fun g4 ih4 => ?_)
  rintro x4 _ _ ⟨s5, _, rfl, rfl, Kx4⟩
  unfold laws_eqTrackS.b0
  refine sq ?_
  refine sr ?_
  refine pu rfl rfl rfl rfl rfl ?_
  refine mv w0_0 rfl rfl rfl rfl rfl rfl ?_
  have A6 := (A0_0.kp Kx4)
  refine ln A6 Tryz.underlying29 rfl rfl rfl rfl rfl rfl ?_
  refine pu rfl rfl rfl rfl rfl ?_
  refine dn ?_
  refine cd rfl (fun h7 => ?_) (fun h7 => ?_)
  ·
   refine sk ?_
   refine sq ?_
   refine bl ?_
   refine sq ?_
   refine zdraw [[], [], [0, 1], [2], [], [], [4, 5], [6], [3, 7], [8]] [some 17, some 18, some 19, some 20, some 21, some 22, some 23, some 24, some 25, some 26] [[0], [5], [17, 18], [19], [1], [5], [21, 22], [23], [20, 24], [25]] [0, 1, 2, 3, 4, 5, 6, 7, 8, 9] ⟨by kernel_rfl, by kernel_rfl, by kernel_rfl⟩ (by kernel_rfl) (fun s8 p8 l8 tb8 zd8 => ?_)
   have zd9 := zd8.add 0 17 w0_0 rfl
   have zd10 := zd9.add 1 18 (.int .i64 x4) rfl
   have K11 := (Kx4.st p8 rfl)
   have A12 := (A0_0.kp K11)
   refine mg fun hg13 => ?_
   obtain ⟨ad13, es13, he13, ce13, ia13⟩ := ix_e A12 rfl hg13.1 hg13.2
   have h0_13 := hg13.1
   have h1_13 := hg13.2
   obtain ⟨v13_0, v13_1, rfl, A13_0, A13_1⟩ := op117 he13
   have zd17 := zd10.add 2 19 (.pointer (some ad13)) rfl
   have zd18 := zd17.add 3 20 (.agg #[(.int .i64 ((at_ a0 x4).Xid)), (.int .i64 ((at_ a0 x4).Begun)), (.int .i64 ((at_ a0 x4).Ended)), (.bool ((at_ a0 x4).All)), v13_0, v13_1, (.bool ((at_ a0 x4).In)), (.bool ((at_ a0 x4).Out))]) rfl
   have zd19 := zd18.add 4 21 w1_0 rfl
   have zd20 := zd19.add 5 22 (.int .i64 x4) rfl
   have A21 := (A1_0.kp K11)
   refine mg fun hg22 => ?_
   obtain ⟨ad22, es22, he22, ce22, ia22⟩ := ix_e A21 rfl hg22.1 hg22.2
   have h0_22 := hg22.1
   have h1_22 := hg22.2
   obtain ⟨v22_0, v22_1, rfl, A22_0, A22_1⟩ := op117 he22
   have zd26 := zd20.add 6 23 (.pointer (some ad22)) rfl
   have zd27 := zd26.add 7 24 (.agg #[(.int .i64 ((at_ a1 x4).Xid)), (.int .i64 ((at_ a1 x4).Begun)), (.int .i64 ((at_ a1 x4).Ended)), (.bool ((at_ a1 x4).All)), v22_0, v22_1, (.bool ((at_ a1 x4).In)), (.bool ((at_ a1 x4).Out))]) rfl
   refine zfin [8, 9] tb8 zd27 (pq_cons (lca_q ce22 Tryz.underlying117 z117 rfl rfl rfl rfl rfl rfl rfl) rfl (pq_cons (ix_q A21 Tryz.underlying29 z117 hg22.1 hg22.2 ia22 rfl rfl rfl rfl rfl rfl rfl) rfl (pq_cons (pu_q rfl rfl rfl rfl rfl rfl) rfl (pq_cons (mv_q w1_0 rfl rfl rfl rfl rfl rfl) rfl (pq_cons (lca_q ce13 Tryz.underlying117 z117 rfl rfl rfl rfl rfl rfl rfl) rfl (pq_cons (ix_q A12 Tryz.underlying29 z117 hg13.1 hg13.2 ia13 rfl rfl rfl rfl rfl rfl rfl) rfl (pq_cons (pu_q rfl rfl rfl rfl rfl rfl) rfl (pq_cons (mv_q w0_0 rfl rfl rfl rfl rfl rfl) rfl pq_nil)))))))) (by kernel_rfl) (by decide) ?_
   refine cl rfl rfl rfl rfl rfl Tryz.func86 rfl rfl rfl (fun r28 m28 => laws_eqTrack.calls (at_ a0 x4) (at_ a1 x4) s8.w (fun b => memb [0] (s8.g b) = true) v13_0 v13_1 v22_0 v22_1 A13_0 A13_1 A22_0 A22_1 r28 m28) ?_
   rintro r28 _ w28 m28 ⟨rfl, ky28⟩
   obtain ⟨s29, rfl, p29, n29⟩ := nwx s8 w28 40 ky28
   refine pu rfl rfl rfl rfl rfl ?_
   refine dn ?_
   refine cd rfl (fun h30 => ?_) (fun h30 => ?_)
   ·
    refine sr ?_
    refine pu rfl rfl rfl rfl rfl ?_
    refine dn ?_
    refine sgi ?_
    have K31 := (K11.st p29 rfl)
    exact re rfl Tryz.func16 rfl (r_t rfl r_nil) rfl ⟨_, rfl, rfl, z.ky K31⟩
   ·
    refine sk ?_
    refine ib ?_
    refine rg ?_
    refine pu rfl rfl rfl rfl rfl ?_
    refine pu rfl rfl rfl rfl rfl ?_
    refine pu rfl rfl rfl rfl rfl ?_
    refine dn ?_
    have K32 := (K11.st p29 rfl)
    exact lb ih4 ⟨s29, _, rfl, (ue (ue (ue rfl rfl) rfl) rfl), K32⟩
  ·
   refine xt rfl ?_
   refine sgb ?_
   refine sr ?_
   refine pu rfl rfl rfl rfl rfl ?_
   refine dn ?_
   exact re rfl Tryz.func16 rfl (r_t rfl r_nil) rfl ⟨_, rfl, rfl, z.ky Kx4⟩
noncomputable def laws_markByteS.b0  (x2 : (List Int) × Int × Int) : Option (((List Int) × Int × Int) ⊕ (Int × (List Int))) :=
 (if (decide (x2.2.2 < (x2.1.length : Int))) = true then (if 0 ≤ x2.2.2 ∧ x2.2.2 < (x2.1.length : Int) then (some (Sum.inl ((x2.1.set (x2.2.2).toNat (IntKind.wrap .u8 x2.2.1)), (IntKind.wrap .i64 (x2.2.1 + (1 : Int))), (IntKind.wrap .i64 (x2.2.2 + (1 : Int)))))) else none) else ((some (x2.2.1, x2.1)).bind fun o => some (Sum.inr o)))
noncomputable def laws_markByteS.f (a0 : (List Int)) (a1 : Int) : Option (Int × (List Int)) :=
 (iter laws_markByteS.b0 (a0, a1, (0 : Int)))
def laws_markByteS.Q (w : World) (F : Nat → Prop) (os : List Nat) (w0_0 : Value) (r : Int × (List Int)) (v : Value) (w' : World) : Prop :=
 v = (.int .i64 r.1) ∧ FW (Kd.sl 5 (Kd.int .u8)) os w w' [w0_0] r.2 ∧ Ky os w w'
set_option maxHeartbeats 4000000 in
set_option maxRecDepth 100000 in
theorem laws_markByteS.calls (a0 : (List Int)) (a1 : Int) (w : World) (F : Nat → Prop) (w0_0 : Value) (os : List Nat) (h0_0 : (Kd.sl 5 (Kd.int .u8)).ow w [w0_0] a0 os) (hn : os.Nodup) (hF : ∀ b, F b → b ∉ os) (r : Int × (List Int)) (m : laws_markByteS.f a0 a1 = some r) :
  Calls Tryz.prog 91 #[w0_0, (.int .i64 a1)] w fun en w' => ∃ v, en = .returned v ∧ laws_markByteS.Q w F os w0_0 r v w' := by
 obtain ⟨s0, rfl, kp0, z⟩ := start1 w F os hF
 have A0_0 := z.ow h0_0 hn
 refine calls_of_TM (args := [w0_0, (.int .i64 a1)]) (R := fun r en w' => ∃ v, en = .returned v ∧ laws_markByteS.Q s0.w F os w0_0 r v w') Tryz.func91 Tryz.ntmps91 rfl rfl m ?_
 unfold laws_markByteS.f
 refine sr ?_
 refine pu rfl rfl rfl rfl rfl ?_
 refine dn ?_
 refine sq ?_
 refine sr ?_
 refine pu rfl rfl rfl rfl rfl ?_
 refine dn ?_
 refine bl ?_
 refine lpI (fun (x2 : (List Int) × Int × Int) (e : Env) (w : World) => ∃ (s : St) (e0 : Env), w = s.w ∧ e = upd (upd (upd e0 0 w0_0) 1 (.int .i64 x2.2.1)) 5 (.int .i64 x2.2.2) ∧ Kp s0 s ∧ OwF (Kd.sl 5 (Kd.int .u8)) s [w0_0] x2.1 2) ⟨s0, _, rfl, (ue (ue (ue rfl rfl) rfl) rfl), kp0, A0_0⟩ (fun g2 ih2 => ?_)
 rintro x2 _ _ ⟨s3, _, rfl, rfl, Kx2, Ax2_0⟩
 unfold laws_markByteS.b0
 refine sq ?_
 refine sr ?_
 refine pu rfl rfl rfl rfl rfl ?_
 refine mv w0_0 rfl rfl rfl rfl rfl rfl ?_
 refine ln Ax2_0.rd Tryz.underlying24 rfl rfl rfl rfl rfl rfl ?_
 refine pu rfl rfl rfl rfl rfl ?_
 refine dn ?_
 refine cd rfl (fun h5 => ?_) (fun h5 => ?_)
 ·
  refine sk ?_
  refine sq ?_
  refine bl ?_
  refine sr ?_
  refine mv w0_0 rfl rfl rfl rfl rfl rfl ?_
  refine pu rfl rfl rfl rfl rfl ?_
  refine pu rfl rfl rfl rfl rfl ?_
  refine cv Tryz.underlying5 Tryz.underlying3 rfl rfl rfl rfl rfl rfl ?_
  refine ix Ax2_0.rd Tryz.underlying24 z5 rfl rfl rfl rfl rfl rfl rfl rfl (fun ad6 es6 h0_6 h1_6 he6 ce6 ia6 => ?_)
  obtain rfl := he6
  refine so (x' := (IntKind.wrap .u8 x2.2.1)) Ax2_0 ia6 h0_6 h1_6 cs_flat z5 rfl rfl rfl rfl rfl rfl (fun s8 p8 A8 => ?_)
  refine dn ?_
  refine rg ?_
  refine pu rfl rfl rfl rfl rfl ?_
  refine pu rfl rfl rfl rfl rfl ?_
  refine pu rfl rfl rfl rfl rfl ?_
  refine dn ?_
  refine ib ?_
  refine rg ?_
  refine pu rfl rfl rfl rfl rfl ?_
  refine pu rfl rfl rfl rfl rfl ?_
  refine pu rfl rfl rfl rfl rfl ?_
  refine dn ?_
  have K10 := (Kx2.st p8 rfl)
  exact lb ih2 ⟨s8, _, rfl, (ue (ue (ue rfl rfl) rfl) rfl), K10, A8⟩
 ·
  refine xt rfl ?_
  refine sgb ?_
  refine sr ?_
  refine pu rfl rfl rfl rfl rfl ?_
  refine pu rfl rfl rfl rfl rfl ?_
  refine dn ?_
  exact re rfl Tryz.func91 rfl (r_t rfl r_nil) rfl ⟨_, rfl, rfl, z.fw Kx2 Ax2_0, z.ky Kx2⟩
noncomputable def laws_markSpanS.b0  (x2 : (List Span) × Int × Int) : Option (((List Span) × Int × Int) ⊕ (Int × (List Span))) :=
 (if (decide (x2.2.2 < (x2.1.length : Int))) = true then (if 0 ≤ x2.2.2 ∧ x2.2.2 < (x2.1.length : Int) then ((some (x2.1.set (x2.2.2).toNat (Span.mk (Item.mk x2.2.1 ((at_ x2.1 x2.2.2).From).N ((at_ x2.1 x2.2.2).From).F ((at_ x2.1 x2.2.2).From).T) (at_ x2.1 x2.2.2).To))).bind fun y12 => (if 0 ≤ x2.2.2 ∧ x2.2.2 < (y12.length : Int) then ((some (y12.set (x2.2.2).toNat (Span.mk (Item.mk ((at_ y12 x2.2.2).From).Kind (IntKind.wrap .i64 (x2.2.1 + (1 : Int))) ((at_ y12 x2.2.2).From).F ((at_ y12 x2.2.2).From).T) (at_ y12 x2.2.2).To))).bind fun y19 => (if 0 ≤ x2.2.2 ∧ x2.2.2 < (y19.length : Int) then ((some (y19.set (x2.2.2).toNat (Span.mk (Item.mk ((at_ y19 x2.2.2).From).Kind ((at_ y19 x2.2.2).From).N (FloatKind.f64.nearest (IntKind.wrap .i64 ((IntKind.wrap .i64 (x2.2.1 + (1 : Int))) + (1 : Int)))) ((at_ y19 x2.2.2).From).T) (at_ y19 x2.2.2).To))).bind fun y27 => (if 0 ≤ x2.2.2 ∧ x2.2.2 < (y27.length : Int) then ((laws_markByteS.f (((at_ y27 x2.2.2).From).T) (IntKind.wrap .i64 ((IntKind.wrap .i64 ((IntKind.wrap .i64 (x2.2.1 + (1 : Int))) + (1 : Int))) + (1 : Int)))).bind fun r32 => ((some (y27.set (x2.2.2).toNat (Span.mk (Item.mk ((at_ y27 x2.2.2).From).Kind ((at_ y27 x2.2.2).From).N ((at_ y27 x2.2.2).From).F r32.2) (at_ y27 x2.2.2).To))).bind fun y35 => (if 0 ≤ x2.2.2 ∧ x2.2.2 < (y35.length : Int) then ((some (y35.set (x2.2.2).toNat (Span.mk (at_ y35 x2.2.2).From (Item.mk r32.1 ((at_ y35 x2.2.2).To).N ((at_ y35 x2.2.2).To).F ((at_ y35 x2.2.2).To).T)))).bind fun y42 => (if 0 ≤ x2.2.2 ∧ x2.2.2 < (y42.length : Int) then ((some (y42.set (x2.2.2).toNat (Span.mk (at_ y42 x2.2.2).From (Item.mk ((at_ y42 x2.2.2).To).Kind (IntKind.wrap .i64 (r32.1 + (1 : Int))) ((at_ y42 x2.2.2).To).F ((at_ y42 x2.2.2).To).T)))).bind fun y49 => (if 0 ≤ x2.2.2 ∧ x2.2.2 < (y49.length : Int) then ((some (y49.set (x2.2.2).toNat (Span.mk (at_ y49 x2.2.2).From (Item.mk ((at_ y49 x2.2.2).To).Kind ((at_ y49 x2.2.2).To).N (FloatKind.f64.nearest (IntKind.wrap .i64 ((IntKind.wrap .i64 (r32.1 + (1 : Int))) + (1 : Int)))) ((at_ y49 x2.2.2).To).T)))).bind fun y57 => (if 0 ≤ x2.2.2 ∧ x2.2.2 < (y57.length : Int) then ((laws_markByteS.f (((at_ y57 x2.2.2).To).T) (IntKind.wrap .i64 ((IntKind.wrap .i64 ((IntKind.wrap .i64 (r32.1 + (1 : Int))) + (1 : Int))) + (1 : Int)))).bind fun r62 => ((some (y57.set (x2.2.2).toNat (Span.mk (at_ y57 x2.2.2).From (Item.mk ((at_ y57 x2.2.2).To).Kind ((at_ y57 x2.2.2).To).N ((at_ y57 x2.2.2).To).F r62.2)))).bind fun y65 => (some (Sum.inl (y65, r62.1, (IntKind.wrap .i64 (x2.2.2 + (1 : Int)))))))) else none)) else none)) else none)) else none))) else none)) else none)) else none)) else none) else ((some (x2.2.1, x2.1)).bind fun o => some (Sum.inr o)))
noncomputable def laws_markSpanS.f (a0 : (List Span)) (a1 : Int) : Option (Int × (List Span)) :=
 (iter laws_markSpanS.b0 (a0, a1, (0 : Int)))
def laws_markSpanS.Q (w : World) (F : Nat → Prop) (os : List Nat) (w0_0 : Value) (r : Int × (List Span)) (v : Value) (w' : World) : Prop :=
 v = (.int .i64 r.1) ∧ FW (Kd.sl 200 kd200) os w w' [w0_0] r.2 ∧ Ky os w w'
set_option maxHeartbeats 4000000 in
set_option maxRecDepth 100000 in
theorem laws_markSpanS.calls (a0 : (List Span)) (a1 : Int) (w : World) (F : Nat → Prop) (w0_0 : Value) (os : List Nat) (h0_0 : (Kd.sl 200 kd200).ow w [w0_0] a0 os) (hn : os.Nodup) (hF : ∀ b, F b → b ∉ os) (r : Int × (List Span)) (m : laws_markSpanS.f a0 a1 = some r) :
  Calls Tryz.prog 89 #[w0_0, (.int .i64 a1)] w fun en w' => ∃ v, en = .returned v ∧ laws_markSpanS.Q w F os w0_0 r v w' := by
 obtain ⟨s0, rfl, kp0, z⟩ := start1 w F os hF
 have A0_0 := z.ow h0_0 hn
 refine calls_of_TM (args := [w0_0, (.int .i64 a1)]) (R := fun r en w' => ∃ v, en = .returned v ∧ laws_markSpanS.Q s0.w F os w0_0 r v w') Tryz.func89 Tryz.ntmps89 rfl rfl m ?_
 unfold laws_markSpanS.f
 refine sr ?_
 refine pu rfl rfl rfl rfl rfl ?_
 refine dn ?_
 refine sq ?_
 refine sr ?_
 refine pu rfl rfl rfl rfl rfl ?_
 refine dn ?_
 refine bl ?_
 refine lpI (fun (x2 : (List Span) × Int × Int) (e : Env) (w : World) => ∃ (s : St) (e0 : Env), w = s.w ∧ e = upd (upd (upd e0 0 w0_0) 1 (.int .i64 x2.2.1)) 5 (.int .i64 x2.2.2) ∧ Kp s0 s ∧ OwF (Kd.sl 200 kd200) s [w0_0] x2.1 2) ⟨s0, _, rfl, (ue (ue (ue rfl rfl) rfl) rfl), kp0, A0_0⟩ (fun g2 ih2 => ?_)
 rintro x2 _ _ ⟨s3, _, rfl, rfl, Kx2, Ax2_0⟩
 unfold laws_markSpanS.b0
 refine sq ?_
 refine sr ?_
 refine pu rfl rfl rfl rfl rfl ?_
 refine mv w0_0 rfl rfl rfl rfl rfl rfl ?_
 refine ln Ax2_0.rd Tryz.underlying114 rfl rfl rfl rfl rfl rfl ?_
 refine pu rfl rfl rfl rfl rfl ?_
 refine dn ?_
 refine cd rfl (fun h5 => ?_) (fun h5 => ?_)
 ·
  refine sk ?_
  refine sq ?_
  refine bl ?_
  refine sr ?_
  refine mv w0_0 rfl rfl rfl rfl rfl rfl ?_
  refine pu rfl rfl rfl rfl rfl ?_
  refine pu rfl rfl rfl rfl rfl ?_
  refine ix Ax2_0.rd Tryz.underlying114 z200 rfl rfl rfl rfl rfl rfl rfl rfl (fun ad6 es6 h0_6 h1_6 he6 ce6 ia6 => ?_)
  obtain ⟨v6_0, v6_1, v6_2, v6_3, rfl, A6_0, A6_1, A6_2, A6_3⟩ := op200 he6
  refine fa fa200_0 rfl rfl rfl rfl rfl rfl ?_
  refine fa fa33_0 rfl rfl rfl rfl rfl rfl ?_
  refine so (x' := (Span.mk (Item.mk x2.2.1 ((at_ x2.1 x2.2.2).From).N ((at_ x2.1 x2.2.2).From).F ((at_ x2.1 x2.2.2).From).T) (at_ x2.1 x2.2.2).To)) Ax2_0 ia6 h0_6 h1_6 (cs_iso (cs_left (cs_iso (cs_left cs_flat)))) z3 rfl rfl rfl rfl rfl rfl (fun s10 p10 A10 => ?_)
  refine nb (fun y12 h12 => ?_)
  have A12 : OwF (Kd.sl 200 kd200) s10 [w0_0] y12 2 := by rw [h12]; exact A10
  refine dn ?_
  refine sr ?_
  refine pu rfl rfl rfl rfl rfl ?_
  refine pu rfl rfl rfl rfl rfl ?_
  refine pu rfl rfl rfl rfl rfl ?_
  refine dn ?_
  refine sr ?_
  refine mv w0_0 rfl rfl rfl rfl rfl rfl ?_
  refine pu rfl rfl rfl rfl rfl ?_
  refine pu rfl rfl rfl rfl rfl ?_
  refine ix A12.rd Tryz.underlying114 z200 rfl rfl rfl rfl rfl rfl rfl rfl (fun ad13 es13 h0_13 h1_13 he13 ce13 ia13 => ?_)
  obtain ⟨v13_0, v13_1, v13_2, v13_3, rfl, A13_0, A13_1, A13_2, A13_3⟩ := op200 he13
  refine fa fa200_0 rfl rfl rfl rfl rfl rfl ?_
  refine fa fa33_1 rfl rfl rfl rfl rfl rfl ?_
  refine so (x' := (Span.mk (Item.mk ((at_ y12 x2.2.2).From).Kind (IntKind.wrap .i64 (x2.2.1 + (1 : Int))) ((at_ y12 x2.2.2).From).F ((at_ y12 x2.2.2).From).T) (at_ y12 x2.2.2).To)) A12 ia13 h0_13 h1_13 (cs_iso (cs_left (cs_iso (cs_right (cs_left cs_flat))))) z3 rfl rfl rfl rfl rfl rfl (fun s17 p17 A17 => ?_)
  refine nb (fun y19 h19 => ?_)
  have A19 : OwF (Kd.sl 200 kd200) s17 [w0_0] y19 2 := by rw [h19]; exact A17
  refine dn ?_
  refine sr ?_
  refine pu rfl rfl rfl rfl rfl ?_
  refine pu rfl rfl rfl rfl rfl ?_
  refine pu rfl rfl rfl rfl rfl ?_
  refine dn ?_
  refine sr ?_
  refine mv w0_0 rfl rfl rfl rfl rfl rfl ?_
  refine pu rfl rfl rfl rfl rfl ?_
  refine pu rfl rfl rfl rfl rfl ?_
  refine i2f Tryz.underlying23 Tryz.underlying3 rfl rfl rfl rfl rfl rfl (fun v20 A20 => ?_)
  refine ix A19.rd Tryz.underlying114 z200 rfl rfl rfl rfl rfl rfl rfl rfl (fun ad21 es21 h0_21 h1_21 he21 ce21 ia21 => ?_)
  obtain ⟨v21_0, v21_1, v21_2, v21_3, rfl, A21_0, A21_1, A21_2, A21_3⟩ := op200 he21
  refine fa fa200_0 rfl rfl rfl rfl rfl rfl ?_
  refine fa fa33_2 rfl rfl rfl rfl rfl rfl ?_
  refine so (x' := (Span.mk (Item.mk ((at_ y19 x2.2.2).From).Kind ((at_ y19 x2.2.2).From).N (FloatKind.f64.nearest (IntKind.wrap .i64 ((IntKind.wrap .i64 (x2.2.1 + (1 : Int))) + (1 : Int)))) ((at_ y19 x2.2.2).From).T) (at_ y19 x2.2.2).To)) A19 ia21 h0_21 h1_21 (cs_iso (cs_left (cs_iso (cs_right (cs_right (cs_left (cs_flt A20))))))) z23 rfl rfl rfl rfl rfl rfl (fun s25 p25 A25 => ?_)
  refine nb (fun y27 h27 => ?_)
  have A27 : OwF (Kd.sl 200 kd200) s25 [w0_0] y27 2 := by rw [h27]; exact A25
  refine dn ?_
  refine sr ?_
  refine pu rfl rfl rfl rfl rfl ?_
  refine pu rfl rfl rfl rfl rfl ?_
  refine pu rfl rfl rfl rfl rfl ?_
  refine dn ?_
  refine sr ?_
  refine mv w0_0 rfl rfl rfl rfl rfl rfl ?_
  refine pu rfl rfl rfl rfl rfl ?_
  refine ix A27.rd Tryz.underlying114 z200 rfl rfl rfl rfl rfl rfl rfl rfl (fun ad28 es28 h0_28 h1_28 he28 ce28 ia28 => ?_)
  obtain ⟨v28_0, v28_1, v28_2, v28_3, rfl, A28_0, A28_1, A28_2, A28_3⟩ := op200 he28
  refine fa fa200_0 rfl rfl rfl rfl rfl rfl ?_
  refine fa fa33_3 rfl rfl rfl rfl rfl rfl ?_
  refine lc ce28 Tryz.underlying24 rfl rfl rfl rfl rfl rfl rfl rfl ?_
  refine pu rfl rfl rfl rfl rfl ?_
  obtain ⟨os32, ho32, hn32, hc32, put32⟩ := focus (ln_iso (fun x : Span => (x.From, x.To)) (fun x => x.From.T) (fun x y => (Span.mk (Item.mk x.From.Kind x.From.N x.From.F y) x.To)) (ln_left (ln_iso (fun x : Item => (x.Kind, x.N, x.F, x.T)) (fun x => x.T) (fun x y => (Item.mk x.Kind x.N x.F y)) (ln_right (ln_right (ln_right ln_sl))) (fun _ => rfl) (fun _ _ => rfl))) (fun _ => rfl) (fun _ _ => rfl)) A27 h0_28 h1_28 ia28 ce28 rfl rfl
  refine cl rfl rfl rfl rfl rfl Tryz.func91 rfl rfl rfl (fun r32 m32 => laws_markByteS.calls (((at_ y27 x2.2.2).From).T) (IntKind.wrap .i64 ((IntKind.wrap .i64 ((IntKind.wrap .i64 (x2.2.1 + (1 : Int))) + (1 : Int))) + (1 : Int))) s25.w (fun b => memb [] (s25.g b) = true) v28_1 os32 ho32 hn32 (apart_of hc32 rfl) r32 m32) ?_
  rintro r32 _ w32 m32 ⟨rfl, w32_, ky32⟩
  obtain ⟨s33, rfl, p33, A33⟩ := put32 w32 _ 40 ky32 w32_
  refine nb (fun y35 h35 => ?_)
  have A35 : OwF (Kd.sl 200 kd200) s33 [w0_0] y35 2 := by rw [h35]; exact A33
  refine pu rfl rfl rfl rfl rfl ?_
  refine dn ?_
  refine sr ?_
  refine mv w0_0 rfl rfl rfl rfl rfl rfl ?_
  refine pu rfl rfl rfl rfl rfl ?_
  refine pu rfl rfl rfl rfl rfl ?_
  refine ix A35.rd Tryz.underlying114 z200 rfl rfl rfl rfl rfl rfl rfl rfl (fun ad36 es36 h0_36 h1_36 he36 ce36 ia36 => ?_)
  obtain ⟨v36_0, v36_1, v36_2, v36_3, rfl, A36_0, A36_1, A36_2, A36_3⟩ := op200 he36
  refine fa fa200_1 rfl rfl rfl rfl rfl rfl ?_
  refine faq (q := 4) (q' := 0) (n := 4) fa33_0 rfl rfl rfl rfl rfl rfl rfl ?_
  refine so (x' := (Span.mk (at_ y35 x2.2.2).From (Item.mk r32.1 ((at_ y35 x2.2.2).To).N ((at_ y35 x2.2.2).To).F ((at_ y35 x2.2.2).To).T))) A35 ia36 h0_36 h1_36 (cs_iso (cs_right (cs_iso (cs_left cs_flat)))) z3 rfl rfl rfl rfl rfl rfl (fun s40 p40 A40 => ?_)
  refine nb (fun y42 h42 => ?_)
  have A42 : OwF (Kd.sl 200 kd200) s40 [w0_0] y42 2 := by rw [h42]; exact A40
  refine dn ?_
  refine sr ?_
  refine pu rfl rfl rfl rfl rfl ?_
  refine pu rfl rfl rfl rfl rfl ?_
  refine pu rfl rfl rfl rfl rfl ?_
  refine dn ?_
  refine sr ?_
  refine mv w0_0 rfl rfl rfl rfl rfl rfl ?_
  refine pu rfl rfl rfl rfl rfl ?_
  refine pu rfl rfl rfl rfl rfl ?_
  refine ix A42.rd Tryz.underlying114 z200 rfl rfl rfl rfl rfl rfl rfl rfl (fun ad43 es43 h0_43 h1_43 he43 ce43 ia43 => ?_)
  obtain ⟨v43_0, v43_1, v43_2, v43_3, rfl, A43_0, A43_1, A43_2, A43_3⟩ := op200 he43
  refine fa fa200_1 rfl rfl rfl rfl rfl rfl ?_
  refine faq (q := 4) (q' := 1) (n := 5) fa33_1 rfl rfl rfl rfl rfl rfl rfl ?_
  refine so (x' := (Span.mk (at_ y42 x2.2.2).From (Item.mk ((at_ y42 x2.2.2).To).Kind (IntKind.wrap .i64 (r32.1 + (1 : Int))) ((at_ y42 x2.2.2).To).F ((at_ y42 x2.2.2).To).T))) A42 ia43 h0_43 h1_43 (cs_iso (cs_right (cs_iso (cs_right (cs_left cs_flat))))) z3 rfl rfl rfl rfl rfl rfl (fun s47 p47 A47 => ?_)
  refine nb (fun y49 h49 => ?_)
  have A49 : OwF (Kd.sl 200 kd200) s47 [w0_0] y49 2 := by rw [h49]; exact A47
  refine dn ?_
  refine sr ?_
  refine pu rfl rfl rfl rfl rfl ?_
  refine pu rfl rfl rfl rfl rfl ?_
  refine pu rfl rfl rfl rfl rfl ?_
  refine dn ?_
  refine sr ?_
  refine mv w0_0 rfl rfl rfl rfl rfl rfl ?_
  refine pu rfl rfl rfl rfl rfl ?_
  refine pu rfl rfl rfl rfl rfl ?_
  refine i2f Tryz.underlying23 Tryz.underlying3 rfl rfl rfl rfl rfl rfl (fun v50 A50 => ?_)
  refine ix A49.rd Tryz.underlying114 z200 rfl rfl rfl rfl rfl rfl rfl rfl (fun ad51 es51 h0_51 h1_51 he51 ce51 ia51 => ?_)
  obtain ⟨v51_0, v51_1, v51_2, v51_3, rfl, A51_0, A51_1, A51_2, A51_3⟩ := op200 he51
  refine fa fa200_1 rfl rfl rfl rfl rfl rfl ?_
  refine faq (q := 4) (q' := 2) (n := 6) fa33_2 rfl rfl rfl rfl rfl rfl rfl ?_
  refine so (x' := (Span.mk (at_ y49 x2.2.2).From (Item.mk ((at_ y49 x2.2.2).To).Kind ((at_ y49 x2.2.2).To).N (FloatKind.f64.nearest (IntKind.wrap .i64 ((IntKind.wrap .i64 (r32.1 + (1 : Int))) + (1 : Int)))) ((at_ y49 x2.2.2).To).T))) A49 ia51 h0_51 h1_51 (cs_iso (cs_right (cs_iso (cs_right (cs_right (cs_left (cs_flt A50))))))) z23 rfl rfl rfl rfl rfl rfl (fun s55 p55 A55 => ?_)
  refine nb (fun y57 h57 => ?_)
  have A57 : OwF (Kd.sl 200 kd200) s55 [w0_0] y57 2 := by rw [h57]; exact A55
  refine dn ?_
  refine sr ?_
  refine pu rfl rfl rfl rfl rfl ?_
  refine pu rfl rfl rfl rfl rfl ?_
  refine pu rfl rfl rfl rfl rfl ?_
  refine dn ?_
  refine rg ?_
  refine mv w0_0 rfl rfl rfl rfl rfl rfl ?_
  refine pu rfl rfl rfl rfl rfl ?_
  refine ix A57.rd Tryz.underlying114 z200 rfl rfl rfl rfl rfl rfl rfl rfl (fun ad58 es58 h0_58 h1_58 he58 ce58 ia58 => ?_)
  obtain ⟨v58_0, v58_1, v58_2, v58_3, rfl, A58_0, A58_1, A58_2, A58_3⟩ := op200 he58
  refine fa fa200_1 rfl rfl rfl rfl rfl rfl ?_
  refine faq (q := 4) (q' := 3) (n := 7) fa33_3 rfl rfl rfl rfl rfl rfl rfl ?_
  refine lc ce58 Tryz.underlying24 rfl rfl rfl rfl rfl rfl rfl rfl ?_
  refine pu rfl rfl rfl rfl rfl ?_
  obtain ⟨os62, ho62, hn62, hc62, put62⟩ := focus (ln_iso (fun x : Span => (x.From, x.To)) (fun x => x.To.T) (fun x y => (Span.mk x.From (Item.mk x.To.Kind x.To.N x.To.F y))) (ln_right (ln_iso (fun x : Item => (x.Kind, x.N, x.F, x.T)) (fun x => x.T) (fun x y => (Item.mk x.Kind x.N x.F y)) (ln_right (ln_right (ln_right ln_sl))) (fun _ => rfl) (fun _ _ => rfl))) (fun _ => rfl) (fun _ _ => rfl)) A57 h0_58 h1_58 ia58 ce58 rfl rfl
  refine cl rfl rfl rfl rfl rfl Tryz.func91 rfl rfl rfl (fun r62 m62 => laws_markByteS.calls (((at_ y57 x2.2.2).To).T) (IntKind.wrap .i64 ((IntKind.wrap .i64 ((IntKind.wrap .i64 (r32.1 + (1 : Int))) + (1 : Int))) + (1 : Int))) s55.w (fun b => memb [] (s55.g b) = true) v58_3 os62 ho62 hn62 (apart_of hc62 rfl) r62 m62) ?_
  rintro r62 _ w62 m62 ⟨rfl, w62_, ky62⟩
  obtain ⟨s63, rfl, p63, A63⟩ := put62 w62 _ 41 ky62 w62_
  refine nb (fun y65 h65 => ?_)
  have A65 : OwF (Kd.sl 200 kd200) s63 [w0_0] y65 2 := by rw [h65]; exact A63
  refine pu rfl rfl rfl rfl rfl ?_
  refine dn ?_
  refine ib ?_
  refine rg ?_
  refine pu rfl rfl rfl rfl rfl ?_
  refine pu rfl rfl rfl rfl rfl ?_
  refine pu rfl rfl rfl rfl rfl ?_
  refine dn ?_
  have K66 := ((((((((Kx2.st p10 rfl).st p17 rfl).st p25 rfl).st p33 rfl).st p40 rfl).st p47 rfl).st p55 rfl).st p63 rfl)
  exact lb ih2 ⟨s63, _, rfl, (ue (ue (ue rfl rfl) rfl) rfl), K66, A65⟩
 ·
  refine xt rfl ?_
  refine sgb ?_
  refine sr ?_
  refine pu rfl rfl rfl rfl rfl ?_
  refine pu rfl rfl rfl rfl rfl ?_
  refine dn ?_
  exact re rfl Tryz.func89 rfl (r_t rfl r_nil) rfl ⟨_, rfl, rfl, z.fw Kx2 Ax2_0, z.ky Kx2⟩
noncomputable def laws_markItemS.b0  (x2 : (List Item) × Int × Int) : Option (((List Item) × Int × Int) ⊕ (Int × (List Item))) :=
 (if (decide (x2.2.2 < (x2.1.length : Int))) = true then (if 0 ≤ x2.2.2 ∧ x2.2.2 < (x2.1.length : Int) then (if 0 ≤ x2.2.2 ∧ x2.2.2 < ((x2.1.set (x2.2.2).toNat (Item.mk x2.2.1 (at_ x2.1 x2.2.2).N (at_ x2.1 x2.2.2).F (at_ x2.1 x2.2.2).T)).length : Int) then ((some ((x2.1.set (x2.2.2).toNat (Item.mk x2.2.1 (at_ x2.1 x2.2.2).N (at_ x2.1 x2.2.2).F (at_ x2.1 x2.2.2).T)).set (x2.2.2).toNat (Item.mk (at_ (x2.1.set (x2.2.2).toNat (Item.mk x2.2.1 (at_ x2.1 x2.2.2).N (at_ x2.1 x2.2.2).F (at_ x2.1 x2.2.2).T)) x2.2.2).Kind (IntKind.wrap .i64 (x2.2.1 + (1 : Int))) (at_ (x2.1.set (x2.2.2).toNat (Item.mk x2.2.1 (at_ x2.1 x2.2.2).N (at_ x2.1 x2.2.2).F (at_ x2.1 x2.2.2).T)) x2.2.2).F (at_ (x2.1.set (x2.2.2).toNat (Item.mk x2.2.1 (at_ x2.1 x2.2.2).N (at_ x2.1 x2.2.2).F (at_ x2.1 x2.2.2).T)) x2.2.2).T))).bind fun y16 => (if 0 ≤ x2.2.2 ∧ x2.2.2 < (y16.length : Int) then ((some (y16.set (x2.2.2).toNat (Item.mk (at_ y16 x2.2.2).Kind (at_ y16 x2.2.2).N (FloatKind.f64.nearest (IntKind.wrap .i64 ((IntKind.wrap .i64 (x2.2.1 + (1 : Int))) + (1 : Int)))) (at_ y16 x2.2.2).T))).bind fun y23 => (if 0 ≤ x2.2.2 ∧ x2.2.2 < (y23.length : Int) then ((laws_markByteS.f ((at_ y23 x2.2.2).T) (IntKind.wrap .i64 ((IntKind.wrap .i64 ((IntKind.wrap .i64 (x2.2.1 + (1 : Int))) + (1 : Int))) + (1 : Int)))).bind fun r27 => (some (Sum.inl ((y23.set (x2.2.2).toNat (Item.mk (at_ y23 x2.2.2).Kind (at_ y23 x2.2.2).N (at_ y23 x2.2.2).F r27.2)), r27.1, (IntKind.wrap .i64 (x2.2.2 + (1 : Int))))))) else none)) else none)) else none) else none) else ((some (x2.2.1, x2.1)).bind fun o => some (Sum.inr o)))
noncomputable def laws_markItemS.f (a0 : (List Item)) (a1 : Int) : Option (Int × (List Item)) :=
 (iter laws_markItemS.b0 (a0, a1, (0 : Int)))
def laws_markItemS.Q (w : World) (F : Nat → Prop) (os : List Nat) (w0_0 : Value) (r : Int × (List Item)) (v : Value) (w' : World) : Prop :=
 v = (.int .i64 r.1) ∧ FW (Kd.sl 33 kd33) os w w' [w0_0] r.2 ∧ Ky os w w'
set_option maxHeartbeats 4000000 in
set_option maxRecDepth 100000 in
theorem laws_markItemS.calls (a0 : (List Item)) (a1 : Int) (w : World) (F : Nat → Prop) (w0_0 : Value) (os : List Nat) (h0_0 : (Kd.sl 33 kd33).ow w [w0_0] a0 os) (hn : os.Nodup) (hF : ∀ b, F b → b ∉ os) (r : Int × (List Item)) (m : laws_markItemS.f a0 a1 = some r) :
  Calls Tryz.prog 90 #[w0_0, (.int .i64 a1)] w fun en w' => ∃ v, en = .returned v ∧ laws_markItemS.Q w F os w0_0 r v w' := by
 obtain ⟨s0, rfl, kp0, z⟩ := start1 w F os hF
 have A0_0 := z.ow h0_0 hn
 refine calls_of_TM (args := [w0_0, (.int .i64 a1)]) (R := fun r en w' => ∃ v, en = .returned v ∧ laws_markItemS.Q s0.w F os w0_0 r v w') Tryz.func90 Tryz.ntmps90 rfl rfl m ?_
 unfold laws_markItemS.f
 refine sr ?_
 refine pu rfl rfl rfl rfl rfl ?_
 refine dn ?_
 refine sq ?_
 refine sr ?_
 refine pu rfl rfl rfl rfl rfl ?_
 refine dn ?_
 refine bl ?_
 refine lpI (fun (x2 : (List Item) × Int × Int) (e : Env) (w : World) => ∃ (s : St) (e0 : Env), w = s.w ∧ e = upd (upd (upd e0 0 w0_0) 1 (.int .i64 x2.2.1)) 5 (.int .i64 x2.2.2) ∧ Kp s0 s ∧ OwF (Kd.sl 33 kd33) s [w0_0] x2.1 2) ⟨s0, _, rfl, (ue (ue (ue rfl rfl) rfl) rfl), kp0, A0_0⟩ (fun g2 ih2 => ?_)
 rintro x2 _ _ ⟨s3, _, rfl, rfl, Kx2, Ax2_0⟩
 unfold laws_markItemS.b0
 refine sq ?_
 refine sr ?_
 refine pu rfl rfl rfl rfl rfl ?_
 refine mv w0_0 rfl rfl rfl rfl rfl rfl ?_
 refine ln Ax2_0.rd Tryz.underlying115 rfl rfl rfl rfl rfl rfl ?_
 refine pu rfl rfl rfl rfl rfl ?_
 refine dn ?_
 refine cd rfl (fun h5 => ?_) (fun h5 => ?_)
 ·
  refine sk ?_
  refine sq ?_
  refine bl ?_
  refine sr ?_
  refine mv w0_0 rfl rfl rfl rfl rfl rfl ?_
  refine pu rfl rfl rfl rfl rfl ?_
  refine pu rfl rfl rfl rfl rfl ?_
  refine ix Ax2_0.rd Tryz.underlying115 z33 rfl rfl rfl rfl rfl rfl rfl rfl (fun ad6 es6 h0_6 h1_6 he6 ce6 ia6 => ?_)
  obtain ⟨v6_0, v6_1, rfl, A6_0, A6_1⟩ := op33 he6
  refine fa fa33_0 rfl rfl rfl rfl rfl rfl ?_
  refine so (x' := (Item.mk x2.2.1 (at_ x2.1 x2.2.2).N (at_ x2.1 x2.2.2).F (at_ x2.1 x2.2.2).T)) Ax2_0 ia6 h0_6 h1_6 (cs_iso (cs_left cs_flat)) z3 rfl rfl rfl rfl rfl rfl (fun s9 p9 A9 => ?_)
  refine dn ?_
  refine sr ?_
  refine pu rfl rfl rfl rfl rfl ?_
  refine pu rfl rfl rfl rfl rfl ?_
  refine pu rfl rfl rfl rfl rfl ?_
  refine dn ?_
  refine sr ?_
  refine mv w0_0 rfl rfl rfl rfl rfl rfl ?_
  refine pu rfl rfl rfl rfl rfl ?_
  refine pu rfl rfl rfl rfl rfl ?_
  refine ix A9.rd Tryz.underlying115 z33 rfl rfl rfl rfl rfl rfl rfl rfl (fun ad11 es11 h0_11 h1_11 he11 ce11 ia11 => ?_)
  obtain ⟨v11_0, v11_1, rfl, A11_0, A11_1⟩ := op33 he11
  refine fa fa33_1 rfl rfl rfl rfl rfl rfl ?_
  refine so (x' := (Item.mk (at_ (x2.1.set (x2.2.2).toNat (Item.mk x2.2.1 (at_ x2.1 x2.2.2).N (at_ x2.1 x2.2.2).F (at_ x2.1 x2.2.2).T)) x2.2.2).Kind (IntKind.wrap .i64 (x2.2.1 + (1 : Int))) (at_ (x2.1.set (x2.2.2).toNat (Item.mk x2.2.1 (at_ x2.1 x2.2.2).N (at_ x2.1 x2.2.2).F (at_ x2.1 x2.2.2).T)) x2.2.2).F (at_ (x2.1.set (x2.2.2).toNat (Item.mk x2.2.1 (at_ x2.1 x2.2.2).N (at_ x2.1 x2.2.2).F (at_ x2.1 x2.2.2).T)) x2.2.2).T)) A9 ia11 h0_11 h1_11 (cs_iso (cs_right (cs_left cs_flat))) z3 rfl rfl rfl rfl rfl rfl (fun s14 p14 A14 => ?_)
  refine nb (fun y16 h16 => ?_)
  have A16 : OwF (Kd.sl 33 kd33) s14 [w0_0] y16 2 := by rw [h16]; exact A14
  refine dn ?_
  refine sr ?_
  refine pu rfl rfl rfl rfl rfl ?_
  refine pu rfl rfl rfl rfl rfl ?_
  refine pu rfl rfl rfl rfl rfl ?_
  refine dn ?_
  refine sr ?_
  refine mv w0_0 rfl rfl rfl rfl rfl rfl ?_
  refine pu rfl rfl rfl rfl rfl ?_
  refine pu rfl rfl rfl rfl rfl ?_
  refine i2f Tryz.underlying23 Tryz.underlying3 rfl rfl rfl rfl rfl rfl (fun v17 A17 => ?_)
  refine ix A16.rd Tryz.underlying115 z33 rfl rfl rfl rfl rfl rfl rfl rfl (fun ad18 es18 h0_18 h1_18 he18 ce18 ia18 => ?_)
  obtain ⟨v18_0, v18_1, rfl, A18_0, A18_1⟩ := op33 he18
  refine fa fa33_2 rfl rfl rfl rfl rfl rfl ?_
  refine so (x' := (Item.mk (at_ y16 x2.2.2).Kind (at_ y16 x2.2.2).N (FloatKind.f64.nearest (IntKind.wrap .i64 ((IntKind.wrap .i64 (x2.2.1 + (1 : Int))) + (1 : Int)))) (at_ y16 x2.2.2).T)) A16 ia18 h0_18 h1_18 (cs_iso (cs_right (cs_right (cs_left (cs_flt A17))))) z23 rfl rfl rfl rfl rfl rfl (fun s21 p21 A21 => ?_)
  refine nb (fun y23 h23 => ?_)
  have A23 : OwF (Kd.sl 33 kd33) s21 [w0_0] y23 2 := by rw [h23]; exact A21
  refine dn ?_
  refine sr ?_
  refine pu rfl rfl rfl rfl rfl ?_
  refine pu rfl rfl rfl rfl rfl ?_
  refine pu rfl rfl rfl rfl rfl ?_
  refine dn ?_
  refine rg ?_
  refine mv w0_0 rfl rfl rfl rfl rfl rfl ?_
  refine pu rfl rfl rfl rfl rfl ?_
  refine ix A23.rd Tryz.underlying115 z33 rfl rfl rfl rfl rfl rfl rfl rfl (fun ad24 es24 h0_24 h1_24 he24 ce24 ia24 => ?_)
  obtain ⟨v24_0, v24_1, rfl, A24_0, A24_1⟩ := op33 he24
  refine fa fa33_3 rfl rfl rfl rfl rfl rfl ?_
  refine lc ce24 Tryz.underlying24 rfl rfl rfl rfl rfl rfl rfl rfl ?_
  refine pu rfl rfl rfl rfl rfl ?_
  obtain ⟨os27, ho27, hn27, hc27, put27⟩ := focus (ln_iso (fun x : Item => (x.Kind, x.N, x.F, x.T)) (fun x => x.T) (fun x y => (Item.mk x.Kind x.N x.F y)) (ln_right (ln_right (ln_right ln_sl))) (fun _ => rfl) (fun _ _ => rfl)) A23 h0_24 h1_24 ia24 ce24 rfl rfl
  refine cl rfl rfl rfl rfl rfl Tryz.func91 rfl rfl rfl (fun r27 m27 => laws_markByteS.calls ((at_ y23 x2.2.2).T) (IntKind.wrap .i64 ((IntKind.wrap .i64 ((IntKind.wrap .i64 (x2.2.1 + (1 : Int))) + (1 : Int))) + (1 : Int))) s21.w (fun b => memb [] (s21.g b) = true) v24_1 os27 ho27 hn27 (apart_of hc27 rfl) r27 m27) ?_
  rintro r27 _ w27 m27 ⟨rfl, w27_, ky27⟩
  obtain ⟨s28, rfl, p28, A28⟩ := put27 w27 _ 40 ky27 w27_
  refine pu rfl rfl rfl rfl rfl ?_
  refine dn ?_
  refine ib ?_
  refine rg ?_
  refine pu rfl rfl rfl rfl rfl ?_
  refine pu rfl rfl rfl rfl rfl ?_
  refine pu rfl rfl rfl rfl rfl ?_
  refine dn ?_
  have K30 := ((((Kx2.st p9 rfl).st p14 rfl).st p21 rfl).st p28 rfl)
  exact lb ih2 ⟨s28, _, rfl, (ue (ue (ue rfl rfl) rfl) rfl), K30, A28⟩
 ·
  refine xt rfl ?_
  refine sgb ?_
  refine sr ?_
  refine pu rfl rfl rfl rfl rfl ?_
  refine pu rfl rfl rfl rfl rfl ?_
  refine dn ?_
  exact re rfl Tryz.func90 rfl (r_t rfl r_nil) rfl ⟨_, rfl, rfl, z.fw Kx2 Ax2_0, z.ky Kx2⟩
noncomputable def laws_markTrackS.b0  (x2 : (List Track) × Int × Int) : Option (((List Track) × Int × Int) ⊕ (Int × (List Track))) :=
 (if (decide (x2.2.2 < (x2.1.length : Int))) = true then (if 0 ≤ x2.2.2 ∧ x2.2.2 < (x2.1.length : Int) then ((some (x2.1.set (x2.2.2).toNat (Track.mk x2.2.1 (at_ x2.1 x2.2.2).Begun (at_ x2.1 x2.2.2).Ended (at_ x2.1 x2.2.2).All (at_ x2.1 x2.2.2).Reads (at_ x2.1 x2.2.2).Writes (at_ x2.1 x2.2.2).In (at_ x2.1 x2.2.2).Out))).bind fun y12 => (if 0 ≤ x2.2.2 ∧ x2.2.2 < (y12.length : Int) then ((some (y12.set (x2.2.2).toNat (Track.mk (at_ y12 x2.2.2).Xid (IntKind.wrap .i64 (x2.2.1 + (1 : Int))) (at_ y12 x2.2.2).Ended (at_ y12 x2.2.2).All (at_ y12 x2.2.2).Reads (at_ y12 x2.2.2).Writes (at_ y12 x2.2.2).In (at_ y12 x2.2.2).Out))).bind fun y19 => (if 0 ≤ x2.2.2 ∧ x2.2.2 < (y19.length : Int) then ((some (y19.set (x2.2.2).toNat (Track.mk (at_ y19 x2.2.2).Xid (at_ y19 x2.2.2).Begun (IntKind.wrap .i64 ((IntKind.wrap .i64 (x2.2.1 + (1 : Int))) + (1 : Int))) (at_ y19 x2.2.2).All (at_ y19 x2.2.2).Reads (at_ y19 x2.2.2).Writes (at_ y19 x2.2.2).In (at_ y19 x2.2.2).Out))).bind fun y26 => (if 0 ≤ x2.2.2 ∧ x2.2.2 < (y26.length : Int) then ((some (y26.set (x2.2.2).toNat (Track.mk (at_ y26 x2.2.2).Xid (at_ y26 x2.2.2).Begun (at_ y26 x2.2.2).Ended (((IntKind.wrap .i64 ((IntKind.wrap .i64 ((IntKind.wrap .i64 (x2.2.1 + (1 : Int))) + (1 : Int))) + (1 : Int))).tmod (3 : Int)) == (0 : Int)) (at_ y26 x2.2.2).Reads (at_ y26 x2.2.2).Writes (at_ y26 x2.2.2).In (at_ y26 x2.2.2).Out))).bind fun y33 => (if 0 ≤ x2.2.2 ∧ x2.2.2 < (y33.length : Int) then ((laws_markSpanS.f ((at_ y33 x2.2.2).Reads) (IntKind.wrap .i64 ((IntKind.wrap .i64 ((IntKind.wrap .i64 ((IntKind.wrap .i64 (x2.2.1 + (1 : Int))) + (1 : Int))) + (1 : Int))) + (1 : Int)))).bind fun r38 => ((some (y33.set (x2.2.2).toNat (Track.mk (at_ y33 x2.2.2).Xid (at_ y33 x2.2.2).Begun (at_ y33 x2.2.2).Ended (at_ y33 x2.2.2).All r38.2 (at_ y33 x2.2.2).Writes (at_ y33 x2.2.2).In (at_ y33 x2.2.2).Out))).bind fun y41 => (if 0 ≤ x2.2.2 ∧ x2.2.2 < (y41.length : Int) then ((laws_markItemS.f ((at_ y41 x2.2.2).Writes) r38.1).bind fun r46 => ((some (y41.set (x2.2.2).toNat (Track.mk (at_ y41 x2.2.2).Xid (at_ y41 x2.2.2).Begun (at_ y41 x2.2.2).Ended (at_ y41 x2.2.2).All (at_ y41 x2.2.2).Reads r46.2 (at_ y41 x2.2.2).In (at_ y41 x2.2.2).Out))).bind fun y49 => (if 0 ≤ x2.2.2 ∧ x2.2.2 < (y49.length : Int) then ((some (y49.set (x2.2.2).toNat (Track.mk (at_ y49 x2.2.2).Xid (at_ y49 x2.2.2).Begun (at_ y49 x2.2.2).Ended (at_ y49 x2.2.2).All (at_ y49 x2.2.2).Reads (at_ y49 x2.2.2).Writes ((r46.1.tmod (3 : Int)) == (0 : Int)) (at_ y49 x2.2.2).Out))).bind fun y56 => (if 0 ≤ x2.2.2 ∧ x2.2.2 < (y56.length : Int) then ((some (y56.set (x2.2.2).toNat (Track.mk (at_ y56 x2.2.2).Xid (at_ y56 x2.2.2).Begun (at_ y56 x2.2.2).Ended (at_ y56 x2.2.2).All (at_ y56 x2.2.2).Reads (at_ y56 x2.2.2).Writes (at_ y56 x2.2.2).In (((IntKind.wrap .i64 (r46.1 + (1 : Int))).tmod (3 : Int)) == (0 : Int))))).bind fun y63 => (some (Sum.inl (y63, (IntKind.wrap .i64 ((IntKind.wrap .i64 (r46.1 + (1 : Int))) + (1 : Int))), (IntKind.wrap .i64 (x2.2.2 + (1 : Int))))))) else none)) else none))) else none))) else none)) else none)) else none)) else none)) else none) else ((some (x2.2.1, x2.1)).bind fun o => some (Sum.inr o)))
noncomputable def laws_markTrackS.f (a0 : (List Track)) (a1 : Int) : Option (Int × (List Track)) :=
 (iter laws_markTrackS.b0 (a0, a1, (0 : Int)))
def laws_markTrackS.Q (w : World) (F : Nat → Prop) (os : List Nat) (w0_0 : Value) (r : Int × (List Track)) (v : Value) (w' : World) : Prop :=
 v = (.int .i64 r.1) ∧ FW (Kd.sl 117 kd117) os w w' [w0_0] r.2 ∧ Ky os w w'
set_option maxHeartbeats 4000000 in
set_option maxRecDepth 100000 in
theorem laws_markTrackS.calls (a0 : (List Track)) (a1 : Int) (w : World) (F : Nat → Prop) (w0_0 : Value) (os : List Nat) (h0_0 : (Kd.sl 117 kd117).ow w [w0_0] a0 os) (hn : os.Nodup) (hF : ∀ b, F b → b ∉ os) (r : Int × (List Track)) (m : laws_markTrackS.f a0 a1 = some r) :
  Calls Tryz.prog 18 #[w0_0, (.int .i64 a1)] w fun en w' => ∃ v, en = .returned v ∧ laws_markTrackS.Q w F os w0_0 r v w' := by
 obtain ⟨s0, rfl, kp0, z⟩ := start1 w F os hF
 have A0_0 := z.ow h0_0 hn
 refine calls_of_TM (args := [w0_0, (.int .i64 a1)]) (R := fun r en w' => ∃ v, en = .returned v ∧ laws_markTrackS.Q s0.w F os w0_0 r v w') Tryz.func18 Tryz.ntmps18 rfl rfl m ?_
 unfold laws_markTrackS.f
 refine sr ?_
 refine pu rfl rfl rfl rfl rfl ?_
 refine dn ?_
 refine sq ?_
 refine sr ?_
 refine pu rfl rfl rfl rfl rfl ?_
 refine dn ?_
 refine bl ?_
 refine lpI (fun (x2 : (List Track) × Int × Int) (e : Env) (w : World) => ∃ (s : St) (e0 : Env), w = s.w ∧ e = upd (upd (upd e0 0 w0_0) 1 (.int .i64 x2.2.1)) 5 (.int .i64 x2.2.2) ∧ Kp s0 s ∧ OwF (Kd.sl 117 kd117) s [w0_0] x2.1 2) ⟨s0, _, rfl, (ue (ue (ue rfl rfl) rfl) rfl), kp0, A0_0⟩ (fun g2 ih2 => ?_)
 rintro x2 _ _ ⟨s3, _, rfl, rfl, Kx2, Ax2_0⟩
 unfold laws_markTrackS.b0
 refine sq ?_
 refine sr ?_
 refine pu rfl rfl rfl rfl rfl ?_
 refine mv w0_0 rfl rfl rfl rfl rfl rfl ?_
 refine ln Ax2_0.rd Tryz.underlying29 rfl rfl rfl rfl rfl rfl ?_
 refine pu rfl rfl rfl rfl rfl ?_
 refine dn ?_
 refine cd rfl (fun h5 => ?_) (fun h5 => ?_)
 ·
  refine sk ?_
  refine sq ?_
  refine bl ?_
  refine sr ?_
  refine mv w0_0 rfl rfl rfl rfl rfl rfl ?_
  refine pu rfl rfl rfl rfl rfl ?_
  refine pu rfl rfl rfl rfl rfl ?_
  refine ix Ax2_0.rd Tryz.underlying29 z117 rfl rfl rfl rfl rfl rfl rfl rfl (fun ad6 es6 h0_6 h1_6 he6 ce6 ia6 => ?_)
  obtain ⟨v6_0, v6_1, rfl, A6_0, A6_1⟩ := op117 he6
  refine fa fa117_0 rfl rfl rfl rfl rfl rfl ?_
  refine so (x' := (Track.mk x2.2.1 (at_ x2.1 x2.2.2).Begun (at_ x2.1 x2.2.2).Ended (at_ x2.1 x2.2.2).All (at_ x2.1 x2.2.2).Reads (at_ x2.1 x2.2.2).Writes (at_ x2.1 x2.2.2).In (at_ x2.1 x2.2.2).Out)) Ax2_0 ia6 h0_6 h1_6 (cs_iso (cs_left cs_flat)) z3 rfl rfl rfl rfl rfl rfl (fun s10 p10 A10 => ?_)
  refine nb (fun y12 h12 => ?_)
  have A12 : OwF (Kd.sl 117 kd117) s10 [w0_0] y12 2 := by rw [h12]; exact A10
  refine dn ?_
  refine sr ?_
  refine pu rfl rfl rfl rfl rfl ?_
  refine pu rfl rfl rfl rfl rfl ?_
  refine pu rfl rfl rfl rfl rfl ?_
  refine dn ?_
  refine sr ?_
  refine mv w0_0 rfl rfl rfl rfl rfl rfl ?_
  refine pu rfl rfl rfl rfl rfl ?_
  refine pu rfl rfl rfl rfl rfl ?_
  refine ix A12.rd Tryz.underlying29 z117 rfl rfl rfl rfl rfl rfl rfl rfl (fun ad13 es13 h0_13 h1_13 he13 ce13 ia13 => ?_)
  obtain ⟨v13_0, v13_1, rfl, A13_0, A13_1⟩ := op117 he13
  refine fa fa117_1 rfl rfl rfl rfl rfl rfl ?_
  refine so (x' := (Track.mk (at_ y12 x2.2.2).Xid (IntKind.wrap .i64 (x2.2.1 + (1 : Int))) (at_ y12 x2.2.2).Ended (at_ y12 x2.2.2).All (at_ y12 x2.2.2).Reads (at_ y12 x2.2.2).Writes (at_ y12 x2.2.2).In (at_ y12 x2.2.2).Out)) A12 ia13 h0_13 h1_13 (cs_iso (cs_right (cs_left cs_flat))) z3 rfl rfl rfl rfl rfl rfl (fun s17 p17 A17 => ?_)
  refine nb (fun y19 h19 => ?_)
  have A19 : OwF (Kd.sl 117 kd117) s17 [w0_0] y19 2 := by rw [h19]; exact A17
  refine dn ?_
  refine sr ?_
  refine pu rfl rfl rfl rfl rfl ?_
  refine pu rfl rfl rfl rfl rfl ?_
  refine pu rfl rfl rfl rfl rfl ?_
  refine dn ?_
  refine sr ?_
  refine mv w0_0 rfl rfl rfl rfl rfl rfl ?_
  refine pu rfl rfl rfl rfl rfl ?_
  refine pu rfl rfl rfl rfl rfl ?_
  refine ix A19.rd Tryz.underlying29 z117 rfl rfl rfl rfl rfl rfl rfl rfl (fun ad20 es20 h0_20 h1_20 he20 ce20 ia20 => ?_)
  obtain ⟨v20_0, v20_1, rfl, A20_0, A20_1⟩ := op117 he20
  refine fa fa117_2 rfl rfl rfl rfl rfl rfl ?_
  refine so (x' := (Track.mk (at_ y19 x2.2.2).Xid (at_ y19 x2.2.2).Begun (IntKind.wrap .i64 ((IntKind.wrap .i64 (x2.2.1 + (1 : Int))) + (1 : Int))) (at_ y19 x2.2.2).All (at_ y19 x2.2.2).Reads (at_ y19 x2.2.2).Writes (at_ y19 x2.2.2).In (at_ y19 x2.2.2).Out)) A19 ia20 h0_20 h1_20 (cs_iso (cs_right (cs_right (cs_left cs_flat)))) z3 rfl rfl rfl rfl rfl rfl (fun s24 p24 A24 => ?_)
  refine nb (fun y26 h26 => ?_)
  have A26 : OwF (Kd.sl 117 kd117) s24 [w0_0] y26 2 := by rw [h26]; exact A24
  refine dn ?_
  refine sr ?_
  refine pu rfl rfl rfl rfl rfl ?_
  refine pu rfl rfl rfl rfl rfl ?_
  refine pu rfl rfl rfl rfl rfl ?_
  refine dn ?_
  refine sr ?_
  refine mv w0_0 rfl rfl rfl rfl rfl rfl ?_
  refine pu rfl rfl rfl rfl rfl ?_
  refine pu rfl rfl rfl rfl rfl ?_
  refine remK rfl rfl rfl rfl rfl rfl rfl rfl ?_
  refine pu rfl rfl rfl rfl rfl ?_
  refine ix A26.rd Tryz.underlying29 z117 rfl rfl rfl rfl rfl rfl rfl rfl (fun ad27 es27 h0_27 h1_27 he27 ce27 ia27 => ?_)
  obtain ⟨v27_0, v27_1, rfl, A27_0, A27_1⟩ := op117 he27
  refine fa fa117_3 rfl rfl rfl rfl rfl rfl ?_
  refine so (x' := (Track.mk (at_ y26 x2.2.2).Xid (at_ y26 x2.2.2).Begun (at_ y26 x2.2.2).Ended (((IntKind.wrap .i64 ((IntKind.wrap .i64 ((IntKind.wrap .i64 (x2.2.1 + (1 : Int))) + (1 : Int))) + (1 : Int))).tmod (3 : Int)) == (0 : Int)) (at_ y26 x2.2.2).Reads (at_ y26 x2.2.2).Writes (at_ y26 x2.2.2).In (at_ y26 x2.2.2).Out)) A26 ia27 h0_27 h1_27 (cs_iso (cs_right (cs_right (cs_right (cs_left cs_flat))))) z4 rfl rfl rfl rfl rfl rfl (fun s31 p31 A31 => ?_)
  refine nb (fun y33 h33 => ?_)
  have A33 : OwF (Kd.sl 117 kd117) s31 [w0_0] y33 2 := by rw [h33]; exact A31
  refine dn ?_
  refine sr ?_
  refine pu rfl rfl rfl rfl rfl ?_
  refine pu rfl rfl rfl rfl rfl ?_
  refine pu rfl rfl rfl rfl rfl ?_
  refine dn ?_
  refine sr ?_
  refine mv w0_0 rfl rfl rfl rfl rfl rfl ?_
  refine pu rfl rfl rfl rfl rfl ?_
  refine ix A33.rd Tryz.underlying29 z117 rfl rfl rfl rfl rfl rfl rfl rfl (fun ad34 es34 h0_34 h1_34 he34 ce34 ia34 => ?_)
  obtain ⟨v34_0, v34_1, rfl, A34_0, A34_1⟩ := op117 he34
  refine fa fa117_4 rfl rfl rfl rfl rfl rfl ?_
  refine lc ce34 Tryz.underlying114 rfl rfl rfl rfl rfl rfl rfl rfl ?_
  refine pu rfl rfl rfl rfl rfl ?_
  obtain ⟨os38, ho38, hn38, hc38, put38⟩ := focus (ln_iso (fun x : Track => (x.Xid, x.Begun, x.Ended, x.All, x.Reads, x.Writes, x.In, x.Out)) (fun x => x.Reads) (fun x y => (Track.mk x.Xid x.Begun x.Ended x.All y x.Writes x.In x.Out)) (ln_right (ln_right (ln_right (ln_right (ln_left ln_sl))))) (fun _ => rfl) (fun _ _ => rfl)) A33 h0_34 h1_34 ia34 ce34 rfl rfl
  refine cl rfl rfl rfl rfl rfl Tryz.func89 rfl rfl rfl (fun r38 m38 => laws_markSpanS.calls ((at_ y33 x2.2.2).Reads) (IntKind.wrap .i64 ((IntKind.wrap .i64 ((IntKind.wrap .i64 ((IntKind.wrap .i64 (x2.2.1 + (1 : Int))) + (1 : Int))) + (1 : Int))) + (1 : Int))) s31.w (fun b => memb [] (s31.g b) = true) v34_0 os38 ho38 hn38 (apart_of hc38 rfl) r38 m38) ?_
  rintro r38 _ w38 m38 ⟨rfl, w38_, ky38⟩
  obtain ⟨s39, rfl, p39, A39⟩ := put38 w38 _ 40 ky38 w38_
  refine nb (fun y41 h41 => ?_)
  have A41 : OwF (Kd.sl 117 kd117) s39 [w0_0] y41 2 := by rw [h41]; exact A39
  refine pu rfl rfl rfl rfl rfl ?_
  refine dn ?_
  refine sr ?_
  refine mv w0_0 rfl rfl rfl rfl rfl rfl ?_
  refine pu rfl rfl rfl rfl rfl ?_
  refine ix A41.rd Tryz.underlying29 z117 rfl rfl rfl rfl rfl rfl rfl rfl (fun ad42 es42 h0_42 h1_42 he42 ce42 ia42 => ?_)
  obtain ⟨v42_0, v42_1, rfl, A42_0, A42_1⟩ := op117 he42
  refine fa fa117_5 rfl rfl rfl rfl rfl rfl ?_
  refine lc ce42 Tryz.underlying115 rfl rfl rfl rfl rfl rfl rfl rfl ?_
  refine pu rfl rfl rfl rfl rfl ?_
  obtain ⟨os46, ho46, hn46, hc46, put46⟩ := focus (ln_iso (fun x : Track => (x.Xid, x.Begun, x.Ended, x.All, x.Reads, x.Writes, x.In, x.Out)) (fun x => x.Writes) (fun x y => (Track.mk x.Xid x.Begun x.Ended x.All x.Reads y x.In x.Out)) (ln_right (ln_right (ln_right (ln_right (ln_right (ln_left ln_sl)))))) (fun _ => rfl) (fun _ _ => rfl)) A41 h0_42 h1_42 ia42 ce42 rfl rfl
  refine cl rfl rfl rfl rfl rfl Tryz.func90 rfl rfl rfl (fun r46 m46 => laws_markItemS.calls ((at_ y41 x2.2.2).Writes) r38.1 s39.w (fun b => memb [] (s39.g b) = true) v42_1 os46 ho46 hn46 (apart_of hc46 rfl) r46 m46) ?_
  rintro r46 _ w46 m46 ⟨rfl, w46_, ky46⟩
  obtain ⟨s47, rfl, p47, A47⟩ := put46 w46 _ 41 ky46 w46_
  refine nb (fun y49 h49 => ?_)
  have A49 : OwF (Kd.sl 117 kd117) s47 [w0_0] y49 2 := by rw [h49]; exact A47
  refine pu rfl rfl rfl rfl rfl ?_
  refine dn ?_
  refine sr ?_
  refine mv w0_0 rfl rfl rfl rfl rfl rfl ?_
  refine pu rfl rfl rfl rfl rfl ?_
  refine pu rfl rfl rfl rfl rfl ?_
  refine remK rfl rfl rfl rfl rfl rfl rfl rfl ?_
  refine pu rfl rfl rfl rfl rfl ?_
  refine ix A49.rd Tryz.underlying29 z117 rfl rfl rfl rfl rfl rfl rfl rfl (fun ad50 es50 h0_50 h1_50 he50 ce50 ia50 => ?_)
  obtain ⟨v50_0, v50_1, rfl, A50_0, A50_1⟩ := op117 he50
  refine fa fa117_6 rfl rfl rfl rfl rfl rfl ?_
  refine so (x' := (Track.mk (at_ y49 x2.2.2).Xid (at_ y49 x2.2.2).Begun (at_ y49 x2.2.2).Ended (at_ y49 x2.2.2).All (at_ y49 x2.2.2).Reads (at_ y49 x2.2.2).Writes ((r46.1.tmod (3 : Int)) == (0 : Int)) (at_ y49 x2.2.2).Out)) A49 ia50 h0_50 h1_50 (cs_iso (cs_right (cs_right (cs_right (cs_right (cs_right (cs_right (cs_left cs_flat)))))))) z4 rfl rfl rfl rfl rfl rfl (fun s54 p54 A54 => ?_)
  refine nb (fun y56 h56 => ?_)
  have A56 : OwF (Kd.sl 117 kd117) s54 [w0_0] y56 2 := by rw [h56]; exact A54
  refine dn ?_
  refine sr ?_
  refine pu rfl rfl rfl rfl rfl ?_
  refine pu rfl rfl rfl rfl rfl ?_
  refine pu rfl rfl rfl rfl rfl ?_
  refine dn ?_
  refine sr ?_
  refine mv w0_0 rfl rfl rfl rfl rfl rfl ?_
  refine pu rfl rfl rfl rfl rfl ?_
  refine pu rfl rfl rfl rfl rfl ?_
  refine remK rfl rfl rfl rfl rfl rfl rfl rfl ?_
  refine pu rfl rfl rfl rfl rfl ?_
  refine ix A56.rd Tryz.underlying29 z117 rfl rfl rfl rfl rfl rfl rfl rfl (fun ad57 es57 h0_57 h1_57 he57 ce57 ia57 => ?_)
  obtain ⟨v57_0, v57_1, rfl, A57_0, A57_1⟩ := op117 he57
  refine fa fa117_7 rfl rfl rfl rfl rfl rfl ?_
  refine so (x' := (Track.mk (at_ y56 x2.2.2).Xid (at_ y56 x2.2.2).Begun (at_ y56 x2.2.2).Ended (at_ y56 x2.2.2).All (at_ y56 x2.2.2).Reads (at_ y56 x2.2.2).Writes (at_ y56 x2.2.2).In (((IntKind.wrap .i64 (r46.1 + (1 : Int))).tmod (3 : Int)) == (0 : Int)))) A56 ia57 h0_57 h1_57 (cs_iso (cs_right (cs_right (cs_right (cs_right (cs_right (cs_right (cs_right cs_flat)))))))) z4 rfl rfl rfl rfl rfl rfl (fun s61 p61 A61 => ?_)
  refine nb (fun y63 h63 => ?_)
  have A63 : OwF (Kd.sl 117 kd117) s61 [w0_0] y63 2 := by rw [h63]; exact A61
  refine dn ?_
  refine rg ?_
  refine pu rfl rfl rfl rfl rfl ?_
  refine pu rfl rfl rfl rfl rfl ?_
  refine pu rfl rfl rfl rfl rfl ?_
  refine dn ?_
  refine ib ?_
  refine rg ?_
  refine pu rfl rfl rfl rfl rfl ?_
  refine pu rfl rfl rfl rfl rfl ?_
  refine pu rfl rfl rfl rfl rfl ?_
  refine dn ?_
  have K64 := ((((((((Kx2.st p10 rfl).st p17 rfl).st p24 rfl).st p31 rfl).st p39 rfl).st p47 rfl).st p54 rfl).st p61 rfl)
  exact lb ih2 ⟨s61, _, rfl, (ue (ue (ue rfl rfl) rfl) rfl), K64, A63⟩
 ·
  refine xt rfl ?_
  refine sgb ?_
  refine sr ?_
  refine pu rfl rfl rfl rfl rfl ?_
  refine pu rfl rfl rfl rfl rfl ?_
  refine dn ?_
  exact re rfl Tryz.func18 rfl (r_t rfl r_nil) rfl ⟨_, rfl, rfl, z.fw Kx2 Ax2_0, z.ky Kx2⟩
noncomputable def laws_markItem.f (a0 : Item) (a1 : Int) : Option (Int × (List Int)) :=
 ((laws_markByteS.f a0.T a1).bind fun r4 => (some (r4.1, r4.2)))
def laws_markItem.Q (w : World) (F : Nat → Prop) (os : List Nat) (w0_1 : Value) (r : Int × (List Int)) (v : Value) (w' : World) : Prop :=
 v = (.int .i64 r.1) ∧ FW (Kd.sl 5 (Kd.int .u8)) os w w' [w0_1] r.2 ∧ Ky os w w'
set_option maxHeartbeats 4000000 in
set_option maxRecDepth 100000 in
theorem laws_markItem.calls (a0 : Item) (a1 : Int) (w : World) (F : Nat → Prop) (w0_0 : Value) (w0_1 : Value) (h0_0 : Kd.flt.rd w [w0_0] a0.F F) (os : List Nat) (h0_1 : (Kd.sl 5 (Kd.int .u8)).ow w [w0_1] a0.T os) (hn : os.Nodup) (hF : ∀ b, F b → b ∉ os) (r : Int × (List Int)) (m : laws_markItem.f a0 a1 = some r) :
  Calls Tryz.prog 19 #[(.agg #[(.int .i64 a0.Kind), (.int .i64 a0.N), w0_0, w0_1]), (.int .i64 a1)] w fun en w' => ∃ v, en = .returned v ∧ laws_markItem.Q w F os w0_1 r v w' := by
 obtain ⟨s0, rfl, kp0, z⟩ := start1 w F os hF
 have A0_0 := fl_of h0_0
 have A0_1 := z.ow h0_1 hn
 refine calls_of_TM (args := [(.agg #[(.int .i64 a0.Kind), (.int .i64 a0.N), w0_0, w0_1]), (.int .i64 a1)]) (R := fun r en w' => ∃ v, en = .returned v ∧ laws_markItem.Q s0.w F os w0_1 r v w') Tryz.func19 Tryz.ntmps19 rfl rfl m ?_
 unfold laws_markItem.f
 refine sr ?_
 refine bx (cs := [(.int .i64 a0.Kind), (.int .i64 a0.N), w0_0, w0_1]) 40 rfl rfl rfl rfl rfl rfl (fun b2 s2 p2 B2 => ?_)
 refine pu rfl rfl rfl rfl rfl ?_
 refine dn ?_
 refine sr ?_
 refine fa fa33_3 rfl rfl rfl rfl rfl rfl ?_
 refine ld B2 Tryz.underlying24 rfl rfl rfl rfl rfl rfl rfl rfl ?_
 refine pu rfl rfl rfl rfl rfl ?_
 have A5 := (A0_1.st p2 rfl)
 obtain ⟨os4, ho4, hn4, hc4⟩ := A5
 refine cl rfl rfl rfl rfl rfl Tryz.func91 rfl rfl rfl (fun r4 m4 => laws_markByteS.calls a0.T a1 s2.w (fun b => memb [] (s2.g b) = true) w0_1 os4 ho4 hn4 (apart_of hc4 rfl) r4 m4) ?_
 rintro r4 _ w4 m4 ⟨rfl, w4_, ky4⟩
 obtain ⟨s6, rfl, p6, A6⟩ := nwo 41 hc4 ky4 w4_
 refine pu rfl rfl rfl rfl rfl ?_
 refine dn ?_
 refine sr ?_
 refine pu rfl rfl rfl rfl rfl ?_
 refine pu rfl rfl rfl rfl rfl ?_
 refine dn ?_
 have K8 := ((kp0.st p2 rfl).st p6 rfl)
 exact re rfl Tryz.func19 rfl (r_t rfl r_nil) rfl ⟨_, rfl, rfl, z.fw K8 A6, z.ky K8⟩
noncomputable def laws_heldByteS.b0 (a0 : (List Int)) (x2 : Int × Int) : Option ((Int × Int) ⊕ Int) :=
 (if (decide (x2.2 < (a0.length : Int))) = true then (if 0 ≤ x2.2 ∧ x2.2 < (a0.length : Int) then (if ((at_ a0 x2.2) != (IntKind.wrap .u8 x2.1)) = true then (some (Sum.inr (-1 : Int))) else (some (Sum.inl ((IntKind.wrap .i64 (x2.1 + (1 : Int))), (IntKind.wrap .i64 (x2.2 + (1 : Int))))))) else none) else ((some x2.1).bind fun o => some (Sum.inr o)))
noncomputable def laws_heldByteS.f (a0 : (List Int)) (a1 : Int) : Option (Int) :=
 (iter (laws_heldByteS.b0 a0) (a1, (0 : Int)))
def laws_heldByteS.Q (w : World) (F : Nat → Prop) (r : Int) (v : Value) (w' : World) : Prop :=
 v = (.int .i64 r) ∧ Ky [] w w'
set_option maxHeartbeats 4000000 in
set_option maxRecDepth 100000 in
theorem laws_heldByteS.calls (a0 : (List Int)) (a1 : Int) (w : World) (F : Nat → Prop) (w0_0 : Value) (h0_0 : (Kd.sl 5 (Kd.int .u8)).rd w [w0_0] a0 F) (r : Int) (m : laws_heldByteS.f a0 a1 = some r) :
  Calls Tryz.prog 181 #[w0_0, (.int .i64 a1)] w fun en w' => ∃ v, en = .returned v ∧ laws_heldByteS.Q w F r v w' := by
 obtain ⟨s0, rfl, kp0, z⟩ := start0 w F
 have A0_0 := z.rd h0_0
 refine calls_of_TM (args := [w0_0, (.int .i64 a1)]) (R := fun r en w' => ∃ v, en = .returned v ∧ laws_heldByteS.Q s0.w F r v w') Tryz.func181 Tryz.ntmps181 rfl rfl m ?_
 unfold laws_heldByteS.f
 refine sr ?_
 refine pu rfl rfl rfl rfl rfl ?_
 refine dn ?_
 refine sq ?_
 refine sr ?_
 refine pu rfl rfl rfl rfl rfl ?_
 refine dn ?_
 refine bl ?_
 refine lpI (fun (x2 : Int × Int) (e : Env) (w : World) => ∃ (s : St) (e0 : Env), w = s.w ∧ e = upd (upd (upd e0 0 w0_0) 1 (.int .i64 x2.1)) 5 (.int .i64 x2.2) ∧ Kp s0 s) ⟨s0, _, rfl, (ue (ue (ue rfl rfl) rfl) rfl), kp0⟩ (fun g2 ih2 => ?_)
 rintro x2 _ _ ⟨s3, _, rfl, rfl, Kx2⟩
 unfold laws_heldByteS.b0
 refine sq ?_
 refine sr ?_
 refine pu rfl rfl rfl rfl rfl ?_
 refine mv w0_0 rfl rfl rfl rfl rfl rfl ?_
 have A4 := (A0_0.kp Kx2)
 refine ln A4 Tryz.underlying24 rfl rfl rfl rfl rfl rfl ?_
 refine pu rfl rfl rfl rfl rfl ?_
 refine dn ?_
 refine cd rfl (fun h5 => ?_) (fun h5 => ?_)
 ·
  refine sk ?_
  refine sq ?_
  refine bl ?_
  refine sq ?_
  refine sr ?_
  refine mv w0_0 rfl rfl rfl rfl rfl rfl ?_
  refine pu rfl rfl rfl rfl rfl ?_
  refine ix A4 Tryz.underlying24 z5 rfl rfl rfl rfl rfl rfl rfl rfl (fun ad6 es6 h0_6 h1_6 he6 ce6 ia6 => ?_)
  obtain rfl := he6
  refine lc0 ce6 Tryz.underlying5 rfl rfl rfl rfl rfl rfl rfl rfl ?_
  refine pu rfl rfl rfl rfl rfl ?_
  refine cv Tryz.underlying5 Tryz.underlying3 rfl rfl rfl rfl rfl rfl ?_
  refine pu rfl rfl rfl rfl rfl ?_
  refine dn ?_
  refine cd rfl (fun h8 => ?_) (fun h8 => ?_)
  ·
   refine sr ?_
   refine pu rfl rfl rfl rfl rfl ?_
   refine dn ?_
   refine sgi ?_
   exact re rfl Tryz.func181 rfl (r_t rfl r_nil) rfl ⟨_, rfl, rfl, z.ky Kx2⟩
  ·
   refine sk ?_
   refine rg ?_
   refine pu rfl rfl rfl rfl rfl ?_
   refine pu rfl rfl rfl rfl rfl ?_
   refine pu rfl rfl rfl rfl rfl ?_
   refine dn ?_
   refine ib ?_
   refine rg ?_
   refine pu rfl rfl rfl rfl rfl ?_
   refine pu rfl rfl rfl rfl rfl ?_
   refine pu rfl rfl rfl rfl rfl ?_
   refine dn ?_
   exact lb ih2 ⟨s3, _, rfl, (ue (ue (ue rfl rfl) rfl) rfl), Kx2⟩
 ·
  refine xt rfl ?_
  refine sgb ?_
  refine sr ?_
  refine pu rfl rfl rfl rfl rfl ?_
  refine pu rfl rfl rfl rfl rfl ?_
  refine dn ?_
  exact re rfl Tryz.func181 rfl (r_t rfl r_nil) rfl ⟨_, rfl, rfl, z.ky Kx2⟩
noncomputable def laws_heldSpanS.b0 (a0 : (List Span)) (x2 : Int × Int) : Option ((Int × Int) ⊕ Int) :=
 (if (decide (x2.2 < (a0.length : Int))) = true then (if 0 ≤ x2.2 ∧ x2.2 < (a0.length : Int) then (if (((at_ a0 x2.2).From).Kind != x2.1) = true then (some (Sum.inr (-1 : Int))) else (if 0 ≤ x2.2 ∧ x2.2 < (a0.length : Int) then (if (((at_ a0 x2.2).From).N != (IntKind.wrap .i64 (x2.1 + (1 : Int)))) = true then (some (Sum.inr (-1 : Int))) else (if 0 ≤ x2.2 ∧ x2.2 < (a0.length : Int) then (if (fcmp .f64 (((at_ a0 x2.2).From).F) (FloatKind.f64.nearest (IntKind.wrap .i64 ((IntKind.wrap .i64 (x2.1 + (1 : Int))) + (1 : Int)))) != some .eq) = true then (some (Sum.inr (-1 : Int))) else (if 0 ≤ x2.2 ∧ x2.2 < (a0.length : Int) then ((laws_heldByteS.f (((at_ a0 x2.2).From).T) (IntKind.wrap .i64 ((IntKind.wrap .i64 ((IntKind.wrap .i64 (x2.1 + (1 : Int))) + (1 : Int))) + (1 : Int)))).bind fun r26 => (if (decide (r26 < (0 : Int))) = true then (some (Sum.inr (-1 : Int))) else (if 0 ≤ x2.2 ∧ x2.2 < (a0.length : Int) then (if (((at_ a0 x2.2).To).Kind != r26) = true then (some (Sum.inr (-1 : Int))) else (if 0 ≤ x2.2 ∧ x2.2 < (a0.length : Int) then (if (((at_ a0 x2.2).To).N != (IntKind.wrap .i64 (r26 + (1 : Int)))) = true then (some (Sum.inr (-1 : Int))) else (if 0 ≤ x2.2 ∧ x2.2 < (a0.length : Int) then (if (fcmp .f64 (((at_ a0 x2.2).To).F) (FloatKind.f64.nearest (IntKind.wrap .i64 ((IntKind.wrap .i64 (r26 + (1 : Int))) + (1 : Int)))) != some .eq) = true then (some (Sum.inr (-1 : Int))) else (if 0 ≤ x2.2 ∧ x2.2 < (a0.length : Int) then ((laws_heldByteS.f (((at_ a0 x2.2).To).T) (IntKind.wrap .i64 ((IntKind.wrap .i64 ((IntKind.wrap .i64 (r26 + (1 : Int))) + (1 : Int))) + (1 : Int)))).bind fun r52 => (if (decide (r52 < (0 : Int))) = true then (some (Sum.inr (-1 : Int))) else (some (Sum.inl (r52, (IntKind.wrap .i64 (x2.2 + (1 : Int)))))))) else none)) else none)) else none)) else none))) else none)) else none)) else none)) else none) else ((some x2.1).bind fun o => some (Sum.inr o)))
noncomputable def laws_heldSpanS.f (a0 : (List Span)) (a1 : Int) : Option (Int) :=
 (iter (laws_heldSpanS.b0 a0) (a1, (0 : Int)))
def laws_heldSpanS.Q (w : World) (F : Nat → Prop) (r : Int) (v : Value) (w' : World) : Prop :=
 v = (.int .i64 r) ∧ Ky [] w w'
set_option maxHeartbeats 4000000 in
set_option maxRecDepth 100000 in
theorem laws_heldSpanS.calls (a0 : (List Span)) (a1 : Int) (w : World) (F : Nat → Prop) (w0_0 : Value) (h0_0 : (Kd.sl 200 kd200).rd w [w0_0] a0 F) (r : Int) (m : laws_heldSpanS.f a0 a1 = some r) :
  Calls Tryz.prog 92 #[w0_0, (.int .i64 a1)] w fun en w' => ∃ v, en = .returned v ∧ laws_heldSpanS.Q w F r v w' := by
 obtain ⟨s0, rfl, kp0, z⟩ := start0 w F
 have A0_0 := z.rd h0_0
 refine calls_of_TM (args := [w0_0, (.int .i64 a1)]) (R := fun r en w' => ∃ v, en = .returned v ∧ laws_heldSpanS.Q s0.w F r v w') Tryz.func92 Tryz.ntmps92 rfl rfl m ?_
 unfold laws_heldSpanS.f
 refine sr ?_
 refine pu rfl rfl rfl rfl rfl ?_
 refine dn ?_
 refine sq ?_
 refine sr ?_
 refine pu rfl rfl rfl rfl rfl ?_
 refine dn ?_
 refine bl ?_
 refine lpI (fun (x2 : Int × Int) (e : Env) (w : World) => ∃ (s : St) (e0 : Env), w = s.w ∧ e = upd (upd (upd e0 0 w0_0) 1 (.int .i64 x2.1)) 5 (.int .i64 x2.2) ∧ Kp s0 s) ⟨s0, _, rfl, (ue (ue (ue rfl rfl) rfl) rfl), kp0⟩ (fun g2 ih2 => ?_)
 rintro x2 _ _ ⟨s3, _, rfl, rfl, Kx2⟩
 unfold laws_heldSpanS.b0
 refine sq ?_
 refine sr ?_
 refine pu rfl rfl rfl rfl rfl ?_
 refine mv w0_0 rfl rfl rfl rfl rfl rfl ?_
 have A4 := (A0_0.kp Kx2)
 refine ln A4 Tryz.underlying114 rfl rfl rfl rfl rfl rfl ?_
 refine pu rfl rfl rfl rfl rfl ?_
 refine dn ?_
 refine cd rfl (fun h5 => ?_) (fun h5 => ?_)
 ·
  refine sk ?_
  refine sq ?_
  refine bl ?_
  refine sq ?_
  refine sr ?_
  refine mv w0_0 rfl rfl rfl rfl rfl rfl ?_
  refine pu rfl rfl rfl rfl rfl ?_
  refine ix A4 Tryz.underlying114 z200 rfl rfl rfl rfl rfl rfl rfl rfl (fun ad6 es6 h0_6 h1_6 he6 ce6 ia6 => ?_)
  obtain ⟨v6_0, v6_1, v6_2, v6_3, rfl, A6_0, A6_1, A6_2, A6_3⟩ := op200 he6
  refine fa fa200_0 rfl rfl rfl rfl rfl rfl ?_
  refine fa fa33_0 rfl rfl rfl rfl rfl rfl ?_
  refine lc0 ce6 Tryz.underlying3 rfl rfl rfl rfl rfl rfl rfl rfl ?_
  refine pu rfl rfl rfl rfl rfl ?_
  refine pu rfl rfl rfl rfl rfl ?_
  refine dn ?_
  refine cd rfl (fun h10 => ?_) (fun h10 => ?_)
  ·
   refine sr ?_
   refine pu rfl rfl rfl rfl rfl ?_
   refine dn ?_
   refine sgi ?_
   exact re rfl Tryz.func92 rfl (r_t rfl r_nil) rfl ⟨_, rfl, rfl, z.ky Kx2⟩
  ·
   refine sk ?_
   refine sr ?_
   refine pu rfl rfl rfl rfl rfl ?_
   refine pu rfl rfl rfl rfl rfl ?_
   refine pu rfl rfl rfl rfl rfl ?_
   refine dn ?_
   refine sq ?_
   refine sr ?_
   refine mv w0_0 rfl rfl rfl rfl rfl rfl ?_
   refine pu rfl rfl rfl rfl rfl ?_
   refine ix A4 Tryz.underlying114 z200 rfl rfl rfl rfl rfl rfl rfl rfl (fun ad11 es11 h0_11 h1_11 he11 ce11 ia11 => ?_)
   obtain ⟨v11_0, v11_1, v11_2, v11_3, rfl, A11_0, A11_1, A11_2, A11_3⟩ := op200 he11
   refine fa fa200_0 rfl rfl rfl rfl rfl rfl ?_
   refine fa fa33_1 rfl rfl rfl rfl rfl rfl ?_
   refine lc ce11 Tryz.underlying3 rfl rfl rfl rfl rfl rfl rfl rfl ?_
   refine pu rfl rfl rfl rfl rfl ?_
   refine pu rfl rfl rfl rfl rfl ?_
   refine dn ?_
   refine cd rfl (fun h15 => ?_) (fun h15 => ?_)
   ·
    refine sr ?_
    refine pu rfl rfl rfl rfl rfl ?_
    refine dn ?_
    refine sgi ?_
    exact re rfl Tryz.func92 rfl (r_t rfl r_nil) rfl ⟨_, rfl, rfl, z.ky Kx2⟩
   ·
    refine sk ?_
    refine sr ?_
    refine pu rfl rfl rfl rfl rfl ?_
    refine pu rfl rfl rfl rfl rfl ?_
    refine pu rfl rfl rfl rfl rfl ?_
    refine dn ?_
    refine sq ?_
    refine sr ?_
    refine mv w0_0 rfl rfl rfl rfl rfl rfl ?_
    refine pu rfl rfl rfl rfl rfl ?_
    refine ix A4 Tryz.underlying114 z200 rfl rfl rfl rfl rfl rfl rfl rfl (fun ad16 es16 h0_16 h1_16 he16 ce16 ia16 => ?_)
    obtain ⟨v16_0, v16_1, v16_2, v16_3, rfl, A16_0, A16_1, A16_2, A16_3⟩ := op200 he16
    refine fa fa200_0 rfl rfl rfl rfl rfl rfl ?_
    refine fa fa33_2 rfl rfl rfl rfl rfl rfl ?_
    refine lc ce16 Tryz.underlying23 rfl rfl rfl rfl rfl rfl rfl rfl ?_
    refine pu rfl rfl rfl rfl rfl ?_
    refine i2f Tryz.underlying23 Tryz.underlying3 rfl rfl rfl rfl rfl rfl (fun v20 A20 => ?_)
    refine fq_ A16_0 A20 rfl rfl rfl rfl rfl rfl rfl rfl ?_
    refine dn ?_
    refine cd rfl (fun h21 => ?_) (fun h21 => ?_)
    ·
     refine sr ?_
     refine pu rfl rfl rfl rfl rfl ?_
     refine dn ?_
     refine sgi ?_
     exact re rfl Tryz.func92 rfl (r_t rfl r_nil) rfl ⟨_, rfl, rfl, z.ky Kx2⟩
    ·
     refine sk ?_
     refine sr ?_
     refine pu rfl rfl rfl rfl rfl ?_
     refine pu rfl rfl rfl rfl rfl ?_
     refine pu rfl rfl rfl rfl rfl ?_
     refine dn ?_
     refine sr ?_
     refine mv w0_0 rfl rfl rfl rfl rfl rfl ?_
     refine pu rfl rfl rfl rfl rfl ?_
     refine ix A4 Tryz.underlying114 z200 rfl rfl rfl rfl rfl rfl rfl rfl (fun ad22 es22 h0_22 h1_22 he22 ce22 ia22 => ?_)
     obtain ⟨v22_0, v22_1, v22_2, v22_3, rfl, A22_0, A22_1, A22_2, A22_3⟩ := op200 he22
     refine fa fa200_0 rfl rfl rfl rfl rfl rfl ?_
     refine fa fa33_3 rfl rfl rfl rfl rfl rfl ?_
     refine lc ce22 Tryz.underlying24 rfl rfl rfl rfl rfl rfl rfl rfl ?_
     refine pu rfl rfl rfl rfl rfl ?_
     refine cl rfl rfl rfl rfl rfl Tryz.func181 rfl rfl rfl (fun r26 m26 => laws_heldByteS.calls (((at_ a0 x2.2).From).T) (IntKind.wrap .i64 ((IntKind.wrap .i64 ((IntKind.wrap .i64 (x2.1 + (1 : Int))) + (1 : Int))) + (1 : Int))) s3.w (fun b => memb [0] (s3.g b) = true) v22_1 A22_1 r26 m26) ?_
     rintro r26 _ w26 m26 ⟨rfl, ky26⟩
     obtain ⟨s27, rfl, p27, n27⟩ := nwx s3 w26 40 ky26
     refine pu rfl rfl rfl rfl rfl ?_
     refine dn ?_
     refine sq ?_
     refine sr ?_
     refine pu rfl rfl rfl rfl rfl ?_
     refine pu rfl rfl rfl rfl rfl ?_
     refine dn ?_
     refine cd rfl (fun h28 => ?_) (fun h28 => ?_)
     ·
      refine sr ?_
      refine pu rfl rfl rfl rfl rfl ?_
      refine dn ?_
      refine sgi ?_
      have K29 := (Kx2.st p27 rfl)
      exact re rfl Tryz.func92 rfl (r_t rfl r_nil) rfl ⟨_, rfl, rfl, z.ky K29⟩
     ·
      refine sk ?_
      refine sq ?_
      refine sr ?_
      refine mv w0_0 rfl rfl rfl rfl rfl rfl ?_
      refine pu rfl rfl rfl rfl rfl ?_
      have K30 := (Kx2.st p27 rfl)
      have A31 := (A0_0.kp K30)
      refine ix A31 Tryz.underlying114 z200 rfl rfl rfl rfl rfl rfl rfl rfl (fun ad32 es32 h0_32 h1_32 he32 ce32 ia32 => ?_)
      obtain ⟨v32_0, v32_1, v32_2, v32_3, rfl, A32_0, A32_1, A32_2, A32_3⟩ := op200 he32
      refine fa fa200_1 rfl rfl rfl rfl rfl rfl ?_
      refine faq (q := 4) (q' := 0) (n := 4) fa33_0 rfl rfl rfl rfl rfl rfl rfl ?_
      refine lc ce32 Tryz.underlying3 rfl rfl rfl rfl rfl rfl rfl rfl ?_
      refine pu rfl rfl rfl rfl rfl ?_
      refine pu rfl rfl rfl rfl rfl ?_
      refine dn ?_
      refine cd rfl (fun h36 => ?_) (fun h36 => ?_)
      ·
       refine sr ?_
       refine pu rfl rfl rfl rfl rfl ?_
       refine dn ?_
       refine sgi ?_
       exact re rfl Tryz.func92 rfl (r_t rfl r_nil) rfl ⟨_, rfl, rfl, z.ky K30⟩
      ·
       refine sk ?_
       refine sr ?_
       refine pu rfl rfl rfl rfl rfl ?_
       refine pu rfl rfl rfl rfl rfl ?_
       refine pu rfl rfl rfl rfl rfl ?_
       refine dn ?_
       refine sq ?_
       refine sr ?_
       refine mv w0_0 rfl rfl rfl rfl rfl rfl ?_
       refine pu rfl rfl rfl rfl rfl ?_
       refine ix A31 Tryz.underlying114 z200 rfl rfl rfl rfl rfl rfl rfl rfl (fun ad37 es37 h0_37 h1_37 he37 ce37 ia37 => ?_)
       obtain ⟨v37_0, v37_1, v37_2, v37_3, rfl, A37_0, A37_1, A37_2, A37_3⟩ := op200 he37
       refine fa fa200_1 rfl rfl rfl rfl rfl rfl ?_
       refine faq (q := 4) (q' := 1) (n := 5) fa33_1 rfl rfl rfl rfl rfl rfl rfl ?_
       refine lc ce37 Tryz.underlying3 rfl rfl rfl rfl rfl rfl rfl rfl ?_
       refine pu rfl rfl rfl rfl rfl ?_
       refine pu rfl rfl rfl rfl rfl ?_
       refine dn ?_
       refine cd rfl (fun h41 => ?_) (fun h41 => ?_)
       ·
        refine sr ?_
        refine pu rfl rfl rfl rfl rfl ?_
        refine dn ?_
        refine sgi ?_
        exact re rfl Tryz.func92 rfl (r_t rfl r_nil) rfl ⟨_, rfl, rfl, z.ky K30⟩
       ·
        refine sk ?_
        refine sr ?_
        refine pu rfl rfl rfl rfl rfl ?_
        refine pu rfl rfl rfl rfl rfl ?_
        refine pu rfl rfl rfl rfl rfl ?_
        refine dn ?_
        refine sq ?_
        refine sr ?_
        refine mv w0_0 rfl rfl rfl rfl rfl rfl ?_
        refine pu rfl rfl rfl rfl rfl ?_
        refine ix A31 Tryz.underlying114 z200 rfl rfl rfl rfl rfl rfl rfl rfl (fun ad42 es42 h0_42 h1_42 he42 ce42 ia42 => ?_)
        obtain ⟨v42_0, v42_1, v42_2, v42_3, rfl, A42_0, A42_1, A42_2, A42_3⟩ := op200 he42
        refine fa fa200_1 rfl rfl rfl rfl rfl rfl ?_
        refine faq (q := 4) (q' := 2) (n := 6) fa33_2 rfl rfl rfl rfl rfl rfl rfl ?_
        refine lc ce42 Tryz.underlying23 rfl rfl rfl rfl rfl rfl rfl rfl ?_
        refine pu rfl rfl rfl rfl rfl ?_
        refine i2f Tryz.underlying23 Tryz.underlying3 rfl rfl rfl rfl rfl rfl (fun v46 A46 => ?_)
        refine fq_ A42_2 A46 rfl rfl rfl rfl rfl rfl rfl rfl ?_
        refine dn ?_
        refine cd rfl (fun h47 => ?_) (fun h47 => ?_)
        ·
         refine sr ?_
         refine pu rfl rfl rfl rfl rfl ?_
         refine dn ?_
         refine sgi ?_
         exact re rfl Tryz.func92 rfl (r_t rfl r_nil) rfl ⟨_, rfl, rfl, z.ky K30⟩
        ·
         refine sk ?_
         refine sr ?_
         refine pu rfl rfl rfl rfl rfl ?_
         refine pu rfl rfl rfl rfl rfl ?_
         refine pu rfl rfl rfl rfl rfl ?_
         refine dn ?_
         refine sr ?_
         refine mv w0_0 rfl rfl rfl rfl rfl rfl ?_
         refine pu rfl rfl rfl rfl rfl ?_
         refine ix A31 Tryz.underlying114 z200 rfl rfl rfl rfl rfl rfl rfl rfl (fun ad48 es48 h0_48 h1_48 he48 ce48 ia48 => ?_)
         obtain ⟨v48_0, v48_1, v48_2, v48_3, rfl, A48_0, A48_1, A48_2, A48_3⟩ := op200 he48
         refine fa fa200_1 rfl rfl rfl rfl rfl rfl ?_
         refine faq (q := 4) (q' := 3) (n := 7) fa33_3 rfl rfl rfl rfl rfl rfl rfl ?_
         refine lc ce48 Tryz.underlying24 rfl rfl rfl rfl rfl rfl rfl rfl ?_
         refine pu rfl rfl rfl rfl rfl ?_
         refine cl rfl rfl rfl rfl rfl Tryz.func181 rfl rfl rfl (fun r52 m52 => laws_heldByteS.calls (((at_ a0 x2.2).To).T) (IntKind.wrap .i64 ((IntKind.wrap .i64 ((IntKind.wrap .i64 (r26 + (1 : Int))) + (1 : Int))) + (1 : Int))) s27.w (fun b => memb [0] (s27.g b) = true) v48_3 A48_3 r52 m52) ?_
         rintro r52 _ w52 m52 ⟨rfl, ky52⟩
         obtain ⟨s53, rfl, p53, n53⟩ := nwx s27 w52 41 ky52
         refine pu rfl rfl rfl rfl rfl ?_
         refine dn ?_
         refine sr ?_
         refine pu rfl rfl rfl rfl rfl ?_
         refine pu rfl rfl rfl rfl rfl ?_
         refine dn ?_
         refine cd rfl (fun h54 => ?_) (fun h54 => ?_)
         ·
          refine sr ?_
          refine pu rfl rfl rfl rfl rfl ?_
          refine dn ?_
          refine sgi ?_
          have K55 := (K30.st p53 rfl)
          exact re rfl Tryz.func92 rfl (r_t rfl r_nil) rfl ⟨_, rfl, rfl, z.ky K55⟩
         ·
          refine sk ?_
          refine ib ?_
          refine rg ?_
          refine pu rfl rfl rfl rfl rfl ?_
          refine pu rfl rfl rfl rfl rfl ?_
          refine pu rfl rfl rfl rfl rfl ?_
          refine dn ?_
          have K56 := (K30.st p53 rfl)
          exact lb ih2 ⟨s53, _, rfl, (ue (ue (ue rfl rfl) rfl) rfl), K56⟩
 ·
  refine xt rfl ?_
  refine sgb ?_
  refine sr ?_
  refine pu rfl rfl rfl rfl rfl ?_
  refine pu rfl rfl rfl rfl rfl ?_
  refine dn ?_
  exact re rfl Tryz.func92 rfl (r_t rfl r_nil) rfl ⟨_, rfl, rfl, z.ky Kx2⟩
noncomputable def laws_heldItemS.b0 (a0 : (List Item)) (x2 : Int × Int) : Option ((Int × Int) ⊕ Int) :=
 (if (decide (x2.2 < (a0.length : Int))) = true then (if 0 ≤ x2.2 ∧ x2.2 < (a0.length : Int) then (if ((at_ a0 x2.2).Kind != x2.1) = true then (some (Sum.inr (-1 : Int))) else (if 0 ≤ x2.2 ∧ x2.2 < (a0.length : Int) then (if ((at_ a0 x2.2).N != (IntKind.wrap .i64 (x2.1 + (1 : Int)))) = true then (some (Sum.inr (-1 : Int))) else (if 0 ≤ x2.2 ∧ x2.2 < (a0.length : Int) then (if (fcmp .f64 ((at_ a0 x2.2).F) (FloatKind.f64.nearest (IntKind.wrap .i64 ((IntKind.wrap .i64 (x2.1 + (1 : Int))) + (1 : Int)))) != some .eq) = true then (some (Sum.inr (-1 : Int))) else (if 0 ≤ x2.2 ∧ x2.2 < (a0.length : Int) then ((laws_heldByteS.f ((at_ a0 x2.2).T) (IntKind.wrap .i64 ((IntKind.wrap .i64 ((IntKind.wrap .i64 (x2.1 + (1 : Int))) + (1 : Int))) + (1 : Int)))).bind fun r22 => (if (decide (r22 < (0 : Int))) = true then (some (Sum.inr (-1 : Int))) else (some (Sum.inl (r22, (IntKind.wrap .i64 (x2.2 + (1 : Int)))))))) else none)) else none)) else none)) else none) else ((some x2.1).bind fun o => some (Sum.inr o)))
noncomputable def laws_heldItemS.f (a0 : (List Item)) (a1 : Int) : Option (Int) :=
 (iter (laws_heldItemS.b0 a0) (a1, (0 : Int)))
def laws_heldItemS.Q (w : World) (F : Nat → Prop) (r : Int) (v : Value) (w' : World) : Prop :=
 v = (.int .i64 r) ∧ Ky [] w w'
set_option maxHeartbeats 4000000 in
set_option maxRecDepth 100000 in
theorem laws_heldItemS.calls (a0 : (List Item)) (a1 : Int) (w : World) (F : Nat → Prop) (w0_0 : Value) (h0_0 : (Kd.sl 33 kd33).rd w [w0_0] a0 F) (r : Int) (m : laws_heldItemS.f a0 a1 = some r) :
  Calls Tryz.prog 93 #[w0_0, (.int .i64 a1)] w fun en w' => ∃ v, en = .returned v ∧ laws_heldItemS.Q w F r v w' := by
 obtain ⟨s0, rfl, kp0, z⟩ := start0 w F
 have A0_0 := z.rd h0_0
 refine calls_of_TM (args := [w0_0, (.int .i64 a1)]) (R := fun r en w' => ∃ v, en = .returned v ∧ laws_heldItemS.Q s0.w F r v w') Tryz.func93 Tryz.ntmps93 rfl rfl m ?_
 unfold laws_heldItemS.f
 refine sr ?_
 refine pu rfl rfl rfl rfl rfl ?_
 refine dn ?_
 refine sq ?_
 refine sr ?_
 refine pu rfl rfl rfl rfl rfl ?_
 refine dn ?_
 refine bl ?_
 refine lpI (fun (x2 : Int × Int) (e : Env) (w : World) => ∃ (s : St) (e0 : Env), w = s.w ∧ e = upd (upd (upd e0 0 w0_0) 1 (.int .i64 x2.1)) 5 (.int .i64 x2.2) ∧ Kp s0 s) ⟨s0, _, rfl, (ue (ue (ue rfl rfl) rfl) rfl), kp0⟩ (fun g2 ih2 => ?_)
 rintro x2 _ _ ⟨s3, _, rfl, rfl, Kx2⟩
 unfold laws_heldItemS.b0
 refine sq ?_
 refine sr ?_
 refine pu rfl rfl rfl rfl rfl ?_
 refine mv w0_0 rfl rfl rfl rfl rfl rfl ?_
 have A4 := (A0_0.kp Kx2)
 refine ln A4 Tryz.underlying115 rfl rfl rfl rfl rfl rfl ?_
 refine pu rfl rfl rfl rfl rfl ?_
 refine dn ?_
 refine cd rfl (fun h5 => ?_) (fun h5 => ?_)
 ·
  refine sk ?_
  refine sq ?_
  refine bl ?_
  refine sq ?_
  refine sr ?_
  refine mv w0_0 rfl rfl rfl rfl rfl rfl ?_
  refine pu rfl rfl rfl rfl rfl ?_
  refine ix A4 Tryz.underlying115 z33 rfl rfl rfl rfl rfl rfl rfl rfl (fun ad6 es6 h0_6 h1_6 he6 ce6 ia6 => ?_)
  obtain ⟨v6_0, v6_1, rfl, A6_0, A6_1⟩ := op33 he6
  refine fa fa33_0 rfl rfl rfl rfl rfl rfl ?_
  refine lc0 ce6 Tryz.underlying3 rfl rfl rfl rfl rfl rfl rfl rfl ?_
  refine pu rfl rfl rfl rfl rfl ?_
  refine pu rfl rfl rfl rfl rfl ?_
  refine dn ?_
  refine cd rfl (fun h9 => ?_) (fun h9 => ?_)
  ·
   refine sr ?_
   refine pu rfl rfl rfl rfl rfl ?_
   refine dn ?_
   refine sgi ?_
   exact re rfl Tryz.func93 rfl (r_t rfl r_nil) rfl ⟨_, rfl, rfl, z.ky Kx2⟩
  ·
   refine sk ?_
   refine sr ?_
   refine pu rfl rfl rfl rfl rfl ?_
   refine pu rfl rfl rfl rfl rfl ?_
   refine pu rfl rfl rfl rfl rfl ?_
   refine dn ?_
   refine sq ?_
   refine sr ?_
   refine mv w0_0 rfl rfl rfl rfl rfl rfl ?_
   refine pu rfl rfl rfl rfl rfl ?_
   refine ix A4 Tryz.underlying115 z33 rfl rfl rfl rfl rfl rfl rfl rfl (fun ad10 es10 h0_10 h1_10 he10 ce10 ia10 => ?_)
   obtain ⟨v10_0, v10_1, rfl, A10_0, A10_1⟩ := op33 he10
   refine fa fa33_1 rfl rfl rfl rfl rfl rfl ?_
   refine lc ce10 Tryz.underlying3 rfl rfl rfl rfl rfl rfl rfl rfl ?_
   refine pu rfl rfl rfl rfl rfl ?_
   refine pu rfl rfl rfl rfl rfl ?_
   refine dn ?_
   refine cd rfl (fun h13 => ?_) (fun h13 => ?_)
   ·
    refine sr ?_
    refine pu rfl rfl rfl rfl rfl ?_
    refine dn ?_
    refine sgi ?_
    exact re rfl Tryz.func93 rfl (r_t rfl r_nil) rfl ⟨_, rfl, rfl, z.ky Kx2⟩
   ·
    refine sk ?_
    refine sr ?_
    refine pu rfl rfl rfl rfl rfl ?_
    refine pu rfl rfl rfl rfl rfl ?_
    refine pu rfl rfl rfl rfl rfl ?_
    refine dn ?_
    refine sq ?_
    refine sr ?_
    refine mv w0_0 rfl rfl rfl rfl rfl rfl ?_
    refine pu rfl rfl rfl rfl rfl ?_
    refine ix A4 Tryz.underlying115 z33 rfl rfl rfl rfl rfl rfl rfl rfl (fun ad14 es14 h0_14 h1_14 he14 ce14 ia14 => ?_)
    obtain ⟨v14_0, v14_1, rfl, A14_0, A14_1⟩ := op33 he14
    refine fa fa33_2 rfl rfl rfl rfl rfl rfl ?_
    refine lc ce14 Tryz.underlying23 rfl rfl rfl rfl rfl rfl rfl rfl ?_
    refine pu rfl rfl rfl rfl rfl ?_
    refine i2f Tryz.underlying23 Tryz.underlying3 rfl rfl rfl rfl rfl rfl (fun v17 A17 => ?_)
    refine fq_ A14_0 A17 rfl rfl rfl rfl rfl rfl rfl rfl ?_
    refine dn ?_
    refine cd rfl (fun h18 => ?_) (fun h18 => ?_)
    ·
     refine sr ?_
     refine pu rfl rfl rfl rfl rfl ?_
     refine dn ?_
     refine sgi ?_
     exact re rfl Tryz.func93 rfl (r_t rfl r_nil) rfl ⟨_, rfl, rfl, z.ky Kx2⟩
    ·
     refine sk ?_
     refine sr ?_
     refine pu rfl rfl rfl rfl rfl ?_
     refine pu rfl rfl rfl rfl rfl ?_
     refine pu rfl rfl rfl rfl rfl ?_
     refine dn ?_
     refine sr ?_
     refine mv w0_0 rfl rfl rfl rfl rfl rfl ?_
     refine pu rfl rfl rfl rfl rfl ?_
     refine ix A4 Tryz.underlying115 z33 rfl rfl rfl rfl rfl rfl rfl rfl (fun ad19 es19 h0_19 h1_19 he19 ce19 ia19 => ?_)
     obtain ⟨v19_0, v19_1, rfl, A19_0, A19_1⟩ := op33 he19
     refine fa fa33_3 rfl rfl rfl rfl rfl rfl ?_
     refine lc ce19 Tryz.underlying24 rfl rfl rfl rfl rfl rfl rfl rfl ?_
     refine pu rfl rfl rfl rfl rfl ?_
     refine cl rfl rfl rfl rfl rfl Tryz.func181 rfl rfl rfl (fun r22 m22 => laws_heldByteS.calls ((at_ a0 x2.2).T) (IntKind.wrap .i64 ((IntKind.wrap .i64 ((IntKind.wrap .i64 (x2.1 + (1 : Int))) + (1 : Int))) + (1 : Int))) s3.w (fun b => memb [0] (s3.g b) = true) v19_1 A19_1 r22 m22) ?_
     rintro r22 _ w22 m22 ⟨rfl, ky22⟩
     obtain ⟨s23, rfl, p23, n23⟩ := nwx s3 w22 40 ky22
     refine pu rfl rfl rfl rfl rfl ?_
     refine dn ?_
     refine sr ?_
     refine pu rfl rfl rfl rfl rfl ?_
     refine pu rfl rfl rfl rfl rfl ?_
     refine dn ?_
     refine cd rfl (fun h24 => ?_) (fun h24 => ?_)
     ·
      refine sr ?_
      refine pu rfl rfl rfl rfl rfl ?_
      refine dn ?_
      refine sgi ?_
      have K25 := (Kx2.st p23 rfl)
      exact re rfl Tryz.func93 rfl (r_t rfl r_nil) rfl ⟨_, rfl, rfl, z.ky K25⟩
     ·
      refine sk ?_
      refine ib ?_
      refine rg ?_
      refine pu rfl rfl rfl rfl rfl ?_
      refine pu rfl rfl rfl rfl rfl ?_
      refine pu rfl rfl rfl rfl rfl ?_
      refine dn ?_
      have K26 := (Kx2.st p23 rfl)
      exact lb ih2 ⟨s23, _, rfl, (ue (ue (ue rfl rfl) rfl) rfl), K26⟩
 ·
  refine xt rfl ?_
  refine sgb ?_
  refine sr ?_
  refine pu rfl rfl rfl rfl rfl ?_
  refine pu rfl rfl rfl rfl rfl ?_
  refine dn ?_
  exact re rfl Tryz.func93 rfl (r_t rfl r_nil) rfl ⟨_, rfl, rfl, z.ky Kx2⟩
noncomputable def laws_heldTrackS.b0 (a0 : (List Track)) (x2 : Int × Int) : Option ((Int × Int) ⊕ Int) :=
 (if (decide (x2.2 < (a0.length : Int))) = true then (if 0 ≤ x2.2 ∧ x2.2 < (a0.length : Int) then (if ((at_ a0 x2.2).Xid != x2.1) = true then (some (Sum.inr (-1 : Int))) else (if 0 ≤ x2.2 ∧ x2.2 < (a0.length : Int) then (if ((at_ a0 x2.2).Begun != (IntKind.wrap .i64 (x2.1 + (1 : Int)))) = true then (some (Sum.inr (-1 : Int))) else (if 0 ≤ x2.2 ∧ x2.2 < (a0.length : Int) then (if ((at_ a0 x2.2).Ended != (IntKind.wrap .i64 ((IntKind.wrap .i64 (x2.1 + (1 : Int))) + (1 : Int)))) = true then (some (Sum.inr (-1 : Int))) else (if 0 ≤ x2.2 ∧ x2.2 < (a0.length : Int) then (if (!(((at_ a0 x2.2).All) == (((IntKind.wrap .i64 ((IntKind.wrap .i64 ((IntKind.wrap .i64 (x2.1 + (1 : Int))) + (1 : Int))) + (1 : Int))).tmod (3 : Int)) == (0 : Int)))) = true then (some (Sum.inr (-1 : Int))) else (if 0 ≤ x2.2 ∧ x2.2 < (a0.length : Int) then ((laws_heldSpanS.f ((at_ a0 x2.2).Reads) (IntKind.wrap .i64 ((IntKind.wrap .i64 ((IntKind.wrap .i64 ((IntKind.wrap .i64 (x2.1 + (1 : Int))) + (1 : Int))) + (1 : Int))) + (1 : Int)))).bind fun r30 => (if (decide (r30 < (0 : Int))) = true then (some (Sum.inr (-1 : Int))) else (if 0 ≤ x2.2 ∧ x2.2 < (a0.length : Int) then ((laws_heldItemS.f ((at_ a0 x2.2).Writes) r30).bind fun r40 => (if (decide (r40 < (0 : Int))) = true then (some (Sum.inr (-1 : Int))) else (if 0 ≤ x2.2 ∧ x2.2 < (a0.length : Int) then (if (!(((at_ a0 x2.2).In) == ((r40.tmod (3 : Int)) == (0 : Int)))) = true then (some (Sum.inr (-1 : Int))) else (if 0 ≤ x2.2 ∧ x2.2 < (a0.length : Int) then (if (!(((at_ a0 x2.2).Out) == (((IntKind.wrap .i64 (r40 + (1 : Int))).tmod (3 : Int)) == (0 : Int)))) = true then (some (Sum.inr (-1 : Int))) else (some (Sum.inl ((IntKind.wrap .i64 ((IntKind.wrap .i64 (r40 + (1 : Int))) + (1 : Int))), (IntKind.wrap .i64 (x2.2 + (1 : Int))))))) else none)) else none))) else none))) else none)) else none)) else none)) else none)) else none) else ((some x2.1).bind fun o => some (Sum.inr o)))
noncomputable def laws_heldTrackS.f (a0 : (List Track)) (a1 : Int) : Option (Int) :=
 (iter (laws_heldTrackS.b0 a0) (a1, (0 : Int)))
def laws_heldTrackS.Q (w : World) (F : Nat → Prop) (r : Int) (v : Value) (w' : World) : Prop :=
 v = (.int .i64 r) ∧ Ky [] w w'
set_option maxHeartbeats 4000000 in
set_option maxRecDepth 100000 in
theorem laws_heldTrackS.calls (a0 : (List Track)) (a1 : Int) (w : World) (F : Nat → Prop) (w0_0 : Value) (h0_0 : (Kd.sl 117 kd117).rd w [w0_0] a0 F) (r : Int) (m : laws_heldTrackS.f a0 a1 = some r) :
  Calls Tryz.prog 20 #[w0_0, (.int .i64 a1)] w fun en w' => ∃ v, en = .returned v ∧ laws_heldTrackS.Q w F r v w' := by
 obtain ⟨s0, rfl, kp0, z⟩ := start0 w F
 have A0_0 := z.rd h0_0
 refine calls_of_TM (args := [w0_0, (.int .i64 a1)]) (R := fun r en w' => ∃ v, en = .returned v ∧ laws_heldTrackS.Q s0.w F r v w') Tryz.func20 Tryz.ntmps20 rfl rfl m ?_
 unfold laws_heldTrackS.f
 refine sr ?_
 refine pu rfl rfl rfl rfl rfl ?_
 refine dn ?_
 refine sq ?_
 refine sr ?_
 refine pu rfl rfl rfl rfl rfl ?_
 refine dn ?_
 refine bl ?_
 refine lpI (fun (x2 : Int × Int) (e : Env) (w : World) => ∃ (s : St) (e0 : Env), w = s.w ∧ e = upd (upd (upd e0 0 w0_0) 1 (.int .i64 x2.1)) 5 (.int .i64 x2.2) ∧ Kp s0 s) ⟨s0, _, rfl, (ue (ue (ue rfl rfl) rfl) rfl), kp0⟩ (fun g2 ih2 => ?_)
 rintro x2 _ _ ⟨s3, _, rfl, rfl, Kx2⟩
 unfold laws_heldTrackS.b0
 refine sq ?_
 refine sr ?_
 refine pu rfl rfl rfl rfl rfl ?_
 refine mv w0_0 rfl rfl rfl rfl rfl rfl ?_
 have A4 := (A0_0.kp Kx2)
 refine ln A4 Tryz.underlying29 rfl rfl rfl rfl rfl rfl ?_
 refine pu rfl rfl rfl rfl rfl ?_
 refine dn ?_
 refine cd rfl (fun h5 => ?_) (fun h5 => ?_)
 ·
  refine sk ?_
  refine sq ?_
  refine bl ?_
  refine sq ?_
  refine sr ?_
  refine mv w0_0 rfl rfl rfl rfl rfl rfl ?_
  refine pu rfl rfl rfl rfl rfl ?_
  refine ix A4 Tryz.underlying29 z117 rfl rfl rfl rfl rfl rfl rfl rfl (fun ad6 es6 h0_6 h1_6 he6 ce6 ia6 => ?_)
  obtain ⟨v6_0, v6_1, rfl, A6_0, A6_1⟩ := op117 he6
  refine fa fa117_0 rfl rfl rfl rfl rfl rfl ?_
  refine lc0 ce6 Tryz.underlying3 rfl rfl rfl rfl rfl rfl rfl rfl ?_
  refine pu rfl rfl rfl rfl rfl ?_
  refine pu rfl rfl rfl rfl rfl ?_
  refine dn ?_
  refine cd rfl (fun h10 => ?_) (fun h10 => ?_)
  ·
   refine sr ?_
   refine pu rfl rfl rfl rfl rfl ?_
   refine dn ?_
   refine sgi ?_
   exact re rfl Tryz.func20 rfl (r_t rfl r_nil) rfl ⟨_, rfl, rfl, z.ky Kx2⟩
  ·
   refine sk ?_
   refine sr ?_
   refine pu rfl rfl rfl rfl rfl ?_
   refine pu rfl rfl rfl rfl rfl ?_
   refine pu rfl rfl rfl rfl rfl ?_
   refine dn ?_
   refine sq ?_
   refine sr ?_
   refine mv w0_0 rfl rfl rfl rfl rfl rfl ?_
   refine pu rfl rfl rfl rfl rfl ?_
   refine ix A4 Tryz.underlying29 z117 rfl rfl rfl rfl rfl rfl rfl rfl (fun ad11 es11 h0_11 h1_11 he11 ce11 ia11 => ?_)
   obtain ⟨v11_0, v11_1, rfl, A11_0, A11_1⟩ := op117 he11
   refine fa fa117_1 rfl rfl rfl rfl rfl rfl ?_
   refine lc ce11 Tryz.underlying3 rfl rfl rfl rfl rfl rfl rfl rfl ?_
   refine pu rfl rfl rfl rfl rfl ?_
   refine pu rfl rfl rfl rfl rfl ?_
   refine dn ?_
   refine cd rfl (fun h15 => ?_) (fun h15 => ?_)
   ·
    refine sr ?_
    refine pu rfl rfl rfl rfl rfl ?_
    refine dn ?_
    refine sgi ?_
    exact re rfl Tryz.func20 rfl (r_t rfl r_nil) rfl ⟨_, rfl, rfl, z.ky Kx2⟩
   ·
    refine sk ?_
    refine sr ?_
    refine pu rfl rfl rfl rfl rfl ?_
    refine pu rfl rfl rfl rfl rfl ?_
    refine pu rfl rfl rfl rfl rfl ?_
    refine dn ?_
    refine sq ?_
    refine sr ?_
    refine mv w0_0 rfl rfl rfl rfl rfl rfl ?_
    refine pu rfl rfl rfl rfl rfl ?_
    refine ix A4 Tryz.underlying29 z117 rfl rfl rfl rfl rfl rfl rfl rfl (fun ad16 es16 h0_16 h1_16 he16 ce16 ia16 => ?_)
    obtain ⟨v16_0, v16_1, rfl, A16_0, A16_1⟩ := op117 he16
    refine fa fa117_2 rfl rfl rfl rfl rfl rfl ?_
    refine lc ce16 Tryz.underlying3 rfl rfl rfl rfl rfl rfl rfl rfl ?_
    refine pu rfl rfl rfl rfl rfl ?_
    refine pu rfl rfl rfl rfl rfl ?_
    refine dn ?_
    refine cd rfl (fun h20 => ?_) (fun h20 => ?_)
    ·
     refine sr ?_
     refine pu rfl rfl rfl rfl rfl ?_
     refine dn ?_
     refine sgi ?_
     exact re rfl Tryz.func20 rfl (r_t rfl r_nil) rfl ⟨_, rfl, rfl, z.ky Kx2⟩
    ·
     refine sk ?_
     refine sr ?_
     refine pu rfl rfl rfl rfl rfl ?_
     refine pu rfl rfl rfl rfl rfl ?_
     refine pu rfl rfl rfl rfl rfl ?_
     refine dn ?_
     refine sq ?_
     refine sr ?_
     refine mv w0_0 rfl rfl rfl rfl rfl rfl ?_
     refine pu rfl rfl rfl rfl rfl ?_
     refine ix A4 Tryz.underlying29 z117 rfl rfl rfl rfl rfl rfl rfl rfl (fun ad21 es21 h0_21 h1_21 he21 ce21 ia21 => ?_)
     obtain ⟨v21_0, v21_1, rfl, A21_0, A21_1⟩ := op117 he21
     refine fa fa117_3 rfl rfl rfl rfl rfl rfl ?_
     refine lc ce21 Tryz.underlying4 rfl rfl rfl rfl rfl rfl rfl rfl ?_
     refine pu rfl rfl rfl rfl rfl ?_
     refine remK rfl rfl rfl rfl rfl rfl rfl rfl ?_
     refine pu rfl rfl rfl rfl rfl ?_
     refine bne_ Tryz.underlying4 rfl rfl rfl rfl rfl rfl rfl ?_
     refine dn ?_
     refine cd rfl (fun h25 => ?_) (fun h25 => ?_)
     ·
      refine sr ?_
      refine pu rfl rfl rfl rfl rfl ?_
      refine dn ?_
      refine sgi ?_
      exact re rfl Tryz.func20 rfl (r_t rfl r_nil) rfl ⟨_, rfl, rfl, z.ky Kx2⟩
     ·
      refine sk ?_
      refine sr ?_
      refine pu rfl rfl rfl rfl rfl ?_
      refine pu rfl rfl rfl rfl rfl ?_
      refine pu rfl rfl rfl rfl rfl ?_
      refine dn ?_
      refine sr ?_
      refine mv w0_0 rfl rfl rfl rfl rfl rfl ?_
      refine pu rfl rfl rfl rfl rfl ?_
      refine ix A4 Tryz.underlying29 z117 rfl rfl rfl rfl rfl rfl rfl rfl (fun ad26 es26 h0_26 h1_26 he26 ce26 ia26 => ?_)
      obtain ⟨v26_0, v26_1, rfl, A26_0, A26_1⟩ := op117 he26
      refine fa fa117_4 rfl rfl rfl rfl rfl rfl ?_
      refine lc ce26 Tryz.underlying114 rfl rfl rfl rfl rfl rfl rfl rfl ?_
      refine pu rfl rfl rfl rfl rfl ?_
      refine cl rfl rfl rfl rfl rfl Tryz.func92 rfl rfl rfl (fun r30 m30 => laws_heldSpanS.calls ((at_ a0 x2.2).Reads) (IntKind.wrap .i64 ((IntKind.wrap .i64 ((IntKind.wrap .i64 ((IntKind.wrap .i64 (x2.1 + (1 : Int))) + (1 : Int))) + (1 : Int))) + (1 : Int))) s3.w (fun b => memb [0] (s3.g b) = true) v26_0 A26_0 r30 m30) ?_
      rintro r30 _ w30 m30 ⟨rfl, ky30⟩
      obtain ⟨s31, rfl, p31, n31⟩ := nwx s3 w30 40 ky30
      refine pu rfl rfl rfl rfl rfl ?_
      refine dn ?_
      refine sq ?_
      refine sr ?_
      refine pu rfl rfl rfl rfl rfl ?_
      refine pu rfl rfl rfl rfl rfl ?_
      refine dn ?_
      refine cd rfl (fun h32 => ?_) (fun h32 => ?_)
      ·
       refine sr ?_
       refine pu rfl rfl rfl rfl rfl ?_
       refine dn ?_
       refine sgi ?_
       have K33 := (Kx2.st p31 rfl)
       exact re rfl Tryz.func20 rfl (r_t rfl r_nil) rfl ⟨_, rfl, rfl, z.ky K33⟩
      ·
       refine sk ?_
       refine sr ?_
       refine mv w0_0 rfl rfl rfl rfl rfl rfl ?_
       refine pu rfl rfl rfl rfl rfl ?_
       have K34 := (Kx2.st p31 rfl)
       have A35 := (A0_0.kp K34)
       refine ix A35 Tryz.underlying29 z117 rfl rfl rfl rfl rfl rfl rfl rfl (fun ad36 es36 h0_36 h1_36 he36 ce36 ia36 => ?_)
       obtain ⟨v36_0, v36_1, rfl, A36_0, A36_1⟩ := op117 he36
       refine fa fa117_5 rfl rfl rfl rfl rfl rfl ?_
       refine lc ce36 Tryz.underlying115 rfl rfl rfl rfl rfl rfl rfl rfl ?_
       refine pu rfl rfl rfl rfl rfl ?_
       refine cl rfl rfl rfl rfl rfl Tryz.func93 rfl rfl rfl (fun r40 m40 => laws_heldItemS.calls ((at_ a0 x2.2).Writes) r30 s31.w (fun b => memb [0] (s31.g b) = true) v36_1 A36_1 r40 m40) ?_
       rintro r40 _ w40 m40 ⟨rfl, ky40⟩
       obtain ⟨s41, rfl, p41, n41⟩ := nwx s31 w40 41 ky40
       refine pu rfl rfl rfl rfl rfl ?_
       refine dn ?_
       refine sq ?_
       refine sr ?_
       refine pu rfl rfl rfl rfl rfl ?_
       refine pu rfl rfl rfl rfl rfl ?_
       refine dn ?_
       refine cd rfl (fun h42 => ?_) (fun h42 => ?_)
       ·
        refine sr ?_
        refine pu rfl rfl rfl rfl rfl ?_
        refine dn ?_
        refine sgi ?_
        have K43 := (K34.st p41 rfl)
        exact re rfl Tryz.func20 rfl (r_t rfl r_nil) rfl ⟨_, rfl, rfl, z.ky K43⟩
       ·
        refine sk ?_
        refine sq ?_
        refine sr ?_
        refine mv w0_0 rfl rfl rfl rfl rfl rfl ?_
        refine pu rfl rfl rfl rfl rfl ?_
        have K44 := (K34.st p41 rfl)
        have A45 := (A0_0.kp K44)
        refine ix A45 Tryz.underlying29 z117 rfl rfl rfl rfl rfl rfl rfl rfl (fun ad46 es46 h0_46 h1_46 he46 ce46 ia46 => ?_)
        obtain ⟨v46_0, v46_1, rfl, A46_0, A46_1⟩ := op117 he46
        refine fa fa117_6 rfl rfl rfl rfl rfl rfl ?_
        refine lc ce46 Tryz.underlying4 rfl rfl rfl rfl rfl rfl rfl rfl ?_
        refine pu rfl rfl rfl rfl rfl ?_
        refine remK rfl rfl rfl rfl rfl rfl rfl rfl ?_
        refine pu rfl rfl rfl rfl rfl ?_
        refine bne_ Tryz.underlying4 rfl rfl rfl rfl rfl rfl rfl ?_
        refine dn ?_
        refine cd rfl (fun h50 => ?_) (fun h50 => ?_)
        ·
         refine sr ?_
         refine pu rfl rfl rfl rfl rfl ?_
         refine dn ?_
         refine sgi ?_
         exact re rfl Tryz.func20 rfl (r_t rfl r_nil) rfl ⟨_, rfl, rfl, z.ky K44⟩
        ·
         refine sk ?_
         refine sr ?_
         refine pu rfl rfl rfl rfl rfl ?_
         refine pu rfl rfl rfl rfl rfl ?_
         refine pu rfl rfl rfl rfl rfl ?_
         refine dn ?_
         refine sq ?_
         refine sr ?_
         refine mv w0_0 rfl rfl rfl rfl rfl rfl ?_
         refine pu rfl rfl rfl rfl rfl ?_
         refine ix A45 Tryz.underlying29 z117 rfl rfl rfl rfl rfl rfl rfl rfl (fun ad51 es51 h0_51 h1_51 he51 ce51 ia51 => ?_)
         obtain ⟨v51_0, v51_1, rfl, A51_0, A51_1⟩ := op117 he51
         refine fa fa117_7 rfl rfl rfl rfl rfl rfl ?_
         refine lc ce51 Tryz.underlying4 rfl rfl rfl rfl rfl rfl rfl rfl ?_
         refine pu rfl rfl rfl rfl rfl ?_
         refine remK rfl rfl rfl rfl rfl rfl rfl rfl ?_
         refine pu rfl rfl rfl rfl rfl ?_
         refine bne_ Tryz.underlying4 rfl rfl rfl rfl rfl rfl rfl ?_
         refine dn ?_
         refine cd rfl (fun h55 => ?_) (fun h55 => ?_)
         ·
          refine sr ?_
          refine pu rfl rfl rfl rfl rfl ?_
          refine dn ?_
          refine sgi ?_
          exact re rfl Tryz.func20 rfl (r_t rfl r_nil) rfl ⟨_, rfl, rfl, z.ky K44⟩
         ·
          refine sk ?_
          refine rg ?_
          refine pu rfl rfl rfl rfl rfl ?_
          refine pu rfl rfl rfl rfl rfl ?_
          refine pu rfl rfl rfl rfl rfl ?_
          refine dn ?_
          refine ib ?_
          refine rg ?_
          refine pu rfl rfl rfl rfl rfl ?_
          refine pu rfl rfl rfl rfl rfl ?_
          refine pu rfl rfl rfl rfl rfl ?_
          refine dn ?_
          exact lb ih2 ⟨s41, _, rfl, (ue (ue (ue rfl rfl) rfl) rfl), K44⟩
 ·
  refine xt rfl ?_
  refine sgb ?_
  refine sr ?_
  refine pu rfl rfl rfl rfl rfl ?_
  refine pu rfl rfl rfl rfl rfl ?_
  refine dn ?_
  exact re rfl Tryz.func20 rfl (r_t rfl r_nil) rfl ⟨_, rfl, rfl, z.ky Kx2⟩
noncomputable def laws_FnExactEdgeWrite.f (a0 : (List Track)) (a1 : Int) (a2 : Item) : Option (Bool) :=
 ((laws_szTrackS.f a0 (1048576 : Int)).bind fun r7 => (if (decide (r7 < (0 : Int))) = true then (some true) else ((laws_szItem.f a2 r7).bind fun r14 => (if (decide (r14 < (0 : Int))) = true then (some true) else ((laws_toTrackS.f a0).bind fun r27 => ((laws_toItem.f a2).bind fun r35 => ((spec_EdgeWrite.f r27 a1 r35).bind fun r41 => ((laws_toTrackS.f a0).bind fun r51 => ((laws_toItem.f a2).bind fun r57 => ((impl_EdgeWrite.f r51 a1 r57).bind fun r67 => ((laws_eqTrackS.f r67.1 r41.1).bind fun r71 => (if ((!r71) || (r67.2 != r41.2)) = true then (some false) else ((laws_toTrackS.f a0).bind fun r78 => ((laws_eqTrackS.f r51 r78).bind fun r82 => (if (!r82) = true then (some false) else ((laws_toItem.f a2).bind fun r96 => ((laws_eqItem.f r57 r96).bind fun r102 => (if (!r102) = true then (some false) else ((laws_markTrackS.f r51 (1 : Int)).bind fun r106 => ((laws_markItem.f r57 r106.1).bind fun r111 => ((if (decide (r111.1 < (0 : Int))) = true then (some true) else ((laws_eqTrackS.f r67.1 r41.1).bind fun r122 => (some (!r122)))).bind fun y115 => (if (y115 || (r67.2 != r41.2)) = true then (some false) else ((laws_markTrackS.f r67.1 (1 : Int)).bind fun r132 => ((laws_heldTrackS.f r132.2 (1 : Int)).bind fun r135 => (if (decide (r135 < (0 : Int))) = true then (some false) else (if (r135 != r132.1) = true then (some false) else ((laws_toTrackS.f a0).bind fun r150 => ((laws_toItem.f a2).bind fun r158 => ((impl_EdgeWrite.f r150 a1 r158).bind fun r164 => ((laws_eqTrackS.f r164.1 r41.1).bind fun r173 => (if ((!r173) || (r164.2 != r41.2)) = true then (some false) else ((laws_heldTrackS.f r132.2 (1 : Int)).bind fun r179 => (if (decide (r179 < (0 : Int))) = true then (some false) else (if (r179 != r132.1) = true then (some false) else (some true)))))))))))))))))))))))))))))))))))
def laws_FnExactEdgeWrite.Q (w : World) (F : Nat → Prop) (r : Bool) (v : Value) (w' : World) : Prop :=
 v = (.bool r) ∧ Ky [] w w'
set_option maxHeartbeats 4000000 in
set_option maxRecDepth 100000 in
theorem laws_FnExactEdgeWrite.calls (a0 : (List Track)) (a1 : Int) (a2 : Item) (w : World) (F : Nat → Prop) (w0_0 : Value) (w2_0 : Value) (w2_1 : Value) (h0_0 : (Kd.sl 109 kd109).rd w [w0_0] a0 F) (h2_0 : Kd.flt.rd w [w2_0] a2.F F) (h2_1 : (Kd.sl 5 (Kd.int .u8)).rd w [w2_1] a2.T F) (r : Bool) (m : laws_FnExactEdgeWrite.f a0 a1 a2 = some r) :
  Calls Tryz.prog 3 #[w0_0, (.int .i64 a1), (.agg #[(.int .i64 a2.Kind), (.int .i64 a2.N), w2_0, w2_1])] w fun en w' => ∃ v, en = .returned v ∧ laws_FnExactEdgeWrite.Q w F r v w' := by
 obtain ⟨s0, rfl, kp0, z⟩ := start0 w F
 have A0_0 := z.rd h0_0
 have A2_0 := fl_of h2_0
 have A2_1 := z.rd h2_1
 refine calls_of_TM (args := [w0_0, (.int .i64 a1), (.agg #[(.int .i64 a2.Kind), (.int .i64 a2.N), w2_0, w2_1])]) (R := fun r en w' => ∃ v, en = .returned v ∧ laws_FnExactEdgeWrite.Q s0.w F r v w') Tryz.func3 Tryz.ntmps3 rfl rfl m ?_
 unfold laws_FnExactEdgeWrite.f
 refine sr ?_
 refine bx (cs := [(.int .i64 a2.Kind), (.int .i64 a2.N), w2_0, w2_1]) 40 rfl rfl rfl rfl rfl rfl (fun b3 s3 p3 B3 => ?_)
 refine pu rfl rfl rfl rfl rfl ?_
 refine dn ?_
 refine sr ?_
 refine pu rfl rfl rfl rfl rfl ?_
 refine dn ?_
 refine sr ?_
 refine mv w0_0 rfl rfl rfl rfl rfl rfl ?_
 refine pu rfl rfl rfl rfl rfl ?_
 have K5 := (kp0.st p3 rfl)
 have A6 := (A0_0.kp K5)
 refine cl rfl rfl rfl rfl rfl Tryz.func10 rfl rfl rfl (fun r7 m7 => laws_szTrackS.calls a0 (1048576 : Int) s3.w (fun b => memb [0] (s3.g b) = true) w0_0 A6 r7 m7) ?_
 rintro r7 _ w7 m7 ⟨rfl, ky7⟩
 obtain ⟨s8, rfl, p8, n8⟩ := nwx s3 w7 41 ky7
 refine pu rfl rfl rfl rfl rfl ?_
 refine dn ?_
 refine sq ?_
 refine sr ?_
 refine pu rfl rfl rfl rfl rfl ?_
 refine pu rfl rfl rfl rfl rfl ?_
 refine dn ?_
 refine cd rfl (fun h9 => ?_) (fun h9 => ?_)
 ·
  refine sr ?_
  refine pu rfl rfl rfl rfl rfl ?_
  refine dn ?_
  have K10 := (K5.st p8 rfl)
  exact re rfl Tryz.func3 rfl (r_t rfl r_nil) rfl ⟨_, rfl, rfl, z.ky K10⟩
 ·
  refine sk ?_
  refine sr ?_
  have A11 := (BlF.st B3 p8 rfl)
  refine lda (es := [(.int .i64 a2.Kind), (.int .i64 a2.N), w2_0, w2_1]) A11 Tryz.underlying26 z26 rfl rfl rfl rfl rfl rfl rfl rfl ?_
  refine pu rfl rfl rfl rfl rfl ?_
  have K12 := (K5.st p8 rfl)
  have A13 := (A2_1.kp K12)
  refine cl rfl rfl rfl rfl rfl Tryz.func11 rfl rfl rfl (fun r14 m14 => laws_szItem.calls a2 r7 s8.w (fun b => memb [0] (s8.g b) = true) w2_0 w2_1 ((fl_rdf (s := s8) A2_0).sub (D := [0]) rfl) A13 r14 m14) ?_
  rintro r14 _ w14 m14 ⟨rfl, ky14⟩
  obtain ⟨s15, rfl, p15, n15⟩ := nwx s8 w14 42 ky14
  refine pu rfl rfl rfl rfl rfl ?_
  refine dn ?_
  refine sq ?_
  refine sr ?_
  refine pu rfl rfl rfl rfl rfl ?_
  refine pu rfl rfl rfl rfl rfl ?_
  refine dn ?_
  refine cd rfl (fun h16 => ?_) (fun h16 => ?_)
  ·
   refine sr ?_
   refine pu rfl rfl rfl rfl rfl ?_
   refine dn ?_
   have K17 := (K12.st p15 rfl)
   exact re rfl Tryz.func3 rfl (r_t rfl r_nil) rfl ⟨_, rfl, rfl, z.ky K17⟩
  ·
   refine sk ?_
   refine sq ?_
   refine zdraw [[], [0], [], [], [3, 1], [1, 2, 4, 4], [5], [6], [6], [7, 5, 0, 1, 2, 3, 4, 5, 6, 7], [8, 9, 0, 1, 2, 3, 4, 5, 6, 7, 8, 9]] [some 30, some 31, some 32, some 33, some 34, some 35, some 29, some 36, some 37, some 8, some 9] [[0], [30], [1], [5], [33], [31, 32, 34], [35], [29], [29], [36], [37]] [0, 1, 2, 3, 4, 5, 6, 7, 9, 8, 10] ⟨by kernel_rfl, by kernel_rfl, by kernel_rfl⟩ (by kernel_rfl) (fun s18 p18 l18 tb18 zd18 => ?_)
   have zd19 := zd18.add 0 30 w0_0 rfl
   have zd20 := zd19.add 2 32 (.int .i64 a1) rfl
   have A21 := (BlF.st (BlF.st A11 p15 rfl) p18 rfl)
   have zd22 := zd20.add 3 33 (.agg #[(.int .i64 a2.Kind), (.int .i64 a2.N), w2_0, w2_1]) rfl
   have A24 := (BlF.st (BlF.st A11 p15 rfl) p18 rfl)
   refine zstep 1 [some 33, some 32] tb18 zd22 (pq_cons (lda_q (es := [(.int .i64 a2.Kind), (.int .i64 a2.N), w2_0, w2_1]) A24 Tryz.underlying26 z26 rfl rfl rfl rfl rfl rfl rfl rfl) rfl (pq_cons (pu_q rfl rfl rfl rfl rfl rfl) rfl (pq_cons (mv_q w0_0 rfl rfl rfl rfl rfl rfl) rfl pq_nil))) (by kernel_rfl) rfl (fun l23 e23 zd23 => ?_)
   have K25 := ((K12.st p15 rfl).st p18 rfl)
   have A26 := (A0_0.kp K25)
   refine cl rfl rfl rfl rfl rfl Tryz.func13 rfl rfl rfl (fun r27 m27 => laws_toTrackS.calls a0 s18.w (fun b => memb [0] (s18.g b) = true) w0_0 A26 r27 m27) ?_
   rintro r27 v27_0 w27 m27 ⟨f27_0, ky27⟩
   obtain ⟨s28, rfl, p28, n28⟩ := nwx s18 w27 43 ky27
   have A27_0 := f27_0.c n28
   refine zdone (L' := [3, 2]) (D' := [0, 1]) zd23 rfl rfl rfl (fun zd30 => ?_)
   have A32 := (BlF.st (BlF.st (BlF.st A11 p15 rfl) p18 rfl) p28 rfl)
   refine zstep 4 [some 32] tb18 zd30 (pq_cons (lda_q (es := [(.int .i64 a2.Kind), (.int .i64 a2.N), w2_0, w2_1]) A32 Tryz.underlying26 z26 rfl rfl rfl rfl rfl rfl rfl rfl) rfl (pq_cons (pu_q rfl rfl rfl rfl rfl rfl) rfl pq_nil)) (by kernel_rfl) rfl (fun l31 e31 zd31 => ?_)
   have K33 := (K25.st p28 rfl)
   have A34 := (A2_1.kp K33)
   refine cl rfl rfl rfl rfl rfl Tryz.func14 rfl rfl rfl (fun r35 m35 => laws_toItem.calls a2 s28.w (fun b => memb [0] (s28.g b) = true) w2_0 w2_1 ((fl_rdf (s := s28) A2_0).sub (D := [0]) rfl) A34 r35 m35) ?_
   rintro r35 _ w35 m35 ⟨v35_0, v35_1, rfl, f35_0, ky35⟩
   obtain ⟨s36, rfl, p36, n36⟩ := nwx s28 w35 44 ky35
   have A35_0 := f35_0.c n36
   obtain ⟨os35_0, ho35_0, hn35_0, hc35_0⟩ := A35_0
   obtain ⟨u35_0_0, u35_0_1, qu35_0_1, e35_0, eo35_0, hu35_0_0, hu35_0_1⟩ := po33 ho35_0
   have yu35_0_0 : v35_0 = u35_0_0 := congrArg (fun l => (List.drop 2 l).headD undef) e35_0
   have yu35_0_1 : v35_1 = u35_0_1 := congrArg (fun l => (List.drop 3 l).headD undef) e35_0
   subst yu35_0_0
   subst yu35_0_1
   subst eo35_0
   have Au35_0_1 : OwF (Kd.sl 5 (Kd.int .u8)) s36 [v35_1] r35.T 44 := sp1 hu35_0_1 hn35_0 hc35_0
   refine zdone (L' := [2]) (D' := [3, 4, 0, 1]) zd31 rfl rfl rfl (fun zd38 => ?_)
   refine zstep 5 [] tb18 zd38 (pq_cons (pu_q rfl rfl rfl rfl rfl rfl) rfl pq_nil) (by kernel_rfl) rfl (fun l39 e39 zd39 => ?_)
   have A40 := (A27_0.st p36 rfl)
   refine cl rfl rfl rfl rfl rfl Tryz.func12 rfl rfl rfl (fun r41 m41 => spec_EdgeWrite.calls r27 a1 r35 s36.w (fun b => memb [43, 44] (s36.g b) = true) v27_0 v35_0 v35_1 (A40.rd.sub (D := [43, 44]) rfl) ((fl_rdf (s := s36) hu35_0_0).sub (D := [43, 44]) rfl) (Au35_0_1.rd.sub (D := [43, 44]) rfl) r41 m41) ?_
   rintro r41 _ w41 m41 ⟨v41_0, rfl, f41_0, ky41⟩
   obtain ⟨s42, rfl, p42, n42⟩ := nwx s36 w41 45 ky41
   have A41_0 := f41_0.c n42
   refine zdone (L' := []) (D' := [2, 5, 3, 4, 0, 1]) zd39 rfl rfl rfl (fun zd44 => ?_)
   have zd45 := zd44.add 6 29 (.tuple #[v41_0, (.int .i64 r41.2)]) rfl
   have zd46 := zd45.add 7 36 v41_0 rfl
   have zd47 := zd46.add 8 37 (.int .i64 r41.2) rfl
   have zd48 := zd47.add 9 8 v41_0 rfl
   refine zfin [10] tb18 zd48 (pq_cons (asg_q v41_0 rfl rfl rfl rfl rfl rfl) rfl (pq_cons (pu_q (v := (.int .i64 r41.2)) rfl rfl rfl rfl rfl rfl) rfl (pq_cons (pu_q (v := v41_0) rfl rfl rfl rfl rfl rfl) rfl (pq_cons (pu_q rfl rfl rfl rfl rfl rfl) rfl pq_nil)))) (by kernel_rfl) (by decide) ?_
   refine pu rfl rfl rfl rfl rfl ?_
   refine dn ?_
   refine sr ?_
   refine mv w0_0 rfl rfl rfl rfl rfl rfl ?_
   have K49 := ((K33.st p36 rfl).st p42 rfl)
   have A50 := (A0_0.kp K49)
   refine cl rfl rfl rfl rfl rfl Tryz.func13 rfl rfl rfl (fun r51 m51 => laws_toTrackS.calls a0 s42.w (fun b => memb [0] (s42.g b) = true) w0_0 A50 r51 m51) ?_
   rintro r51 v51_0 w51 m51 ⟨f51_0, ky51⟩
   obtain ⟨s52, rfl, p52, n52⟩ := nwx s42 w51 46 ky51
   have A51_0 := f51_0.c n52
   refine asg v51_0 rfl rfl rfl rfl rfl rfl ?_
   refine dn ?_
   refine sr ?_
   have A54 := (BlF.st (BlF.st (BlF.st (BlF.st (BlF.st (BlF.st A11 p15 rfl) p18 rfl) p28 rfl) p36 rfl) p42 rfl) p52 rfl)
   refine lda (es := [(.int .i64 a2.Kind), (.int .i64 a2.N), w2_0, w2_1]) A54 Tryz.underlying26 z26 rfl rfl rfl rfl rfl rfl rfl rfl ?_
   have K55 := (K49.st p52 rfl)
   have A56 := (A2_1.kp K55)
   refine cl rfl rfl rfl rfl rfl Tryz.func14 rfl rfl rfl (fun r57 m57 => laws_toItem.calls a2 s52.w (fun b => memb [0] (s52.g b) = true) w2_0 w2_1 ((fl_rdf (s := s52) A2_0).sub (D := [0]) rfl) A56 r57 m57) ?_
   rintro r57 _ w57 m57 ⟨v57_0, v57_1, rfl, f57_0, ky57⟩
   obtain ⟨s58, rfl, p58, n58⟩ := nwx s52 w57 47 ky57
   have A57_0 := f57_0.c n58
   obtain ⟨os57_0, ho57_0, hn57_0, hc57_0⟩ := A57_0
   obtain ⟨u57_0_0, u57_0_1, qu57_0_1, e57_0, eo57_0, hu57_0_0, hu57_0_1⟩ := po33 ho57_0
   have yu57_0_0 : v57_0 = u57_0_0 := congrArg (fun l => (List.drop 2 l).headD undef) e57_0
   have yu57_0_1 : v57_1 = u57_0_1 := congrArg (fun l => (List.drop 3 l).headD undef) e57_0
   subst yu57_0_0
   subst yu57_0_1
   subst eo57_0
   have Au57_0_1 : OwF (Kd.sl 5 (Kd.int .u8)) s58 [v57_1] r57.T 47 := sp1 hu57_0_1 hn57_0 hc57_0
   refine al (cs := [(.int .i64 (0 : Int)), (.int .i64 (0 : Int)), (.float .f64 0), (.slice none 0 0)]) 48 rfl rfl rfl rfl rfl o33 rfl (fun b60 s60 p60 B60 => ?_)
   have A62 := (Au57_0_1.st p60 rfl)
   refine sva (vs := [(.int .i64 r57.Kind), (.int .i64 r57.N), v57_0, v57_1]) B60 z33 rfl rfl rfl rfl rfl rfl (on_cons rfl (on_cons rfl (on_cons (FL.one hu57_0_0) (on_cons A62.rd.one on_nil)))) rfl (fun s63 p63 B63 => ?_)
   refine dn ?_
   refine sr ?_
   refine mv v51_0 rfl rfl rfl rfl rfl rfl ?_
   refine pu rfl rfl rfl rfl rfl ?_
   refine lda (es := [(.int .i64 r57.Kind), (.int .i64 r57.N), v57_0, v57_1]) B63 Tryz.underlying33 z33 rfl rfl rfl rfl rfl rfl rfl rfl ?_
   have A65 := (((A51_0.st p58 rfl).st p60 rfl).st p63 rfl)
   have A66 := (A62.st p63 rfl)
   refine cl rfl rfl rfl rfl rfl Tryz.func15 rfl rfl rfl (fun r67 m67 => impl_EdgeWrite.calls r51 a1 r57 s63.w (fun b => memb [46, 47] (s63.g b) = true) v51_0 v57_0 v57_1 (A65.rd.sub (D := [46, 47]) rfl) ((fl_rdf (s := s63) hu57_0_0).sub (D := [46, 47]) rfl) (A66.rd.sub (D := [46, 47]) rfl) r67 m67) ?_
   rintro r67 _ w67 m67 ⟨v67_0, rfl, f67_0, ky67⟩
   obtain ⟨s68, rfl, p68, n68⟩ := nwx s63 w67 49 ky67
   have A67_0 := f67_0.c n68
   refine pu rfl rfl rfl rfl rfl ?_
   refine pu (v := v67_0) rfl rfl rfl rfl rfl ?_
   refine pu (v := (.int .i64 r67.2)) rfl rfl rfl rfl rfl ?_
   refine asg v67_0 rfl rfl rfl rfl rfl rfl ?_
   refine pu rfl rfl rfl rfl rfl ?_
   refine dn ?_
   refine sq ?_
   refine sr ?_
   refine mv v67_0 rfl rfl rfl rfl rfl rfl ?_
   refine mv v41_0 rfl rfl rfl rfl rfl rfl ?_
   have A70 := (((((A41_0.st p52 rfl).st p58 rfl).st p60 rfl).st p63 rfl).st p68 rfl)
   refine cl rfl rfl rfl rfl rfl Tryz.func16 rfl rfl rfl (fun r71 m71 => laws_eqTrackS.calls r67.1 r41.1 s68.w (fun b => memb [49, 45, 43, 44] (s68.g b) = true) v67_0 v41_0 (A67_0.rd.sub (D := [49, 45, 43, 44]) rfl) (A70.sub (D := [49, 45, 43, 44]) rfl) r71 m71) ?_
   rintro r71 _ w71 m71 ⟨rfl, ky71⟩
   obtain ⟨s72, rfl, p72, n72⟩ := nwx s68 w71 50 ky71
   refine pu rfl rfl rfl rfl rfl ?_
   refine pu rfl rfl rfl rfl rfl ?_
   refine jy [53, 54, 55, 56, 57] [] 57 (.bool ((!r71) || (r67.2 != r41.2))) rfl (fun Kg73 => ?_) (fun j73 => ?_)
   ·
    rcases Bool.eq_false_or_eq_true (!r71) with hb73 | hb73
    ·
     refine sbT hb73 ?_
     refine uw rfl rfl rfl rfl ?_
     refine uw rfl rfl rfl rfl ?_
     refine uw rfl rfl rfl rfl ?_
     refine pu rfl rfl rfl rfl rfl ?_
     exact Kg73 _ (Ag.put ((Ag.put ((Ag.put ((Ag.put (Ag.base rfl) rfl)) rfl)) rfl)) rfl) (by rw [hb73]; rfl)
    ·
     refine sbT hb73 ?_
     refine pu rfl rfl rfl rfl rfl ?_
     refine pu rfl rfl rfl rfl rfl ?_
     refine pu rfl rfl rfl rfl rfl ?_
     refine pu rfl rfl rfl rfl rfl ?_
     exact Kg73 _ (Ag.put ((Ag.put ((Ag.put ((Ag.put (Ag.base rfl) rfl)) rfl)) rfl)) rfl) (by rw [hb73]; rfl)
   refine dn ?_
   refine cd rfl (fun h74 => ?_) (fun h74 => ?_)
   ·
    refine sr ?_
    refine pu rfl rfl rfl rfl rfl ?_
    refine dn ?_
    have K75 := (((((K55.st p58 rfl).st p60 rfl).st p63 rfl).st p68 rfl).st p72 rfl)
    exact re rfl Tryz.func3 rfl (r_t rfl r_nil) rfl ⟨_, rfl, rfl, z.ky K75⟩
   ·
    refine sk ?_
    refine sq ?_
    refine sr ?_
    refine mv v51_0 rfl rfl rfl rfl rfl rfl ?_
    refine mv w0_0 rfl rfl rfl rfl rfl rfl ?_
    have K76 := (((((K55.st p58 rfl).st p60 rfl).st p63 rfl).st p68 rfl).st p72 rfl)
    have A77 := (A0_0.kp K76)
    refine cl rfl rfl rfl rfl rfl Tryz.func13 rfl rfl rfl (fun r78 m78 => laws_toTrackS.calls a0 s72.w (fun b => memb [0] (s72.g b) = true) w0_0 A77 r78 m78) ?_
    rintro r78 v78_0 w78 m78 ⟨f78_0, ky78⟩
    obtain ⟨s79, rfl, p79, n79⟩ := nwx s72 w78 51 ky78
    have A78_0 := f78_0.c n79
    have A81 := (((A65.st p68 rfl).st p72 rfl).st p79 rfl)
    refine cl rfl rfl rfl rfl rfl Tryz.func16 rfl rfl rfl (fun r82 m82 => laws_eqTrackS.calls r51 r78 s79.w (fun b => memb [46, 51] (s79.g b) = true) v51_0 v78_0 (A81.rd.sub (D := [46, 51]) rfl) (A78_0.rd.sub (D := [46, 51]) rfl) r82 m82) ?_
    rintro r82 _ w82 m82 ⟨rfl, ky82⟩
    obtain ⟨s83, rfl, p83, n83⟩ := nwx s79 w82 52 ky82
    refine pu rfl rfl rfl rfl rfl ?_
    refine dn ?_
    refine cd rfl (fun h84 => ?_) (fun h84 => ?_)
    ·
     refine sr ?_
     refine pu rfl rfl rfl rfl rfl ?_
     refine dn ?_
     have K85 := ((K76.st p79 rfl).st p83 rfl)
     exact re rfl Tryz.func3 rfl (r_t rfl r_nil) rfl ⟨_, rfl, rfl, z.ky K85⟩
    ·
     refine sk ?_
     refine sq ?_
     refine sq ?_
     refine zdraw [[], [], [1], [0, 2, 2], [3]] [some 63, some 64, some 65, some 66, some 67] [[11], [5], [64], [63, 65], [66]] [0, 1, 2, 3, 4] ⟨by kernel_rfl, by kernel_rfl, by kernel_rfl⟩ (by kernel_rfl) (fun s86 p86 l86 tb86 zd86 => ?_)
     have A87 := (BlF.st (BlF.st (BlF.st (BlF.st (BlF.st B63 p68 rfl) p72 rfl) p79 rfl) p83 rfl) p86 rfl)
     have zd88 := zd86.add 0 63 (.agg #[(.int .i64 r57.Kind), (.int .i64 r57.N), v57_0, v57_1]) rfl
     have A89 := (BlF.st (BlF.st (BlF.st (BlF.st (BlF.st (BlF.st (BlF.st (BlF.st A54 p58 rfl) p60 rfl) p63 rfl) p68 rfl) p72 rfl) p79 rfl) p83 rfl) p86 rfl)
     have zd90 := zd88.add 1 64 (.agg #[(.int .i64 a2.Kind), (.int .i64 a2.N), w2_0, w2_1]) rfl
     have A92 := (BlF.st (BlF.st (BlF.st (BlF.st (BlF.st B63 p68 rfl) p72 rfl) p79 rfl) p83 rfl) p86 rfl)
     have A93 := (BlF.st (BlF.st (BlF.st (BlF.st (BlF.st (BlF.st (BlF.st (BlF.st A54 p58 rfl) p60 rfl) p63 rfl) p68 rfl) p72 rfl) p79 rfl) p83 rfl) p86 rfl)
     refine zstep 2 [some 63] tb86 zd90 (pq_cons (lda_q (es := [(.int .i64 a2.Kind), (.int .i64 a2.N), w2_0, w2_1]) A93 Tryz.underlying26 z26 rfl rfl rfl rfl rfl rfl rfl rfl) rfl (pq_cons (lda_q (es := [(.int .i64 r57.Kind), (.int .i64 r57.N), v57_0, v57_1]) A92 Tryz.underlying33 z33 rfl rfl rfl rfl rfl rfl rfl rfl) rfl pq_nil)) (by kernel_rfl) rfl (fun l91 e91 zd91 => ?_)
     have K94 := (((K76.st p79 rfl).st p83 rfl).st p86 rfl)
     have A95 := (A2_1.kp K94)
     refine cl rfl rfl rfl rfl rfl Tryz.func14 rfl rfl rfl (fun r96 m96 => laws_toItem.calls a2 s86.w (fun b => memb [0] (s86.g b) = true) w2_0 w2_1 ((fl_rdf (s := s86) A2_0).sub (D := [0]) rfl) A95 r96 m96) ?_
     rintro r96 _ w96 m96 ⟨v96_0, v96_1, rfl, f96_0, ky96⟩
     obtain ⟨s97, rfl, p97, n97⟩ := nwx s86 w96 53 ky96
     have A96_0 := f96_0.c n97
     obtain ⟨os96_0, ho96_0, hn96_0, hc96_0⟩ := A96_0
     obtain ⟨u96_0_0, u96_0_1, qu96_0_1, e96_0, eo96_0, hu96_0_0, hu96_0_1⟩ := po33 ho96_0
     have yu96_0_0 : v96_0 = u96_0_0 := congrArg (fun l => (List.drop 2 l).headD undef) e96_0
     have yu96_0_1 : v96_1 = u96_0_1 := congrArg (fun l => (List.drop 3 l).headD undef) e96_0
     subst yu96_0_0
     subst yu96_0_1
     subst eo96_0
     have Au96_0_1 : OwF (Kd.sl 5 (Kd.int .u8)) s97 [v96_1] r96.T 53 := sp1 hu96_0_1 hn96_0 hc96_0
     refine zdone (L' := [0]) (D' := [1, 2]) zd91 rfl rfl rfl (fun zd99 => ?_)
     have A100 := (BlF.st (BlF.st (BlF.st (BlF.st (BlF.st (BlF.st B63 p68 rfl) p72 rfl) p79 rfl) p83 rfl) p86 rfl) p97 rfl)
     refine zfin [3, 4] tb86 zd99 (pq_cons (lda_q (es := [(.int .i64 r57.Kind), (.int .i64 r57.N), v57_0, v57_1]) A100 Tryz.underlying33 z33 rfl rfl rfl rfl rfl rfl rfl rfl) rfl pq_nil) (by kernel_rfl) (by decide) ?_
     have A101 := ((((((A66.st p68 rfl).st p72 rfl).st p79 rfl).st p83 rfl).st p86 rfl).st p97 rfl)
     refine cl rfl rfl rfl rfl rfl Tryz.func17 rfl rfl rfl (fun r102 m102 => laws_eqItem.calls r57 r96 s97.w (fun b => memb [47, 53] (s97.g b) = true) v57_0 v57_1 v96_0 v96_1 ((fl_rdf (s := s97) hu57_0_0).sub (D := [47, 53]) rfl) (A101.rd.sub (D := [47, 53]) rfl) ((fl_rdf (s := s97) hu96_0_0).sub (D := [47, 53]) rfl) (Au96_0_1.rd.sub (D := [47, 53]) rfl) r102 m102) ?_
     rintro r102 _ w102 m102 ⟨rfl, ky102⟩
     obtain ⟨s103, rfl, p103, n103⟩ := nwx s97 w102 54 ky102
     refine pu rfl rfl rfl rfl rfl ?_
     refine dn ?_
     refine cd rfl (fun h104 => ?_) (fun h104 => ?_)
     ·
      refine sr ?_
      refine pu rfl rfl rfl rfl rfl ?_
      refine dn ?_
      have K105 := ((K94.st p97 rfl).st p103 rfl)
      exact re rfl Tryz.func3 rfl (r_t rfl r_nil) rfl ⟨_, rfl, rfl, z.ky K105⟩
     ·
      refine sk ?_
      refine sr ?_
      refine pu rfl rfl rfl rfl rfl ?_
      refine dn ?_
      refine sr ?_
      refine mv v51_0 rfl rfl rfl rfl rfl rfl ?_
      refine pu rfl rfl rfl rfl rfl ?_
      have A107 := ((((A81.st p83 rfl).st p86 rfl).st p97 rfl).st p103 rfl)
      obtain ⟨os106, ho106, hn106, hc106⟩ := A107
      refine cl rfl rfl rfl rfl rfl Tryz.func18 rfl rfl rfl (fun r106 m106 => laws_markTrackS.calls r51 (1 : Int) s103.w (fun b => memb [] (s103.g b) = true) v51_0 os106 ho106 hn106 (apart_of hc106 rfl) r106 m106) ?_
      rintro r106 _ w106 m106 ⟨rfl, w106_, ky106⟩
      obtain ⟨s108, rfl, p108, A108⟩ := nwo 55 hc106 ky106 w106_
      refine pu rfl rfl rfl rfl rfl ?_
      refine dn ?_
      refine sr ?_
      have A110 := (BlF.st (BlF.st (BlF.st (BlF.st (BlF.st (BlF.st (BlF.st (BlF.st B63 p68 rfl) p72 rfl) p79 rfl) p83 rfl) p86 rfl) p97 rfl) p103 rfl) p108 rfl)
      refine lda (es := [(.int .i64 r57.Kind), (.int .i64 r57.N), v57_0, v57_1]) A110 Tryz.underlying33 z33 rfl rfl rfl rfl rfl rfl rfl rfl ?_
      refine pu rfl rfl rfl rfl rfl ?_
      have A112 := ((A101.st p103 rfl).st p108 rfl)
      obtain ⟨os111, ho111, hn111, hc111⟩ := A112
      refine cl rfl rfl rfl rfl rfl Tryz.func19 rfl rfl rfl (fun r111 m111 => laws_markItem.calls r57 r106.1 s108.w (fun b => memb [] (s108.g b) = true) v57_0 v57_1 (fl_rdf (s := s108) hu57_0_0) os111 ho111 hn111 (apart_of hc111 rfl) r111 m111) ?_
      rintro r111 _ w111 m111 ⟨rfl, w111_, ky111⟩
      obtain ⟨s113, rfl, p113, A113⟩ := nwo 56 hc111 ky111 w111_
      refine pu rfl rfl rfl rfl rfl ?_
      refine dn ?_
      refine sq ?_
      refine sr ?_
      refine pu rfl rfl rfl rfl rfl ?_
      refine pu rfl rfl rfl rfl rfl ?_
      refine pu rfl rfl rfl rfl rfl ?_
      refine ji [8, 9, 10, 11, 12] (fun (y115 : Bool) (e : Env) (w : World) => ∃ (s : St) (e0 : Env), w = s.w ∧ e = upd (upd (upd (upd (upd (upd (upd (upd e0 0 w0_0) 1 (.int .i64 a1)) 5 (.pointer (some ⟨b3, 0, none⟩))) 8 v41_0) 9 (.int .i64 r41.2)) 12 v67_0) 13 (.int .i64 r67.2)) 81 (.bool y115) ∧ Kp s0 s ∧ BlF s b3 26 [(.int .i64 a2.Kind), (.int .i64 a2.N), w2_0, w2_1] 40 ∧ RdF (Kd.sl 117 kd117) s [v41_0] r41.1 [45, 43, 44] ∧ OwF (Kd.sl 117 kd117) s [v67_0] r67.1 49) (fun Gj115 Kj115 => ?_) ?_
      ·
       rcases Bool.eq_false_or_eq_true (decide (r111.1 < (0 : Int))) with hb115 | hb115
       ·
        refine sbT hb115 ?_
        rw [if_pos hb115]
        refine uw rfl rfl rfl rfl ?_
        refine uw rfl rfl rfl rfl ?_
        refine uw rfl rfl rfl rfl ?_
        refine uw rfl rfl rfl rfl ?_
        refine pu rfl rfl rfl rfl rfl ?_
        have A116 := (BlF.st (BlF.st (BlF.st (BlF.st (BlF.st (BlF.st (BlF.st (BlF.st (BlF.st (BlF.st (BlF.st (BlF.st A54 p58 rfl) p60 rfl) p63 rfl) p68 rfl) p72 rfl) p79 rfl) p83 rfl) p86 rfl) p97 rfl) p103 rfl) p108 rfl) p113 rfl)
        have A117 := ((((((((A70.st p72 rfl).st p79 rfl).st p83 rfl).st p86 rfl).st p97 rfl).st p103 rfl).st p108 rfl).st p113 rfl)
        have A118 := ((((((((A67_0.st p72 rfl).st p79 rfl).st p83 rfl).st p86 rfl).st p97 rfl).st p103 rfl).st p108 rfl).st p113 rfl)
        have K119 := ((((K94.st p97 rfl).st p103 rfl).st p108 rfl).st p113 rfl)
        exact Kj115 _ _ _ ⟨s113, _, rfl, (ue (ue (ue (ue (ue (ue (ue (ue rfl rfl) rfl) rfl) rfl) rfl) rfl) rfl) rfl), K119, A116, A117, A118⟩
       ·
        refine sbT hb115 ?_
        rw [if_neg (by rw [hb115]; decide)]
        refine mv v67_0 rfl rfl rfl rfl rfl rfl ?_
        refine mv v41_0 rfl rfl rfl rfl rfl rfl ?_
        have A120 := ((((((((A67_0.st p72 rfl).st p79 rfl).st p83 rfl).st p86 rfl).st p97 rfl).st p103 rfl).st p108 rfl).st p113 rfl)
        have A121 := ((((((((A70.st p72 rfl).st p79 rfl).st p83 rfl).st p86 rfl).st p97 rfl).st p103 rfl).st p108 rfl).st p113 rfl)
        refine cl rfl rfl rfl rfl rfl Tryz.func16 rfl rfl rfl (fun r122 m122 => laws_eqTrackS.calls r67.1 r41.1 s113.w (fun b => memb [49, 45, 43, 44] (s113.g b) = true) v67_0 v41_0 (A120.rd.sub (D := [49, 45, 43, 44]) rfl) (A121.sub (D := [49, 45, 43, 44]) rfl) r122 m122) ?_
        rintro r122 _ w122 m122 ⟨rfl, ky122⟩
        obtain ⟨s123, rfl, p123, n123⟩ := nwx s113 w122 57 ky122
        refine pu rfl rfl rfl rfl rfl ?_
        refine pu rfl rfl rfl rfl rfl ?_
        have A124 := (BlF.st (BlF.st (BlF.st (BlF.st (BlF.st (BlF.st (BlF.st (BlF.st (BlF.st (BlF.st (BlF.st (BlF.st (BlF.st A54 p58 rfl) p60 rfl) p63 rfl) p68 rfl) p72 rfl) p79 rfl) p83 rfl) p86 rfl) p97 rfl) p103 rfl) p108 rfl) p113 rfl) p123 rfl)
        have A125 := (A121.st p123 rfl)
        have A126 := (A120.st p123 rfl)
        have K127 := (((((K94.st p97 rfl).st p103 rfl).st p108 rfl).st p113 rfl).st p123 rfl)
        exact Kj115 _ _ _ ⟨s123, _, rfl, (ue (ue (ue (ue (ue (ue (ue (ue rfl rfl) rfl) rfl) rfl) rfl) rfl) rfl) rfl), K127, A124, A125, A126⟩
      rintro y115 _ _ ⟨s128, _, rfl, rfl, Ky115, By115_b3, Cy115_43, Cy115_69⟩
      refine pu rfl rfl rfl rfl rfl ?_
      refine jy [82, 83, 84, 85, 86] [] 86 (.bool (y115 || (r67.2 != r41.2))) rfl (fun Kg130 => ?_) (fun j130 => ?_)
      ·
       rcases Bool.eq_false_or_eq_true y115 with hb130 | hb130
       ·
        refine sbT hb130 ?_
        refine uw rfl rfl rfl rfl ?_
        refine uw rfl rfl rfl rfl ?_
        refine uw rfl rfl rfl rfl ?_
        refine pu rfl rfl rfl rfl rfl ?_
        exact Kg130 _ (Ag.put ((Ag.put ((Ag.put ((Ag.put (Ag.base rfl) rfl)) rfl)) rfl)) rfl) (by rw [hb130]; rfl)
       ·
        refine sbT hb130 ?_
        refine pu rfl rfl rfl rfl rfl ?_
        refine pu rfl rfl rfl rfl rfl ?_
        refine pu rfl rfl rfl rfl rfl ?_
        refine pu rfl rfl rfl rfl rfl ?_
        exact Kg130 _ (Ag.put ((Ag.put ((Ag.put ((Ag.put (Ag.base rfl) rfl)) rfl)) rfl)) rfl) (by rw [hb130]; rfl)
      refine dn ?_
      refine cd rfl (fun h131 => ?_) (fun h131 => ?_)
      ·
       refine sr ?_
       refine pu rfl rfl rfl rfl rfl ?_
       refine dn ?_
       exact re rfl Tryz.func3 rfl (r_t rfl r_nil) rfl ⟨_, rfl, rfl, z.ky Ky115⟩
      ·
       refine sk ?_
       refine sr ?_
       refine pu rfl rfl rfl rfl rfl ?_
       refine dn ?_
       refine sr ?_
       refine mv v67_0 rfl rfl rfl rfl rfl rfl ?_
       refine pu rfl rfl rfl rfl rfl ?_
       obtain ⟨os132, ho132, hn132, hc132⟩ := Cy115_69
       refine cl rfl rfl rfl rfl rfl Tryz.func18 rfl rfl rfl (fun r132 m132 => laws_markTrackS.calls r67.1 (1 : Int) s128.w (fun b => memb [] (s128.g b) = true) v67_0 os132 ho132 hn132 (apart_of hc132 rfl) r132 m132) ?_
       rintro r132 _ w132 m132 ⟨rfl, w132_, ky132⟩
       obtain ⟨s133, rfl, p133, A133⟩ := nwo 58 hc132 ky132 w132_
       refine pu rfl rfl rfl rfl rfl ?_
       refine dn ?_
       refine sr ?_
       refine pu rfl rfl rfl rfl rfl ?_
       refine dn ?_
       refine sr ?_
       refine mv v67_0 rfl rfl rfl rfl rfl rfl ?_
       refine pu rfl rfl rfl rfl rfl ?_
       refine cl rfl rfl rfl rfl rfl Tryz.func20 rfl rfl rfl (fun r135 m135 => laws_heldTrackS.calls r132.2 (1 : Int) s133.w (fun b => memb [49] (s133.g b) = true) v67_0 A133.rd r135 m135) ?_
       rintro r135 _ w135 m135 ⟨rfl, ky135⟩
       obtain ⟨s136, rfl, p136, n136⟩ := nwx s133 w135 59 ky135
       refine pu rfl rfl rfl rfl rfl ?_
       refine dn ?_
       refine sq ?_
       refine sr ?_
       refine pu rfl rfl rfl rfl rfl ?_
       refine pu rfl rfl rfl rfl rfl ?_
       refine dn ?_
       refine cd rfl (fun h137 => ?_) (fun h137 => ?_)
       ·
        refine sr ?_
        refine pu rfl rfl rfl rfl rfl ?_
        refine dn ?_
        have K138 := ((Ky115.st p133 rfl).st p136 rfl)
        exact re rfl Tryz.func3 rfl (r_t rfl r_nil) rfl ⟨_, rfl, rfl, z.ky K138⟩
       ·
        refine sk ?_
        refine sq ?_
        refine sr ?_
        refine pu rfl rfl rfl rfl rfl ?_
        refine pu rfl rfl rfl rfl rfl ?_
        refine pu rfl rfl rfl rfl rfl ?_
        refine dn ?_
        refine cd rfl (fun h139 => ?_) (fun h139 => ?_)
        ·
         refine sr ?_
         refine pu rfl rfl rfl rfl rfl ?_
         refine dn ?_
         have K140 := ((Ky115.st p133 rfl).st p136 rfl)
         exact re rfl Tryz.func3 rfl (r_t rfl r_nil) rfl ⟨_, rfl, rfl, z.ky K140⟩
        ·
         refine sk ?_
         refine sq ?_
         refine zdraw [[], [0], [], [], [3, 1], [1, 2, 4, 4], [5], [6], [6], [7, 5, 0, 1, 2, 3, 4, 5, 6, 7], [8, 9, 0, 1, 2, 3, 4, 5, 6, 7, 8, 9]] [some 99, some 100, some 101, some 102, some 103, some 104, some 98, some 105, some 106, some 17, some 18] [[0], [99], [1], [5], [102], [100, 101, 103], [104], [98], [98], [105], [106]] [0, 1, 2, 3, 4, 5, 6, 7, 9, 8, 10] ⟨by kernel_rfl, by kernel_rfl, by kernel_rfl⟩ (by kernel_rfl) (fun s141 p141 l141 tb141 zd141 => ?_)
         have zd142 := zd141.add 0 99 w0_0 rfl
         have zd143 := zd142.add 2 101 (.int .i64 a1) rfl
         have A144 := (BlF.st (BlF.st (BlF.st By115_b3 p133 rfl) p136 rfl) p141 rfl)
         have zd145 := zd143.add 3 102 (.agg #[(.int .i64 a2.Kind), (.int .i64 a2.N), w2_0, w2_1]) rfl
         have A147 := (BlF.st (BlF.st (BlF.st By115_b3 p133 rfl) p136 rfl) p141 rfl)
         refine zstep 1 [some 102, some 101] tb141 zd145 (pq_cons (lda_q (es := [(.int .i64 a2.Kind), (.int .i64 a2.N), w2_0, w2_1]) A147 Tryz.underlying26 z26 rfl rfl rfl rfl rfl rfl rfl rfl) rfl (pq_cons (pu_q rfl rfl rfl rfl rfl rfl) rfl (pq_cons (mv_q w0_0 rfl rfl rfl rfl rfl rfl) rfl pq_nil))) (by kernel_rfl) rfl (fun l146 e146 zd146 => ?_)
         have K148 := (((Ky115.st p133 rfl).st p136 rfl).st p141 rfl)
         have A149 := (A0_0.kp K148)
         refine cl rfl rfl rfl rfl rfl Tryz.func13 rfl rfl rfl (fun r150 m150 => laws_toTrackS.calls a0 s141.w (fun b => memb [0] (s141.g b) = true) w0_0 A149 r150 m150) ?_
         rintro r150 v150_0 w150 m150 ⟨f150_0, ky150⟩
         obtain ⟨s151, rfl, p151, n151⟩ := nwx s141 w150 60 ky150
         have A150_0 := f150_0.c n151
         refine zdone (L' := [3, 2]) (D' := [0, 1]) zd146 rfl rfl rfl (fun zd153 => ?_)
         have A155 := (BlF.st (BlF.st (BlF.st (BlF.st By115_b3 p133 rfl) p136 rfl) p141 rfl) p151 rfl)
         refine zstep 4 [some 101] tb141 zd153 (pq_cons (lda_q (es := [(.int .i64 a2.Kind), (.int .i64 a2.N), w2_0, w2_1]) A155 Tryz.underlying26 z26 rfl rfl rfl rfl rfl rfl rfl rfl) rfl (pq_cons (pu_q rfl rfl rfl rfl rfl rfl) rfl pq_nil)) (by kernel_rfl) rfl (fun l154 e154 zd154 => ?_)
         have K156 := (K148.st p151 rfl)
         have A157 := (A2_1.kp K156)
         refine cl rfl rfl rfl rfl rfl Tryz.func14 rfl rfl rfl (fun r158 m158 => laws_toItem.calls a2 s151.w (fun b => memb [0] (s151.g b) = true) w2_0 w2_1 ((fl_rdf (s := s151) A2_0).sub (D := [0]) rfl) A157 r158 m158) ?_
         rintro r158 _ w158 m158 ⟨v158_0, v158_1, rfl, f158_0, ky158⟩
         obtain ⟨s159, rfl, p159, n159⟩ := nwx s151 w158 61 ky158
         have A158_0 := f158_0.c n159
         obtain ⟨os158_0, ho158_0, hn158_0, hc158_0⟩ := A158_0
         obtain ⟨u158_0_0, u158_0_1, qu158_0_1, e158_0, eo158_0, hu158_0_0, hu158_0_1⟩ := po33 ho158_0
         have yu158_0_0 : v158_0 = u158_0_0 := congrArg (fun l => (List.drop 2 l).headD undef) e158_0
         have yu158_0_1 : v158_1 = u158_0_1 := congrArg (fun l => (List.drop 3 l).headD undef) e158_0
         subst yu158_0_0
         subst yu158_0_1
         subst eo158_0
         have Au158_0_1 : OwF (Kd.sl 5 (Kd.int .u8)) s159 [v158_1] r158.T 61 := sp1 hu158_0_1 hn158_0 hc158_0
         refine zdone (L' := [2]) (D' := [3, 4, 0, 1]) zd154 rfl rfl rfl (fun zd161 => ?_)
         refine zstep 5 [] tb141 zd161 (pq_cons (pu_q rfl rfl rfl rfl rfl rfl) rfl pq_nil) (by kernel_rfl) rfl (fun l162 e162 zd162 => ?_)
         have A163 := (A150_0.st p159 rfl)
         refine cl rfl rfl rfl rfl rfl Tryz.func15 rfl rfl rfl (fun r164 m164 => impl_EdgeWrite.calls r150 a1 r158 s159.w (fun b => memb [60, 61] (s159.g b) = true) v150_0 v158_0 v158_1 (A163.rd.sub (D := [60, 61]) rfl) ((fl_rdf (s := s159) hu158_0_0).sub (D := [60, 61]) rfl) (Au158_0_1.rd.sub (D := [60, 61]) rfl) r164 m164) ?_
         rintro r164 _ w164 m164 ⟨v164_0, rfl, f164_0, ky164⟩
         obtain ⟨s165, rfl, p165, n165⟩ := nwx s159 w164 62 ky164
         have A164_0 := f164_0.c n165
         refine zdone (L' := []) (D' := [2, 5, 3, 4, 0, 1]) zd162 rfl rfl rfl (fun zd167 => ?_)
         have zd168 := zd167.add 6 98 (.tuple #[v164_0, (.int .i64 r164.2)]) rfl
         have zd169 := zd168.add 7 105 v164_0 rfl
         have zd170 := zd169.add 8 106 (.int .i64 r164.2) rfl
         have zd171 := zd170.add 9 17 v164_0 rfl
         refine zfin [10] tb141 zd171 (pq_cons (asg_q v164_0 rfl rfl rfl rfl rfl rfl) rfl (pq_cons (pu_q (v := (.int .i64 r164.2)) rfl rfl rfl rfl rfl rfl) rfl (pq_cons (pu_q (v := v164_0) rfl rfl rfl rfl rfl rfl) rfl (pq_cons (pu_q rfl rfl rfl rfl rfl rfl) rfl pq_nil)))) (by kernel_rfl) (by decide) ?_
         refine pu rfl rfl rfl rfl rfl ?_
         refine dn ?_
         refine sq ?_
         refine sr ?_
         refine mv v164_0 rfl rfl rfl rfl rfl rfl ?_
         refine mv v41_0 rfl rfl rfl rfl rfl rfl ?_
         have A172 := ((((((Cy115_43.st p133 rfl).st p136 rfl).st p141 rfl).st p151 rfl).st p159 rfl).st p165 rfl)
         refine cl rfl rfl rfl rfl rfl Tryz.func16 rfl rfl rfl (fun r173 m173 => laws_eqTrackS.calls r164.1 r41.1 s165.w (fun b => memb [62, 45, 43, 44] (s165.g b) = true) v164_0 v41_0 (A164_0.rd.sub (D := [62, 45, 43, 44]) rfl) (A172.sub (D := [62, 45, 43, 44]) rfl) r173 m173) ?_
         rintro r173 _ w173 m173 ⟨rfl, ky173⟩
         obtain ⟨s174, rfl, p174, n174⟩ := nwx s165 w173 63 ky173
         refine pu rfl rfl rfl rfl rfl ?_
         refine pu rfl rfl rfl rfl rfl ?_
         refine jy [111, 112, 113, 114, 115] [] 115 (.bool ((!r173) || (r164.2 != r41.2))) rfl (fun Kg175 => ?_) (fun j175 => ?_)
         ·
          rcases Bool.eq_false_or_eq_true (!r173) with hb175 | hb175
          ·
           refine sbT hb175 ?_
           refine uw rfl rfl rfl rfl ?_
           refine uw rfl rfl rfl rfl ?_
           refine uw rfl rfl rfl rfl ?_
           refine pu rfl rfl rfl rfl rfl ?_
           exact Kg175 _ (Ag.put ((Ag.put ((Ag.put ((Ag.put (Ag.base rfl) rfl)) rfl)) rfl)) rfl) (by rw [hb175]; rfl)
          ·
           refine sbT hb175 ?_
           refine pu rfl rfl rfl rfl rfl ?_
           refine pu rfl rfl rfl rfl rfl ?_
           refine pu rfl rfl rfl rfl rfl ?_
           refine pu rfl rfl rfl rfl rfl ?_
           exact Kg175 _ (Ag.put ((Ag.put ((Ag.put ((Ag.put (Ag.base rfl) rfl)) rfl)) rfl)) rfl) (by rw [hb175]; rfl)
         refine dn ?_
         refine cd rfl (fun h176 => ?_) (fun h176 => ?_)
         ·
          refine sr ?_
          refine pu rfl rfl rfl rfl rfl ?_
          refine dn ?_
          have K177 := (((K156.st p159 rfl).st p165 rfl).st p174 rfl)
          exact re rfl Tryz.func3 rfl (r_t rfl r_nil) rfl ⟨_, rfl, rfl, z.ky K177⟩
         ·
          refine sk ?_
          refine sr ?_
          refine pu rfl rfl rfl rfl rfl ?_
          refine dn ?_
          refine sr ?_
          refine mv v67_0 rfl rfl rfl rfl rfl rfl ?_
          refine pu rfl rfl rfl rfl rfl ?_
          have A178 := ((((((A133.st p136 rfl).st p141 rfl).st p151 rfl).st p159 rfl).st p165 rfl).st p174 rfl)
          refine cl rfl rfl rfl rfl rfl Tryz.func20 rfl rfl rfl (fun r179 m179 => laws_heldTrackS.calls r132.2 (1 : Int) s174.w (fun b => memb [49] (s174.g b) = true) v67_0 A178.rd r179 m179) ?_
          rintro r179 _ w179 m179 ⟨rfl, ky179⟩
          obtain ⟨s180, rfl, p180, n180⟩ := nwx s174 w179 64 ky179
          refine pu rfl rfl rfl rfl rfl ?_
          refine dn ?_
          refine sq ?_
          refine sr ?_
          refine pu rfl rfl rfl rfl rfl ?_
          refine pu rfl rfl rfl rfl rfl ?_
          refine dn ?_
          refine cd rfl (fun h181 => ?_) (fun h181 => ?_)
          ·
           refine sr ?_
           refine pu rfl rfl rfl rfl rfl ?_
           refine dn ?_
           have K182 := ((((K156.st p159 rfl).st p165 rfl).st p174 rfl).st p180 rfl)
           exact re rfl Tryz.func3 rfl (r_t rfl r_nil) rfl ⟨_, rfl, rfl, z.ky K182⟩
          ·
           refine sk ?_
           refine sq ?_
           refine sr ?_
           refine pu rfl rfl rfl rfl rfl ?_
           refine pu rfl rfl rfl rfl rfl ?_
           refine pu rfl rfl rfl rfl rfl ?_
           refine dn ?_
           refine cd rfl (fun h183 => ?_) (fun h183 => ?_)
           ·
            refine sr ?_
            refine pu rfl rfl rfl rfl rfl ?_
            refine dn ?_
            have K184 := ((((K156.st p159 rfl).st p165 rfl).st p174 rfl).st p180 rfl)
            exact re rfl Tryz.func3 rfl (r_t rfl r_nil) rfl ⟨_, rfl, rfl, z.ky K184⟩
           ·
            refine sk ?_
            refine sr ?_
            refine pu rfl rfl rfl rfl rfl ?_
            refine dn ?_
            have K185 := ((((K156.st p159 rfl).st p165 rfl).st p174 rfl).st p180 rfl)
            exact re rfl Tryz.func3 rfl (r_t rfl r_nil) rfl ⟨_, rfl, rfl, z.ky K185⟩
end Go.Proofs.YtcagjdngannneaaGreat
