/- The functions as models, and that the calls come to what the models tell. -/
import Derived.Test.YtcagjdngannneaaXsb
set_option linter.unusedVariables false
set_option linter.unusedSimpArgs false
namespace Go.Proofs.Ytcagjdngannneaa
open Go V
noncomputable def laws_markTrackS.b0  (x2 : (List Track) × Int × Int) : Option (((List Track) × Int × Int) ⊕ (Int × (List Track))) :=
 (if (decide (x2.2.2 < (x2.1.length : Int))) = true then (if 0 ≤ x2.2.2 ∧ x2.2.2 < (x2.1.length : Int) then ((some (x2.1.set (x2.2.2).toNat (Track.mk x2.2.1 (at_ x2.1 x2.2.2).Begun (at_ x2.1 x2.2.2).Ended (at_ x2.1 x2.2.2).All (at_ x2.1 x2.2.2).Reads (at_ x2.1 x2.2.2).Writes (at_ x2.1 x2.2.2).In (at_ x2.1 x2.2.2).Out))).bind fun y12 => (if 0 ≤ x2.2.2 ∧ x2.2.2 < (y12.length : Int) then ((some (y12.set (x2.2.2).toNat (Track.mk (at_ y12 x2.2.2).Xid (IntKind.wrap .i64 (x2.2.1 + (1 : Int))) (at_ y12 x2.2.2).Ended (at_ y12 x2.2.2).All (at_ y12 x2.2.2).Reads (at_ y12 x2.2.2).Writes (at_ y12 x2.2.2).In (at_ y12 x2.2.2).Out))).bind fun y19 => (if 0 ≤ x2.2.2 ∧ x2.2.2 < (y19.length : Int) then ((some (y19.set (x2.2.2).toNat (Track.mk (at_ y19 x2.2.2).Xid (at_ y19 x2.2.2).Begun (IntKind.wrap .i64 ((IntKind.wrap .i64 (x2.2.1 + (1 : Int))) + (1 : Int))) (at_ y19 x2.2.2).All (at_ y19 x2.2.2).Reads (at_ y19 x2.2.2).Writes (at_ y19 x2.2.2).In (at_ y19 x2.2.2).Out))).bind fun y26 => (if 0 ≤ x2.2.2 ∧ x2.2.2 < (y26.length : Int) then ((some (y26.set (x2.2.2).toNat (Track.mk (at_ y26 x2.2.2).Xid (at_ y26 x2.2.2).Begun (at_ y26 x2.2.2).Ended (((IntKind.wrap .i64 ((IntKind.wrap .i64 ((IntKind.wrap .i64 (x2.2.1 + (1 : Int))) + (1 : Int))) + (1 : Int))).tmod (3 : Int)) == (0 : Int)) (at_ y26 x2.2.2).Reads (at_ y26 x2.2.2).Writes (at_ y26 x2.2.2).In (at_ y26 x2.2.2).Out))).bind fun y33 => (if 0 ≤ x2.2.2 ∧ x2.2.2 < (y33.length : Int) then ((laws_markSpanS.f ((at_ y33 x2.2.2).Reads) (IntKind.wrap .i64 ((IntKind.wrap .i64 ((IntKind.wrap .i64 ((IntKind.wrap .i64 (x2.2.1 + (1 : Int))) + (1 : Int))) + (1 : Int))) + (1 : Int)))).bind fun r38 => ((some (y33.set (x2.2.2).toNat (Track.mk (at_ y33 x2.2.2).Xid (at_ y33 x2.2.2).Begun (at_ y33 x2.2.2).Ended (at_ y33 x2.2.2).All r38.2 (at_ y33 x2.2.2).Writes (at_ y33 x2.2.2).In (at_ y33 x2.2.2).Out))).bind fun y41 => (if 0 ≤ x2.2.2 ∧ x2.2.2 < (y41.length : Int) then ((laws_markItemS.f ((at_ y41 x2.2.2).Writes) r38.1).bind fun r46 => ((some (y41.set (x2.2.2).toNat (Track.mk (at_ y41 x2.2.2).Xid (at_ y41 x2.2.2).Begun (at_ y41 x2.2.2).Ended (at_ y41 x2.2.2).All (at_ y41 x2.2.2).Reads r46.2 (at_ y41 x2.2.2).In (at_ y41 x2.2.2).Out))).bind fun y49 => (if 0 ≤ x2.2.2 ∧ x2.2.2 < (y49.length : Int) then ((some (y49.set (x2.2.2).toNat (Track.mk (at_ y49 x2.2.2).Xid (at_ y49 x2.2.2).Begun (at_ y49 x2.2.2).Ended (at_ y49 x2.2.2).All (at_ y49 x2.2.2).Reads (at_ y49 x2.2.2).Writes ((r46.1.tmod (3 : Int)) == (0 : Int)) (at_ y49 x2.2.2).Out))).bind fun y56 => (if 0 ≤ x2.2.2 ∧ x2.2.2 < (y56.length : Int) then ((some (y56.set (x2.2.2).toNat (Track.mk (at_ y56 x2.2.2).Xid (at_ y56 x2.2.2).Begun (at_ y56 x2.2.2).Ended (at_ y56 x2.2.2).All (at_ y56 x2.2.2).Reads (at_ y56 x2.2.2).Writes (at_ y56 x2.2.2).In (((IntKind.wrap .i64 (r46.1 + (1 : Int))).tmod (3 : Int)) == (0 : Int))))).bind fun y63 => (some (Sum.inl (y63, (IntKind.wrap .i64 ((IntKind.wrap .i64 (r46.1 + (1 : Int))) + (1 : Int))), (IntKind.wrap .i64 (x2.2.2 + (1 : Int))))))) else none)) else none))) else none))) else none)) else none)) else none)) else none)) else none) else ((some (x2.2.1, x2.1)).bind fun o => some (Sum.inr o)))
noncomputable def laws_markTrackS.f (a0 : (List Track)) (a1 : Int) : Option (Int × (List Track)) :=
 (iter laws_markTrackS.b0 (a0, a1, (0 : Int)))
def laws_markTrackS.Q (w : World) (F : Nat → Prop) (os : List Nat) (w0_0 : Value) (r : Int × (List Track)) (v : Value) (w' : World) : Prop :=
 v = (.int .i64 r.1) ∧ FW (Kd.sl 59 kd59) os w w' [w0_0] r.2 ∧ Ky os w w'
set_option maxHeartbeats 4000000 in
set_option maxRecDepth 100000 in
theorem laws_markTrackS.calls (a0 : (List Track)) (a1 : Int) (w : World) (F : Nat → Prop) (w0_0 : Value) (os : List Nat) (h0_0 : (Kd.sl 59 kd59).ow w [w0_0] a0 os) (hn : os.Nodup) (hF : ∀ b, F b → b ∉ os) (r : Int × (List Track)) (m : laws_markTrackS.f a0 a1 = some r) :
  Calls Try.prog 38 #[w0_0, (.int .i64 a1)] w fun en w' => ∃ v, en = .returned v ∧ laws_markTrackS.Q w F os w0_0 r v w' := by
 obtain ⟨s0, rfl, kp0, z⟩ := start1 w F os hF
 have A0_0 := z.ow h0_0 hn
 refine calls_of_TM (args := [w0_0, (.int .i64 a1)]) (R := fun r en w' => ∃ v, en = .returned v ∧ laws_markTrackS.Q s0.w F os w0_0 r v w') Try.func38 Try.ntmps38 rfl rfl m ?_
 unfold laws_markTrackS.f
 refine sr ?_
 refine pu rfl rfl rfl rfl rfl ?_
 refine dn ?_
 refine sq ?_
 refine sr ?_
 refine pu rfl rfl rfl rfl rfl ?_
 refine dn ?_
 refine bl ?_
 refine lpI (fun (x2 : (List Track) × Int × Int) (e : Env) (w : World) => ∃ (s : St) (e0 : Env), w = s.w ∧ e = upd (upd (upd e0 0 w0_0) 1 (.int .i64 x2.2.1)) 5 (.int .i64 x2.2.2) ∧ Kp s0 s ∧ OwF (Kd.sl 59 kd59) s [w0_0] x2.1 2) ⟨s0, _, rfl, (ue (ue (ue rfl rfl) rfl) rfl), kp0, A0_0⟩ (fun g2 ih2 => ?_)
 rintro x2 _ _ ⟨s3, _, rfl, rfl, Kx2, Ax2_0⟩
 unfold laws_markTrackS.b0
 refine sq ?_
 refine sr ?_
 refine pu rfl rfl rfl rfl rfl ?_
 refine mv w0_0 rfl rfl rfl rfl rfl rfl ?_
 refine ln Ax2_0.rd Try.underlying62 rfl rfl rfl rfl rfl rfl ?_
 refine pu rfl rfl rfl rfl rfl ?_
 refine dn ?_
 refine cd rfl (fun h5 => ?_) (fun h5 => ?_)
 ·
  refine sk ?_
  refine sq ?_
  refine bl ?_
  refine sr ?_
  refine mv w0_0 rfl rfl rfl rfl rfl rfl ?_
  refine pu rfl rfl rfl rfl rfl ?_
  refine pu rfl rfl rfl rfl rfl ?_
  refine ix Ax2_0.rd Try.underlying62 z59 rfl rfl rfl rfl rfl rfl rfl rfl (fun ad6 es6 h0_6 h1_6 he6 ce6 ia6 => ?_)
  obtain ⟨v6_0, v6_1, rfl, A6_0, A6_1⟩ := op59 he6
  refine fa fa59_0 rfl rfl rfl rfl rfl rfl ?_
  refine so (x' := (Track.mk x2.2.1 (at_ x2.1 x2.2.2).Begun (at_ x2.1 x2.2.2).Ended (at_ x2.1 x2.2.2).All (at_ x2.1 x2.2.2).Reads (at_ x2.1 x2.2.2).Writes (at_ x2.1 x2.2.2).In (at_ x2.1 x2.2.2).Out)) Ax2_0 ia6 h0_6 h1_6 (cs_iso (cs_left cs_flat)) z3 rfl rfl rfl rfl rfl rfl (fun s10 p10 A10 => ?_)
  refine nb (fun y12 h12 => ?_)
  have A12 : OwF (Kd.sl 59 kd59) s10 [w0_0] y12 2 := by rw [h12]; exact A10
  refine dn ?_
  refine sr ?_
  refine pu rfl rfl rfl rfl rfl ?_
  refine pu rfl rfl rfl rfl rfl ?_
  refine pu rfl rfl rfl rfl rfl ?_
  refine dn ?_
  refine sr ?_
  refine mv w0_0 rfl rfl rfl rfl rfl rfl ?_
  refine pu rfl rfl rfl rfl rfl ?_
  refine pu rfl rfl rfl rfl rfl ?_
  refine ix A12.rd Try.underlying62 z59 rfl rfl rfl rfl rfl rfl rfl rfl (fun ad13 es13 h0_13 h1_13 he13 ce13 ia13 => ?_)
  obtain ⟨v13_0, v13_1, rfl, A13_0, A13_1⟩ := op59 he13
  refine fa fa59_1 rfl rfl rfl rfl rfl rfl ?_
  refine so (x' := (Track.mk (at_ y12 x2.2.2).Xid (IntKind.wrap .i64 (x2.2.1 + (1 : Int))) (at_ y12 x2.2.2).Ended (at_ y12 x2.2.2).All (at_ y12 x2.2.2).Reads (at_ y12 x2.2.2).Writes (at_ y12 x2.2.2).In (at_ y12 x2.2.2).Out)) A12 ia13 h0_13 h1_13 (cs_iso (cs_right (cs_left cs_flat))) z3 rfl rfl rfl rfl rfl rfl (fun s17 p17 A17 => ?_)
  refine nb (fun y19 h19 => ?_)
  have A19 : OwF (Kd.sl 59 kd59) s17 [w0_0] y19 2 := by rw [h19]; exact A17
  refine dn ?_
  refine sr ?_
  refine pu rfl rfl rfl rfl rfl ?_
  refine pu rfl rfl rfl rfl rfl ?_
  refine pu rfl rfl rfl rfl rfl ?_
  refine dn ?_
  refine sr ?_
  refine mv w0_0 rfl rfl rfl rfl rfl rfl ?_
  refine pu rfl rfl rfl rfl rfl ?_
  refine pu rfl rfl rfl rfl rfl ?_
  refine ix A19.rd Try.underlying62 z59 rfl rfl rfl rfl rfl rfl rfl rfl (fun ad20 es20 h0_20 h1_20 he20 ce20 ia20 => ?_)
  obtain ⟨v20_0, v20_1, rfl, A20_0, A20_1⟩ := op59 he20
  refine fa fa59_2 rfl rfl rfl rfl rfl rfl ?_
  refine so (x' := (Track.mk (at_ y19 x2.2.2).Xid (at_ y19 x2.2.2).Begun (IntKind.wrap .i64 ((IntKind.wrap .i64 (x2.2.1 + (1 : Int))) + (1 : Int))) (at_ y19 x2.2.2).All (at_ y19 x2.2.2).Reads (at_ y19 x2.2.2).Writes (at_ y19 x2.2.2).In (at_ y19 x2.2.2).Out)) A19 ia20 h0_20 h1_20 (cs_iso (cs_right (cs_right (cs_left cs_flat)))) z3 rfl rfl rfl rfl rfl rfl (fun s24 p24 A24 => ?_)
  refine nb (fun y26 h26 => ?_)
  have A26 : OwF (Kd.sl 59 kd59) s24 [w0_0] y26 2 := by rw [h26]; exact A24
  refine dn ?_
  refine sr ?_
  refine pu rfl rfl rfl rfl rfl ?_
  refine pu rfl rfl rfl rfl rfl ?_
  refine pu rfl rfl rfl rfl rfl ?_
  refine dn ?_
  refine sr ?_
  refine mv w0_0 rfl rfl rfl rfl rfl rfl ?_
  refine pu rfl rfl rfl rfl rfl ?_
  refine pu rfl rfl rfl rfl rfl ?_
  refine remK rfl rfl rfl rfl rfl rfl rfl rfl ?_
  refine pu rfl rfl rfl rfl rfl ?_
  refine ix A26.rd Try.underlying62 z59 rfl rfl rfl rfl rfl rfl rfl rfl (fun ad27 es27 h0_27 h1_27 he27 ce27 ia27 => ?_)
  obtain ⟨v27_0, v27_1, rfl, A27_0, A27_1⟩ := op59 he27
  refine fa fa59_3 rfl rfl rfl rfl rfl rfl ?_
  refine so (x' := (Track.mk (at_ y26 x2.2.2).Xid (at_ y26 x2.2.2).Begun (at_ y26 x2.2.2).Ended (((IntKind.wrap .i64 ((IntKind.wrap .i64 ((IntKind.wrap .i64 (x2.2.1 + (1 : Int))) + (1 : Int))) + (1 : Int))).tmod (3 : Int)) == (0 : Int)) (at_ y26 x2.2.2).Reads (at_ y26 x2.2.2).Writes (at_ y26 x2.2.2).In (at_ y26 x2.2.2).Out)) A26 ia27 h0_27 h1_27 (cs_iso (cs_right (cs_right (cs_right (cs_left cs_flat))))) z4 rfl rfl rfl rfl rfl rfl (fun s31 p31 A31 => ?_)
  refine nb (fun y33 h33 => ?_)
  have A33 : OwF (Kd.sl 59 kd59) s31 [w0_0] y33 2 := by rw [h33]; exact A31
  refine dn ?_
  refine sr ?_
  refine pu rfl rfl rfl rfl rfl ?_
  refine pu rfl rfl rfl rfl rfl ?_
  refine pu rfl rfl rfl rfl rfl ?_
  refine dn ?_
  refine sr ?_
  refine mv w0_0 rfl rfl rfl rfl rfl rfl ?_
  refine pu rfl rfl rfl rfl rfl ?_
  refine ix A33.rd Try.underlying62 z59 rfl rfl rfl rfl rfl rfl rfl rfl (fun ad34 es34 h0_34 h1_34 he34 ce34 ia34 => ?_)
  obtain ⟨v34_0, v34_1, rfl, A34_0, A34_1⟩ := op59 he34
  refine fa fa59_4 rfl rfl rfl rfl rfl rfl ?_
  refine lc ce34 Try.underlying56 rfl rfl rfl rfl rfl rfl rfl rfl ?_
  refine pu rfl rfl rfl rfl rfl ?_
  obtain ⟨os38, ho38, hn38, hc38, put38⟩ := focus (ln_iso (fun x : Track => (x.Xid, x.Begun, x.Ended, x.All, x.Reads, x.Writes, x.In, x.Out)) (fun x => x.Reads) (fun x y => (Track.mk x.Xid x.Begun x.Ended x.All y x.Writes x.In x.Out)) (ln_right (ln_right (ln_right (ln_right (ln_left ln_sl))))) (fun _ => rfl) (fun _ _ => rfl)) A33 h0_34 h1_34 ia34 ce34 rfl rfl
  refine cl rfl rfl rfl rfl rfl Try.func59 rfl rfl rfl (fun r38 m38 => laws_markSpanS.calls ((at_ y33 x2.2.2).Reads) (IntKind.wrap .i64 ((IntKind.wrap .i64 ((IntKind.wrap .i64 ((IntKind.wrap .i64 (x2.2.1 + (1 : Int))) + (1 : Int))) + (1 : Int))) + (1 : Int))) s31.w (fun b => memb [] (s31.g b) = true) v34_0 os38 ho38 hn38 (apart_of hc38 rfl) r38 m38) ?_
  rintro r38 _ w38 m38 ⟨rfl, w38_, ky38⟩
  obtain ⟨s39, rfl, p39, A39⟩ := put38 w38 _ 40 ky38 w38_
  refine nb (fun y41 h41 => ?_)
  have A41 : OwF (Kd.sl 59 kd59) s39 [w0_0] y41 2 := by rw [h41]; exact A39
  refine pu rfl rfl rfl rfl rfl ?_
  refine dn ?_
  refine sr ?_
  refine mv w0_0 rfl rfl rfl rfl rfl rfl ?_
  refine pu rfl rfl rfl rfl rfl ?_
  refine ix A41.rd Try.underlying62 z59 rfl rfl rfl rfl rfl rfl rfl rfl (fun ad42 es42 h0_42 h1_42 he42 ce42 ia42 => ?_)
  obtain ⟨v42_0, v42_1, rfl, A42_0, A42_1⟩ := op59 he42
  refine fa fa59_5 rfl rfl rfl rfl rfl rfl ?_
  refine lc ce42 Try.underlying57 rfl rfl rfl rfl rfl rfl rfl rfl ?_
  refine pu rfl rfl rfl rfl rfl ?_
  obtain ⟨os46, ho46, hn46, hc46, put46⟩ := focus (ln_iso (fun x : Track => (x.Xid, x.Begun, x.Ended, x.All, x.Reads, x.Writes, x.In, x.Out)) (fun x => x.Writes) (fun x y => (Track.mk x.Xid x.Begun x.Ended x.All x.Reads y x.In x.Out)) (ln_right (ln_right (ln_right (ln_right (ln_right (ln_left ln_sl)))))) (fun _ => rfl) (fun _ _ => rfl)) A41 h0_42 h1_42 ia42 ce42 rfl rfl
  refine cl rfl rfl rfl rfl rfl Try.func60 rfl rfl rfl (fun r46 m46 => laws_markItemS.calls ((at_ y41 x2.2.2).Writes) r38.1 s39.w (fun b => memb [] (s39.g b) = true) v42_1 os46 ho46 hn46 (apart_of hc46 rfl) r46 m46) ?_
  rintro r46 _ w46 m46 ⟨rfl, w46_, ky46⟩
  obtain ⟨s47, rfl, p47, A47⟩ := put46 w46 _ 41 ky46 w46_
  refine nb (fun y49 h49 => ?_)
  have A49 : OwF (Kd.sl 59 kd59) s47 [w0_0] y49 2 := by rw [h49]; exact A47
  refine pu rfl rfl rfl rfl rfl ?_
  refine dn ?_
  refine sr ?_
  refine mv w0_0 rfl rfl rfl rfl rfl rfl ?_
  refine pu rfl rfl rfl rfl rfl ?_
  refine pu rfl rfl rfl rfl rfl ?_
  refine remK rfl rfl rfl rfl rfl rfl rfl rfl ?_
  refine pu rfl rfl rfl rfl rfl ?_
  refine ix A49.rd Try.underlying62 z59 rfl rfl rfl rfl rfl rfl rfl rfl (fun ad50 es50 h0_50 h1_50 he50 ce50 ia50 => ?_)
  obtain ⟨v50_0, v50_1, rfl, A50_0, A50_1⟩ := op59 he50
  refine fa fa59_6 rfl rfl rfl rfl rfl rfl ?_
  refine so (x' := (Track.mk (at_ y49 x2.2.2).Xid (at_ y49 x2.2.2).Begun (at_ y49 x2.2.2).Ended (at_ y49 x2.2.2).All (at_ y49 x2.2.2).Reads (at_ y49 x2.2.2).Writes ((r46.1.tmod (3 : Int)) == (0 : Int)) (at_ y49 x2.2.2).Out)) A49 ia50 h0_50 h1_50 (cs_iso (cs_right (cs_right (cs_right (cs_right (cs_right (cs_right (cs_left cs_flat)))))))) z4 rfl rfl rfl rfl rfl rfl (fun s54 p54 A54 => ?_)
  refine nb (fun y56 h56 => ?_)
  have A56 : OwF (Kd.sl 59 kd59) s54 [w0_0] y56 2 := by rw [h56]; exact A54
  refine dn ?_
  refine sr ?_
  refine pu rfl rfl rfl rfl rfl ?_
  refine pu rfl rfl rfl rfl rfl ?_
  refine pu rfl rfl rfl rfl rfl ?_
  refine dn ?_
  refine sr ?_
  refine mv w0_0 rfl rfl rfl rfl rfl rfl ?_
  refine pu rfl rfl rfl rfl rfl ?_
  refine pu rfl rfl rfl rfl rfl ?_
  refine remK rfl rfl rfl rfl rfl rfl rfl rfl ?_
  refine pu rfl rfl rfl rfl rfl ?_
  refine ix A56.rd Try.underlying62 z59 rfl rfl rfl rfl rfl rfl rfl rfl (fun ad57 es57 h0_57 h1_57 he57 ce57 ia57 => ?_)
  obtain ⟨v57_0, v57_1, rfl, A57_0, A57_1⟩ := op59 he57
  refine fa fa59_7 rfl rfl rfl rfl rfl rfl ?_
  refine so (x' := (Track.mk (at_ y56 x2.2.2).Xid (at_ y56 x2.2.2).Begun (at_ y56 x2.2.2).Ended (at_ y56 x2.2.2).All (at_ y56 x2.2.2).Reads (at_ y56 x2.2.2).Writes (at_ y56 x2.2.2).In (((IntKind.wrap .i64 (r46.1 + (1 : Int))).tmod (3 : Int)) == (0 : Int)))) A56 ia57 h0_57 h1_57 (cs_iso (cs_right (cs_right (cs_right (cs_right (cs_right (cs_right (cs_right cs_flat)))))))) z4 rfl rfl rfl rfl rfl rfl (fun s61 p61 A61 => ?_)
  refine nb (fun y63 h63 => ?_)
  have A63 : OwF (Kd.sl 59 kd59) s61 [w0_0] y63 2 := by rw [h63]; exact A61
  refine dn ?_
  refine rg ?_
  refine pu rfl rfl rfl rfl rfl ?_
  refine pu rfl rfl rfl rfl rfl ?_
  refine pu rfl rfl rfl rfl rfl ?_
  refine dn ?_
  refine ib ?_
  refine rg ?_
  refine pu rfl rfl rfl rfl rfl ?_
  refine pu rfl rfl rfl rfl rfl ?_
  refine pu rfl rfl rfl rfl rfl ?_
  refine dn ?_
  have K64 := ((((((((Kx2.st p10 rfl).st p17 rfl).st p24 rfl).st p31 rfl).st p39 rfl).st p47 rfl).st p54 rfl).st p61 rfl)
  exact lb ih2 ⟨s61, _, rfl, (ue (ue (ue rfl rfl) rfl) rfl), K64, A63⟩
 ·
  refine xt rfl ?_
  refine sgb ?_
  refine sr ?_
  refine pu rfl rfl rfl rfl rfl ?_
  refine pu rfl rfl rfl rfl rfl ?_
  refine dn ?_
  exact re rfl Try.func38 rfl (r_t rfl r_nil) rfl ⟨_, rfl, rfl, z.fw Kx2 Ax2_0, z.ky Kx2⟩
noncomputable def laws_heldSpanS.b0 (a0 : (List Span)) (x2 : Int × Int) : Option ((Int × Int) ⊕ Int) :=
 (if (decide (x2.2 < (a0.length : Int))) = true then (if 0 ≤ x2.2 ∧ x2.2 < (a0.length : Int) then (if (((at_ a0 x2.2).From).Kind != x2.1) = true then (some (Sum.inr (-1 : Int))) else (if 0 ≤ x2.2 ∧ x2.2 < (a0.length : Int) then (if (((at_ a0 x2.2).From).N != (IntKind.wrap .i64 (x2.1 + (1 : Int)))) = true then (some (Sum.inr (-1 : Int))) else (if 0 ≤ x2.2 ∧ x2.2 < (a0.length : Int) then (if (fcmp .f64 (((at_ a0 x2.2).From).F) (FloatKind.f64.nearest (IntKind.wrap .i64 ((IntKind.wrap .i64 (x2.1 + (1 : Int))) + (1 : Int)))) != some .eq) = true then (some (Sum.inr (-1 : Int))) else (if 0 ≤ x2.2 ∧ x2.2 < (a0.length : Int) then ((laws_heldByteS.f (((at_ a0 x2.2).From).T) (IntKind.wrap .i64 ((IntKind.wrap .i64 ((IntKind.wrap .i64 (x2.1 + (1 : Int))) + (1 : Int))) + (1 : Int)))).bind fun r26 => (if (decide (r26 < (0 : Int))) = true then (some (Sum.inr (-1 : Int))) else (if 0 ≤ x2.2 ∧ x2.2 < (a0.length : Int) then (if (((at_ a0 x2.2).To).Kind != r26) = true then (some (Sum.inr (-1 : Int))) else (if 0 ≤ x2.2 ∧ x2.2 < (a0.length : Int) then (if (((at_ a0 x2.2).To).N != (IntKind.wrap .i64 (r26 + (1 : Int)))) = true then (some (Sum.inr (-1 : Int))) else (if 0 ≤ x2.2 ∧ x2.2 < (a0.length : Int) then (if (fcmp .f64 (((at_ a0 x2.2).To).F) (FloatKind.f64.nearest (IntKind.wrap .i64 ((IntKind.wrap .i64 (r26 + (1 : Int))) + (1 : Int)))) != some .eq) = true then (some (Sum.inr (-1 : Int))) else (if 0 ≤ x2.2 ∧ x2.2 < (a0.length : Int) then ((laws_heldByteS.f (((at_ a0 x2.2).To).T) (IntKind.wrap .i64 ((IntKind.wrap .i64 ((IntKind.wrap .i64 (r26 + (1 : Int))) + (1 : Int))) + (1 : Int)))).bind fun r52 => (if (decide (r52 < (0 : Int))) = true then (some (Sum.inr (-1 : Int))) else (some (Sum.inl (r52, (IntKind.wrap .i64 (x2.2 + (1 : Int)))))))) else none)) else none)) else none)) else none))) else none)) else none)) else none)) else none) else ((some x2.1).bind fun o => some (Sum.inr o)))
noncomputable def laws_heldSpanS.f (a0 : (List Span)) (a1 : Int) : Option (Int) :=
 (iter (laws_heldSpanS.b0 a0) (a1, (0 : Int)))
def laws_heldSpanS.Q (w : World) (F : Nat → Prop) (r : Int) (v : Value) (w' : World) : Prop :=
 v = (.int .i64 r) ∧ Ky [] w w'
set_option maxHeartbeats 4000000 in
set_option maxRecDepth 100000 in
theorem laws_heldSpanS.calls (a0 : (List Span)) (a1 : Int) (w : World) (F : Nat → Prop) (w0_0 : Value) (h0_0 : (Kd.sl 80 kd80).rd w [w0_0] a0 F) (r : Int) (m : laws_heldSpanS.f a0 a1 = some r) :
  Calls Try.prog 105 #[w0_0, (.int .i64 a1)] w fun en w' => ∃ v, en = .returned v ∧ laws_heldSpanS.Q w F r v w' := by
 obtain ⟨s0, rfl, kp0, z⟩ := start0 w F
 have A0_0 := z.rd h0_0
 refine calls_of_TM (args := [w0_0, (.int .i64 a1)]) (R := fun r en w' => ∃ v, en = .returned v ∧ laws_heldSpanS.Q s0.w F r v w') Try.func105 Try.ntmps105 rfl rfl m ?_
 unfold laws_heldSpanS.f
 refine sr ?_
 refine pu rfl rfl rfl rfl rfl ?_
 refine dn ?_
 refine sq ?_
 refine sr ?_
 refine pu rfl rfl rfl rfl rfl ?_
 refine dn ?_
 refine bl ?_
 refine lpI (fun (x2 : Int × Int) (e : Env) (w : World) => ∃ (s : St) (e0 : Env), w = s.w ∧ e = upd (upd (upd e0 0 w0_0) 1 (.int .i64 x2.1)) 5 (.int .i64 x2.2) ∧ Kp s0 s) ⟨s0, _, rfl, (ue (ue (ue rfl rfl) rfl) rfl), kp0⟩ (fun g2 ih2 => ?_)
 rintro x2 _ _ ⟨s3, _, rfl, rfl, Kx2⟩
 unfold laws_heldSpanS.b0
 refine sq ?_
 refine sr ?_
 refine pu rfl rfl rfl rfl rfl ?_
 refine mv w0_0 rfl rfl rfl rfl rfl rfl ?_
 have A4 := (A0_0.kp Kx2)
 refine ln A4 Try.underlying56 rfl rfl rfl rfl rfl rfl ?_
 refine pu rfl rfl rfl rfl rfl ?_
 refine dn ?_
 refine cd rfl (fun h5 => ?_) (fun h5 => ?_)
 ·
  refine sk ?_
  refine sq ?_
  refine bl ?_
  refine sq ?_
  refine sr ?_
  refine mv w0_0 rfl rfl rfl rfl rfl rfl ?_
  refine pu rfl rfl rfl rfl rfl ?_
  refine ix A4 Try.underlying56 z80 rfl rfl rfl rfl rfl rfl rfl rfl (fun ad6 es6 h0_6 h1_6 he6 ce6 ia6 => ?_)
  obtain ⟨v6_0, v6_1, v6_2, v6_3, rfl, A6_0, A6_1, A6_2, A6_3⟩ := op80 he6
  refine fa fa80_0 rfl rfl rfl rfl rfl rfl ?_
  refine fa fa48_0 rfl rfl rfl rfl rfl rfl ?_
  refine lc0 ce6 Try.underlying3 rfl rfl rfl rfl rfl rfl rfl rfl ?_
  refine pu rfl rfl rfl rfl rfl ?_
  refine pu rfl rfl rfl rfl rfl ?_
  refine dn ?_
  refine cd rfl (fun h10 => ?_) (fun h10 => ?_)
  ·
   refine sr ?_
   refine pu rfl rfl rfl rfl rfl ?_
   refine dn ?_
   refine sgi ?_
   exact re rfl Try.func105 rfl (r_t rfl r_nil) rfl ⟨_, rfl, rfl, z.ky Kx2⟩
  ·
   refine sk ?_
   refine sr ?_
   refine pu rfl rfl rfl rfl rfl ?_
   refine pu rfl rfl rfl rfl rfl ?_
   refine pu rfl rfl rfl rfl rfl ?_
   refine dn ?_
   refine sq ?_
   refine sr ?_
   refine mv w0_0 rfl rfl rfl rfl rfl rfl ?_
   refine pu rfl rfl rfl rfl rfl ?_
   refine ix A4 Try.underlying56 z80 rfl rfl rfl rfl rfl rfl rfl rfl (fun ad11 es11 h0_11 h1_11 he11 ce11 ia11 => ?_)
   obtain ⟨v11_0, v11_1, v11_2, v11_3, rfl, A11_0, A11_1, A11_2, A11_3⟩ := op80 he11
   refine fa fa80_0 rfl rfl rfl rfl rfl rfl ?_
   refine fa fa48_1 rfl rfl rfl rfl rfl rfl ?_
   refine lc ce11 Try.underlying3 rfl rfl rfl rfl rfl rfl rfl rfl ?_
   refine pu rfl rfl rfl rfl rfl ?_
   refine pu rfl rfl rfl rfl rfl ?_
   refine dn ?_
   refine cd rfl (fun h15 => ?_) (fun h15 => ?_)
   ·
    refine sr ?_
    refine pu rfl rfl rfl rfl rfl ?_
    refine dn ?_
    refine sgi ?_
    exact re rfl Try.func105 rfl (r_t rfl r_nil) rfl ⟨_, rfl, rfl, z.ky Kx2⟩
   ·
    refine sk ?_
    refine sr ?_
    refine pu rfl rfl rfl rfl rfl ?_
    refine pu rfl rfl rfl rfl rfl ?_
    refine pu rfl rfl rfl rfl rfl ?_
    refine dn ?_
    refine sq ?_
    refine sr ?_
    refine mv w0_0 rfl rfl rfl rfl rfl rfl ?_
    refine pu rfl rfl rfl rfl rfl ?_
    refine ix A4 Try.underlying56 z80 rfl rfl rfl rfl rfl rfl rfl rfl (fun ad16 es16 h0_16 h1_16 he16 ce16 ia16 => ?_)
    obtain ⟨v16_0, v16_1, v16_2, v16_3, rfl, A16_0, A16_1, A16_2, A16_3⟩ := op80 he16
    refine fa fa80_0 rfl rfl rfl rfl rfl rfl ?_
    refine fa fa48_2 rfl rfl rfl rfl rfl rfl ?_
    refine lc ce16 Try.underlying36 rfl rfl rfl rfl rfl rfl rfl rfl ?_
    refine pu rfl rfl rfl rfl rfl ?_
    refine i2f Try.underlying36 Try.underlying3 rfl rfl rfl rfl rfl rfl (fun v20 A20 => ?_)
    refine fq_ A16_0 A20 rfl rfl rfl rfl rfl rfl rfl rfl ?_
    refine dn ?_
    refine cd rfl (fun h21 => ?_) (fun h21 => ?_)
    ·
     refine sr ?_
     refine pu rfl rfl rfl rfl rfl ?_
     refine dn ?_
     refine sgi ?_
     exact re rfl Try.func105 rfl (r_t rfl r_nil) rfl ⟨_, rfl, rfl, z.ky Kx2⟩
    ·
     refine sk ?_
     refine sr ?_
     refine pu rfl rfl rfl rfl rfl ?_
     refine pu rfl rfl rfl rfl rfl ?_
     refine pu rfl rfl rfl rfl rfl ?_
     refine dn ?_
     refine sr ?_
     refine mv w0_0 rfl rfl rfl rfl rfl rfl ?_
     refine pu rfl rfl rfl rfl rfl ?_
     refine ix A4 Try.underlying56 z80 rfl rfl rfl rfl rfl rfl rfl rfl (fun ad22 es22 h0_22 h1_22 he22 ce22 ia22 => ?_)
     obtain ⟨v22_0, v22_1, v22_2, v22_3, rfl, A22_0, A22_1, A22_2, A22_3⟩ := op80 he22
     refine fa fa80_0 rfl rfl rfl rfl rfl rfl ?_
     refine fa fa48_3 rfl rfl rfl rfl rfl rfl ?_
     refine lc ce22 Try.underlying37 rfl rfl rfl rfl rfl rfl rfl rfl ?_
     refine pu rfl rfl rfl rfl rfl ?_
     refine cl rfl rfl rfl rfl rfl Try.func169 rfl rfl rfl (fun r26 m26 => laws_heldByteS.calls (((at_ a0 x2.2).From).T) (IntKind.wrap .i64 ((IntKind.wrap .i64 ((IntKind.wrap .i64 (x2.1 + (1 : Int))) + (1 : Int))) + (1 : Int))) s3.w (fun b => memb [0] (s3.g b) = true) v22_1 A22_1 r26 m26) ?_
     rintro r26 _ w26 m26 ⟨rfl, ky26⟩
     obtain ⟨s27, rfl, p27, n27⟩ := nwx s3 w26 40 ky26
     refine pu rfl rfl rfl rfl rfl ?_
     refine dn ?_
     refine sq ?_
     refine sr ?_
     refine pu rfl rfl rfl rfl rfl ?_
     refine pu rfl rfl rfl rfl rfl ?_
     refine dn ?_
     refine cd rfl (fun h28 => ?_) (fun h28 => ?_)
     ·
      refine sr ?_
      refine pu rfl rfl rfl rfl rfl ?_
      refine dn ?_
      refine sgi ?_
      have K29 := (Kx2.st p27 rfl)
      exact re rfl Try.func105 rfl (r_t rfl r_nil) rfl ⟨_, rfl, rfl, z.ky K29⟩
     ·
      refine sk ?_
      refine sq ?_
      refine sr ?_
      refine mv w0_0 rfl rfl rfl rfl rfl rfl ?_
      refine pu rfl rfl rfl rfl rfl ?_
      have K30 := (Kx2.st p27 rfl)
      have A31 := (A0_0.kp K30)
      refine ix A31 Try.underlying56 z80 rfl rfl rfl rfl rfl rfl rfl rfl (fun ad32 es32 h0_32 h1_32 he32 ce32 ia32 => ?_)
      obtain ⟨v32_0, v32_1, v32_2, v32_3, rfl, A32_0, A32_1, A32_2, A32_3⟩ := op80 he32
      refine fa fa80_1 rfl rfl rfl rfl rfl rfl ?_
      refine faq (q := 4) (q' := 0) (n := 4) fa48_0 rfl rfl rfl rfl rfl rfl rfl ?_
      refine lc ce32 Try.underlying3 rfl rfl rfl rfl rfl rfl rfl rfl ?_
      refine pu rfl rfl rfl rfl rfl ?_
      refine pu rfl rfl rfl rfl rfl ?_
      refine dn ?_
      refine cd rfl (fun h36 => ?_) (fun h36 => ?_)
      ·
       refine sr ?_
       refine pu rfl rfl rfl rfl rfl ?_
       refine dn ?_
       refine sgi ?_
       exact re rfl Try.func105 rfl (r_t rfl r_nil) rfl ⟨_, rfl, rfl, z.ky K30⟩
      ·
       refine sk ?_
       refine sr ?_
       refine pu rfl rfl rfl rfl rfl ?_
       refine pu rfl rfl rfl rfl rfl ?_
       refine pu rfl rfl rfl rfl rfl ?_
       refine dn ?_
       refine sq ?_
       refine sr ?_
       refine mv w0_0 rfl rfl rfl rfl rfl rfl ?_
       refine pu rfl rfl rfl rfl rfl ?_
       refine ix A31 Try.underlying56 z80 rfl rfl rfl rfl rfl rfl rfl rfl (fun ad37 es37 h0_37 h1_37 he37 ce37 ia37 => ?_)
       obtain ⟨v37_0, v37_1, v37_2, v37_3, rfl, A37_0, A37_1, A37_2, A37_3⟩ := op80 he37
       refine fa fa80_1 rfl rfl rfl rfl rfl rfl ?_
       refine faq (q := 4) (q' := 1) (n := 5) fa48_1 rfl rfl rfl rfl rfl rfl rfl ?_
       refine lc ce37 Try.underlying3 rfl rfl rfl rfl rfl rfl rfl rfl ?_
       refine pu rfl rfl rfl rfl rfl ?_
       refine pu rfl rfl rfl rfl rfl ?_
       refine dn ?_
       refine cd rfl (fun h41 => ?_) (fun h41 => ?_)
       ·
        refine sr ?_
        refine pu rfl rfl rfl rfl rfl ?_
        refine dn ?_
        refine sgi ?_
        exact re rfl Try.func105 rfl (r_t rfl r_nil) rfl ⟨_, rfl, rfl, z.ky K30⟩
       ·
        refine sk ?_
        refine sr ?_
        refine pu rfl rfl rfl rfl rfl ?_
        refine pu rfl rfl rfl rfl rfl ?_
        refine pu rfl rfl rfl rfl rfl ?_
        refine dn ?_
        refine sq ?_
        refine sr ?_
        refine mv w0_0 rfl rfl rfl rfl rfl rfl ?_
        refine pu rfl rfl rfl rfl rfl ?_
        refine ix A31 Try.underlying56 z80 rfl rfl rfl rfl rfl rfl rfl rfl (fun ad42 es42 h0_42 h1_42 he42 ce42 ia42 => ?_)
        obtain ⟨v42_0, v42_1, v42_2, v42_3, rfl, A42_0, A42_1, A42_2, A42_3⟩ := op80 he42
        refine fa fa80_1 rfl rfl rfl rfl rfl rfl ?_
        refine faq (q := 4) (q' := 2) (n := 6) fa48_2 rfl rfl rfl rfl rfl rfl rfl ?_
        refine lc ce42 Try.underlying36 rfl rfl rfl rfl rfl rfl rfl rfl ?_
        refine pu rfl rfl rfl rfl rfl ?_
        refine i2f Try.underlying36 Try.underlying3 rfl rfl rfl rfl rfl rfl (fun v46 A46 => ?_)
        refine fq_ A42_2 A46 rfl rfl rfl rfl rfl rfl rfl rfl ?_
        refine dn ?_
        refine cd rfl (fun h47 => ?_) (fun h47 => ?_)
        ·
         refine sr ?_
         refine pu rfl rfl rfl rfl rfl ?_
         refine dn ?_
         refine sgi ?_
         exact re rfl Try.func105 rfl (r_t rfl r_nil) rfl ⟨_, rfl, rfl, z.ky K30⟩
        ·
         refine sk ?_
         refine sr ?_
         refine pu rfl rfl rfl rfl rfl ?_
         refine pu rfl rfl rfl rfl rfl ?_
         refine pu rfl rfl rfl rfl rfl ?_
         refine dn ?_
         refine sr ?_
         refine mv w0_0 rfl rfl rfl rfl rfl rfl ?_
         refine pu rfl rfl rfl rfl rfl ?_
         refine ix A31 Try.underlying56 z80 rfl rfl rfl rfl rfl rfl rfl rfl (fun ad48 es48 h0_48 h1_48 he48 ce48 ia48 => ?_)
         obtain ⟨v48_0, v48_1, v48_2, v48_3, rfl, A48_0, A48_1, A48_2, A48_3⟩ := op80 he48
         refine fa fa80_1 rfl rfl rfl rfl rfl rfl ?_
         refine faq (q := 4) (q' := 3) (n := 7) fa48_3 rfl rfl rfl rfl rfl rfl rfl ?_
         refine lc ce48 Try.underlying37 rfl rfl rfl rfl rfl rfl rfl rfl ?_
         refine pu rfl rfl rfl rfl rfl ?_
         refine cl rfl rfl rfl rfl rfl Try.func169 rfl rfl rfl (fun r52 m52 => laws_heldByteS.calls (((at_ a0 x2.2).To).T) (IntKind.wrap .i64 ((IntKind.wrap .i64 ((IntKind.wrap .i64 (r26 + (1 : Int))) + (1 : Int))) + (1 : Int))) s27.w (fun b => memb [0] (s27.g b) = true) v48_3 A48_3 r52 m52) ?_
         rintro r52 _ w52 m52 ⟨rfl, ky52⟩
         obtain ⟨s53, rfl, p53, n53⟩ := nwx s27 w52 41 ky52
         refine pu rfl rfl rfl rfl rfl ?_
         refine dn ?_
         refine sr ?_
         refine pu rfl rfl rfl rfl rfl ?_
         refine pu rfl rfl rfl rfl rfl ?_
         refine dn ?_
         refine cd rfl (fun h54 => ?_) (fun h54 => ?_)
         ·
          refine sr ?_
          refine pu rfl rfl rfl rfl rfl ?_
          refine dn ?_
          refine sgi ?_
          have K55 := (K30.st p53 rfl)
          exact re rfl Try.func105 rfl (r_t rfl r_nil) rfl ⟨_, rfl, rfl, z.ky K55⟩
         ·
          refine sk ?_
          refine ib ?_
          refine rg ?_
          refine pu rfl rfl rfl rfl rfl ?_
          refine pu rfl rfl rfl rfl rfl ?_
          refine pu rfl rfl rfl rfl rfl ?_
          refine dn ?_
          have K56 := (K30.st p53 rfl)
          exact lb ih2 ⟨s53, _, rfl, (ue (ue (ue rfl rfl) rfl) rfl), K56⟩
 ·
  refine xt rfl ?_
  refine sgb ?_
  refine sr ?_
  refine pu rfl rfl rfl rfl rfl ?_
  refine pu rfl rfl rfl rfl rfl ?_
  refine dn ?_
  exact re rfl Try.func105 rfl (r_t rfl r_nil) rfl ⟨_, rfl, rfl, z.ky Kx2⟩
noncomputable def laws_heldItemS.b0 (a0 : (List Item)) (x2 : Int × Int) : Option ((Int × Int) ⊕ Int) :=
 (if (decide (x2.2 < (a0.length : Int))) = true then (if 0 ≤ x2.2 ∧ x2.2 < (a0.length : Int) then (if ((at_ a0 x2.2).Kind != x2.1) = true then (some (Sum.inr (-1 : Int))) else (if 0 ≤ x2.2 ∧ x2.2 < (a0.length : Int) then (if ((at_ a0 x2.2).N != (IntKind.wrap .i64 (x2.1 + (1 : Int)))) = true then (some (Sum.inr (-1 : Int))) else (if 0 ≤ x2.2 ∧ x2.2 < (a0.length : Int) then (if (fcmp .f64 ((at_ a0 x2.2).F) (FloatKind.f64.nearest (IntKind.wrap .i64 ((IntKind.wrap .i64 (x2.1 + (1 : Int))) + (1 : Int)))) != some .eq) = true then (some (Sum.inr (-1 : Int))) else (if 0 ≤ x2.2 ∧ x2.2 < (a0.length : Int) then ((laws_heldByteS.f ((at_ a0 x2.2).T) (IntKind.wrap .i64 ((IntKind.wrap .i64 ((IntKind.wrap .i64 (x2.1 + (1 : Int))) + (1 : Int))) + (1 : Int)))).bind fun r22 => (if (decide (r22 < (0 : Int))) = true then (some (Sum.inr (-1 : Int))) else (some (Sum.inl (r22, (IntKind.wrap .i64 (x2.2 + (1 : Int)))))))) else none)) else none)) else none)) else none) else ((some x2.1).bind fun o => some (Sum.inr o)))
noncomputable def laws_heldItemS.f (a0 : (List Item)) (a1 : Int) : Option (Int) :=
 (iter (laws_heldItemS.b0 a0) (a1, (0 : Int)))
def laws_heldItemS.Q (w : World) (F : Nat → Prop) (r : Int) (v : Value) (w' : World) : Prop :=
 v = (.int .i64 r) ∧ Ky [] w w'
set_option maxHeartbeats 4000000 in
set_option maxRecDepth 100000 in
theorem laws_heldItemS.calls (a0 : (List Item)) (a1 : Int) (w : World) (F : Nat → Prop) (w0_0 : Value) (h0_0 : (Kd.sl 48 kd48).rd w [w0_0] a0 F) (r : Int) (m : laws_heldItemS.f a0 a1 = some r) :
  Calls Try.prog 106 #[w0_0, (.int .i64 a1)] w fun en w' => ∃ v, en = .returned v ∧ laws_heldItemS.Q w F r v w' := by
 obtain ⟨s0, rfl, kp0, z⟩ := start0 w F
 have A0_0 := z.rd h0_0
 refine calls_of_TM (args := [w0_0, (.int .i64 a1)]) (R := fun r en w' => ∃ v, en = .returned v ∧ laws_heldItemS.Q s0.w F r v w') Try.func106 Try.ntmps106 rfl rfl m ?_
 unfold laws_heldItemS.f
 refine sr ?_
 refine pu rfl rfl rfl rfl rfl ?_
 refine dn ?_
 refine sq ?_
 refine sr ?_
 refine pu rfl rfl rfl rfl rfl ?_
 refine dn ?_
 refine bl ?_
 refine lpI (fun (x2 : Int × Int) (e : Env) (w : World) => ∃ (s : St) (e0 : Env), w = s.w ∧ e = upd (upd (upd e0 0 w0_0) 1 (.int .i64 x2.1)) 5 (.int .i64 x2.2) ∧ Kp s0 s) ⟨s0, _, rfl, (ue (ue (ue rfl rfl) rfl) rfl), kp0⟩ (fun g2 ih2 => ?_)
 rintro x2 _ _ ⟨s3, _, rfl, rfl, Kx2⟩
 unfold laws_heldItemS.b0
 refine sq ?_
 refine sr ?_
 refine pu rfl rfl rfl rfl rfl ?_
 refine mv w0_0 rfl rfl rfl rfl rfl rfl ?_
 have A4 := (A0_0.kp Kx2)
 refine ln A4 Try.underlying57 rfl rfl rfl rfl rfl rfl ?_
 refine pu rfl rfl rfl rfl rfl ?_
 refine dn ?_
 refine cd rfl (fun h5 => ?_) (fun h5 => ?_)
 ·
  refine sk ?_
  refine sq ?_
  refine bl ?_
  refine sq ?_
  refine sr ?_
  refine mv w0_0 rfl rfl rfl rfl rfl rfl ?_
  refine pu rfl rfl rfl rfl rfl ?_
  refine ix A4 Try.underlying57 z48 rfl rfl rfl rfl rfl rfl rfl rfl (fun ad6 es6 h0_6 h1_6 he6 ce6 ia6 => ?_)
  obtain ⟨v6_0, v6_1, rfl, A6_0, A6_1⟩ := op48 he6
  refine fa fa48_0 rfl rfl rfl rfl rfl rfl ?_
  refine lc0 ce6 Try.underlying3 rfl rfl rfl rfl rfl rfl rfl rfl ?_
  refine pu rfl rfl rfl rfl rfl ?_
  refine pu rfl rfl rfl rfl rfl ?_
  refine dn ?_
  refine cd rfl (fun h9 => ?_) (fun h9 => ?_)
  ·
   refine sr ?_
   refine pu rfl rfl rfl rfl rfl ?_
   refine dn ?_
   refine sgi ?_
   exact re rfl Try.func106 rfl (r_t rfl r_nil) rfl ⟨_, rfl, rfl, z.ky Kx2⟩
  ·
   refine sk ?_
   refine sr ?_
   refine pu rfl rfl rfl rfl rfl ?_
   refine pu rfl rfl rfl rfl rfl ?_
   refine pu rfl rfl rfl rfl rfl ?_
   refine dn ?_
   refine sq ?_
   refine sr ?_
   refine mv w0_0 rfl rfl rfl rfl rfl rfl ?_
   refine pu rfl rfl rfl rfl rfl ?_
   refine ix A4 Try.underlying57 z48 rfl rfl rfl rfl rfl rfl rfl rfl (fun ad10 es10 h0_10 h1_10 he10 ce10 ia10 => ?_)
   obtain ⟨v10_0, v10_1, rfl, A10_0, A10_1⟩ := op48 he10
   refine fa fa48_1 rfl rfl rfl rfl rfl rfl ?_
   refine lc ce10 Try.underlying3 rfl rfl rfl rfl rfl rfl rfl rfl ?_
   refine pu rfl rfl rfl rfl rfl ?_
   refine pu rfl rfl rfl rfl rfl ?_
   refine dn ?_
   refine cd rfl (fun h13 => ?_) (fun h13 => ?_)
   ·
    refine sr ?_
    refine pu rfl rfl rfl rfl rfl ?_
    refine dn ?_
    refine sgi ?_
    exact re rfl Try.func106 rfl (r_t rfl r_nil) rfl ⟨_, rfl, rfl, z.ky Kx2⟩
   ·
    refine sk ?_
    refine sr ?_
    refine pu rfl rfl rfl rfl rfl ?_
    refine pu rfl rfl rfl rfl rfl ?_
    refine pu rfl rfl rfl rfl rfl ?_
    refine dn ?_
    refine sq ?_
    refine sr ?_
    refine mv w0_0 rfl rfl rfl rfl rfl rfl ?_
    refine pu rfl rfl rfl rfl rfl ?_
    refine ix A4 Try.underlying57 z48 rfl rfl rfl rfl rfl rfl rfl rfl (fun ad14 es14 h0_14 h1_14 he14 ce14 ia14 => ?_)
    obtain ⟨v14_0, v14_1, rfl, A14_0, A14_1⟩ := op48 he14
    refine fa fa48_2 rfl rfl rfl rfl rfl rfl ?_
    refine lc ce14 Try.underlying36 rfl rfl rfl rfl rfl rfl rfl rfl ?_
    refine pu rfl rfl rfl rfl rfl ?_
    refine i2f Try.underlying36 Try.underlying3 rfl rfl rfl rfl rfl rfl (fun v17 A17 => ?_)
    refine fq_ A14_0 A17 rfl rfl rfl rfl rfl rfl rfl rfl ?_
    refine dn ?_
    refine cd rfl (fun h18 => ?_) (fun h18 => ?_)
    ·
     refine sr ?_
     refine pu rfl rfl rfl rfl rfl ?_
     refine dn ?_
     refine sgi ?_
     exact re rfl Try.func106 rfl (r_t rfl r_nil) rfl ⟨_, rfl, rfl, z.ky Kx2⟩
    ·
     refine sk ?_
     refine sr ?_
     refine pu rfl rfl rfl rfl rfl ?_
     refine pu rfl rfl rfl rfl rfl ?_
     refine pu rfl rfl rfl rfl rfl ?_
     refine dn ?_
     refine sr ?_
     refine mv w0_0 rfl rfl rfl rfl rfl rfl ?_
     refine pu rfl rfl rfl rfl rfl ?_
     refine ix A4 Try.underlying57 z48 rfl rfl rfl rfl rfl rfl rfl rfl (fun ad19 es19 h0_19 h1_19 he19 ce19 ia19 => ?_)
     obtain ⟨v19_0, v19_1, rfl, A19_0, A19_1⟩ := op48 he19
     refine fa fa48_3 rfl rfl rfl rfl rfl rfl ?_
     refine lc ce19 Try.underlying37 rfl rfl rfl rfl rfl rfl rfl rfl ?_
     refine pu rfl rfl rfl rfl rfl ?_
     refine cl rfl rfl rfl rfl rfl Try.func169 rfl rfl rfl (fun r22 m22 => laws_heldByteS.calls ((at_ a0 x2.2).T) (IntKind.wrap .i64 ((IntKind.wrap .i64 ((IntKind.wrap .i64 (x2.1 + (1 : Int))) + (1 : Int))) + (1 : Int))) s3.w (fun b => memb [0] (s3.g b) = true) v19_1 A19_1 r22 m22) ?_
     rintro r22 _ w22 m22 ⟨rfl, ky22⟩
     obtain ⟨s23, rfl, p23, n23⟩ := nwx s3 w22 40 ky22
     refine pu rfl rfl rfl rfl rfl ?_
     refine dn ?_
     refine sr ?_
     refine pu rfl rfl rfl rfl rfl ?_
     refine pu rfl rfl rfl rfl rfl ?_
     refine dn ?_
     refine cd rfl (fun h24 => ?_) (fun h24 => ?_)
     ·
      refine sr ?_
      refine pu rfl rfl rfl rfl rfl ?_
      refine dn ?_
      refine sgi ?_
      have K25 := (Kx2.st p23 rfl)
      exact re rfl Try.func106 rfl (r_t rfl r_nil) rfl ⟨_, rfl, rfl, z.ky K25⟩
     ·
      refine sk ?_
      refine ib ?_
      refine rg ?_
      refine pu rfl rfl rfl rfl rfl ?_
      refine pu rfl rfl rfl rfl rfl ?_
      refine pu rfl rfl rfl rfl rfl ?_
      refine dn ?_
      have K26 := (Kx2.st p23 rfl)
      exact lb ih2 ⟨s23, _, rfl, (ue (ue (ue rfl rfl) rfl) rfl), K26⟩
 ·
  refine xt rfl ?_
  refine sgb ?_
  refine sr ?_
  refine pu rfl rfl rfl rfl rfl ?_
  refine pu rfl rfl rfl rfl rfl ?_
  refine dn ?_
  exact re rfl Try.func106 rfl (r_t rfl r_nil) rfl ⟨_, rfl, rfl, z.ky Kx2⟩
noncomputable def laws_heldTrackS.b0 (a0 : (List Track)) (x2 : Int × Int) : Option ((Int × Int) ⊕ Int) :=
 (if (decide (x2.2 < (a0.length : Int))) = true then (if 0 ≤ x2.2 ∧ x2.2 < (a0.length : Int) then (if ((at_ a0 x2.2).Xid != x2.1) = true then (some (Sum.inr (-1 : Int))) else (if 0 ≤ x2.2 ∧ x2.2 < (a0.length : Int) then (if ((at_ a0 x2.2).Begun != (IntKind.wrap .i64 (x2.1 + (1 : Int)))) = true then (some (Sum.inr (-1 : Int))) else (if 0 ≤ x2.2 ∧ x2.2 < (a0.length : Int) then (if ((at_ a0 x2.2).Ended != (IntKind.wrap .i64 ((IntKind.wrap .i64 (x2.1 + (1 : Int))) + (1 : Int)))) = true then (some (Sum.inr (-1 : Int))) else (if 0 ≤ x2.2 ∧ x2.2 < (a0.length : Int) then (if (!(((at_ a0 x2.2).All) == (((IntKind.wrap .i64 ((IntKind.wrap .i64 ((IntKind.wrap .i64 (x2.1 + (1 : Int))) + (1 : Int))) + (1 : Int))).tmod (3 : Int)) == (0 : Int)))) = true then (some (Sum.inr (-1 : Int))) else (if 0 ≤ x2.2 ∧ x2.2 < (a0.length : Int) then ((laws_heldSpanS.f ((at_ a0 x2.2).Reads) (IntKind.wrap .i64 ((IntKind.wrap .i64 ((IntKind.wrap .i64 ((IntKind.wrap .i64 (x2.1 + (1 : Int))) + (1 : Int))) + (1 : Int))) + (1 : Int)))).bind fun r30 => (if (decide (r30 < (0 : Int))) = true then (some (Sum.inr (-1 : Int))) else (if 0 ≤ x2.2 ∧ x2.2 < (a0.length : Int) then ((laws_heldItemS.f ((at_ a0 x2.2).Writes) r30).bind fun r40 => (if (decide (r40 < (0 : Int))) = true then (some (Sum.inr (-1 : Int))) else (if 0 ≤ x2.2 ∧ x2.2 < (a0.length : Int) then (if (!(((at_ a0 x2.2).In) == ((r40.tmod (3 : Int)) == (0 : Int)))) = true then (some (Sum.inr (-1 : Int))) else (if 0 ≤ x2.2 ∧ x2.2 < (a0.length : Int) then (if (!(((at_ a0 x2.2).Out) == (((IntKind.wrap .i64 (r40 + (1 : Int))).tmod (3 : Int)) == (0 : Int)))) = true then (some (Sum.inr (-1 : Int))) else (some (Sum.inl ((IntKind.wrap .i64 ((IntKind.wrap .i64 (r40 + (1 : Int))) + (1 : Int))), (IntKind.wrap .i64 (x2.2 + (1 : Int))))))) else none)) else none))) else none))) else none)) else none)) else none)) else none)) else none) else ((some x2.1).bind fun o => some (Sum.inr o)))
noncomputable def laws_heldTrackS.f (a0 : (List Track)) (a1 : Int) : Option (Int) :=
 (iter (laws_heldTrackS.b0 a0) (a1, (0 : Int)))
def laws_heldTrackS.Q (w : World) (F : Nat → Prop) (r : Int) (v : Value) (w' : World) : Prop :=
 v = (.int .i64 r) ∧ Ky [] w w'
set_option maxHeartbeats 4000000 in
set_option maxRecDepth 100000 in
theorem laws_heldTrackS.calls (a0 : (List Track)) (a1 : Int) (w : World) (F : Nat → Prop) (w0_0 : Value) (h0_0 : (Kd.sl 59 kd59).rd w [w0_0] a0 F) (r : Int) (m : laws_heldTrackS.f a0 a1 = some r) :
  Calls Try.prog 39 #[w0_0, (.int .i64 a1)] w fun en w' => ∃ v, en = .returned v ∧ laws_heldTrackS.Q w F r v w' := by
 obtain ⟨s0, rfl, kp0, z⟩ := start0 w F
 have A0_0 := z.rd h0_0
 refine calls_of_TM (args := [w0_0, (.int .i64 a1)]) (R := fun r en w' => ∃ v, en = .returned v ∧ laws_heldTrackS.Q s0.w F r v w') Try.func39 Try.ntmps39 rfl rfl m ?_
 unfold laws_heldTrackS.f
 refine sr ?_
 refine pu rfl rfl rfl rfl rfl ?_
 refine dn ?_
 refine sq ?_
 refine sr ?_
 refine pu rfl rfl rfl rfl rfl ?_
 refine dn ?_
 refine bl ?_
 refine lpI (fun (x2 : Int × Int) (e : Env) (w : World) => ∃ (s : St) (e0 : Env), w = s.w ∧ e = upd (upd (upd e0 0 w0_0) 1 (.int .i64 x2.1)) 5 (.int .i64 x2.2) ∧ Kp s0 s) ⟨s0, _, rfl, (ue (ue (ue rfl rfl) rfl) rfl), kp0⟩ (fun g2 ih2 => ?_)
 rintro x2 _ _ ⟨s3, _, rfl, rfl, Kx2⟩
 unfold laws_heldTrackS.b0
 refine sq ?_
 refine sr ?_
 refine pu rfl rfl rfl rfl rfl ?_
 refine mv w0_0 rfl rfl rfl rfl rfl rfl ?_
 have A4 := (A0_0.kp Kx2)
 refine ln A4 Try.underlying62 rfl rfl rfl rfl rfl rfl ?_
 refine pu rfl rfl rfl rfl rfl ?_
 refine dn ?_
 refine cd rfl (fun h5 => ?_) (fun h5 => ?_)
 ·
  refine sk ?_
  refine sq ?_
  refine bl ?_
  refine sq ?_
  refine sr ?_
  refine mv w0_0 rfl rfl rfl rfl rfl rfl ?_
  refine pu rfl rfl rfl rfl rfl ?_
  refine ix A4 Try.underlying62 z59 rfl rfl rfl rfl rfl rfl rfl rfl (fun ad6 es6 h0_6 h1_6 he6 ce6 ia6 => ?_)
  obtain ⟨v6_0, v6_1, rfl, A6_0, A6_1⟩ := op59 he6
  refine fa fa59_0 rfl rfl rfl rfl rfl rfl ?_
  refine lc0 ce6 Try.underlying3 rfl rfl rfl rfl rfl rfl rfl rfl ?_
  refine pu rfl rfl rfl rfl rfl ?_
  refine pu rfl rfl rfl rfl rfl ?_
  refine dn ?_
  refine cd rfl (fun h10 => ?_) (fun h10 => ?_)
  ·
   refine sr ?_
   refine pu rfl rfl rfl rfl rfl ?_
   refine dn ?_
   refine sgi ?_
   exact re rfl Try.func39 rfl (r_t rfl r_nil) rfl ⟨_, rfl, rfl, z.ky Kx2⟩
  ·
   refine sk ?_
   refine sr ?_
   refine pu rfl rfl rfl rfl rfl ?_
   refine pu rfl rfl rfl rfl rfl ?_
   refine pu rfl rfl rfl rfl rfl ?_
   refine dn ?_
   refine sq ?_
   refine sr ?_
   refine mv w0_0 rfl rfl rfl rfl rfl rfl ?_
   refine pu rfl rfl rfl rfl rfl ?_
   refine ix A4 Try.underlying62 z59 rfl rfl rfl rfl rfl rfl rfl rfl (fun ad11 es11 h0_11 h1_11 he11 ce11 ia11 => ?_)
   obtain ⟨v11_0, v11_1, rfl, A11_0, A11_1⟩ := op59 he11
   refine fa fa59_1 rfl rfl rfl rfl rfl rfl ?_
   refine lc ce11 Try.underlying3 rfl rfl rfl rfl rfl rfl rfl rfl ?_
   refine pu rfl rfl rfl rfl rfl ?_
   refine pu rfl rfl rfl rfl rfl ?_
   refine dn ?_
   refine cd rfl (fun h15 => ?_) (fun h15 => ?_)
   ·
    refine sr ?_
    refine pu rfl rfl rfl rfl rfl ?_
    refine dn ?_
    refine sgi ?_
    exact re rfl Try.func39 rfl (r_t rfl r_nil) rfl ⟨_, rfl, rfl, z.ky Kx2⟩
   ·
    refine sk ?_
    refine sr ?_
    refine pu rfl rfl rfl rfl rfl ?_
    refine pu rfl rfl rfl rfl rfl ?_
    refine pu rfl rfl rfl rfl rfl ?_
    refine dn ?_
    refine sq ?_
    refine sr ?_
    refine mv w0_0 rfl rfl rfl rfl rfl rfl ?_
    refine pu rfl rfl rfl rfl rfl ?_
    refine ix A4 Try.underlying62 z59 rfl rfl rfl rfl rfl rfl rfl rfl (fun ad16 es16 h0_16 h1_16 he16 ce16 ia16 => ?_)
    obtain ⟨v16_0, v16_1, rfl, A16_0, A16_1⟩ := op59 he16
    refine fa fa59_2 rfl rfl rfl rfl rfl rfl ?_
    refine lc ce16 Try.underlying3 rfl rfl rfl rfl rfl rfl rfl rfl ?_
    refine pu rfl rfl rfl rfl rfl ?_
    refine pu rfl rfl rfl rfl rfl ?_
    refine dn ?_
    refine cd rfl (fun h20 => ?_) (fun h20 => ?_)
    ·
     refine sr ?_
     refine pu rfl rfl rfl rfl rfl ?_
     refine dn ?_
     refine sgi ?_
     exact re rfl Try.func39 rfl (r_t rfl r_nil) rfl ⟨_, rfl, rfl, z.ky Kx2⟩
    ·
     refine sk ?_
     refine sr ?_
     refine pu rfl rfl rfl rfl rfl ?_
     refine pu rfl rfl rfl rfl rfl ?_
     refine pu rfl rfl rfl rfl rfl ?_
     refine dn ?_
     refine sq ?_
     refine sr ?_
     refine mv w0_0 rfl rfl rfl rfl rfl rfl ?_
     refine pu rfl rfl rfl rfl rfl ?_
     refine ix A4 Try.underlying62 z59 rfl rfl rfl rfl rfl rfl rfl rfl (fun ad21 es21 h0_21 h1_21 he21 ce21 ia21 => ?_)
     obtain ⟨v21_0, v21_1, rfl, A21_0, A21_1⟩ := op59 he21
     refine fa fa59_3 rfl rfl rfl rfl rfl rfl ?_
     refine lc ce21 Try.underlying4 rfl rfl rfl rfl rfl rfl rfl rfl ?_
     refine pu rfl rfl rfl rfl rfl ?_
     refine remK rfl rfl rfl rfl rfl rfl rfl rfl ?_
     refine pu rfl rfl rfl rfl rfl ?_
     refine bne_ Try.underlying4 rfl rfl rfl rfl rfl rfl rfl ?_
     refine dn ?_
     refine cd rfl (fun h25 => ?_) (fun h25 => ?_)
     ·
      refine sr ?_
      refine pu rfl rfl rfl rfl rfl ?_
      refine dn ?_
      refine sgi ?_
      exact re rfl Try.func39 rfl (r_t rfl r_nil) rfl ⟨_, rfl, rfl, z.ky Kx2⟩
     ·
      refine sk ?_
      refine sr ?_
      refine pu rfl rfl rfl rfl rfl ?_
      refine pu rfl rfl rfl rfl rfl ?_
      refine pu rfl rfl rfl rfl rfl ?_
      refine dn ?_
      refine sr ?_
      refine mv w0_0 rfl rfl rfl rfl rfl rfl ?_
      refine pu rfl rfl rfl rfl rfl ?_
      refine ix A4 Try.underlying62 z59 rfl rfl rfl rfl rfl rfl rfl rfl (fun ad26 es26 h0_26 h1_26 he26 ce26 ia26 => ?_)
      obtain ⟨v26_0, v26_1, rfl, A26_0, A26_1⟩ := op59 he26
      refine fa fa59_4 rfl rfl rfl rfl rfl rfl ?_
      refine lc ce26 Try.underlying56 rfl rfl rfl rfl rfl rfl rfl rfl ?_
      refine pu rfl rfl rfl rfl rfl ?_
      refine cl rfl rfl rfl rfl rfl Try.func105 rfl rfl rfl (fun r30 m30 => laws_heldSpanS.calls ((at_ a0 x2.2).Reads) (IntKind.wrap .i64 ((IntKind.wrap .i64 ((IntKind.wrap .i64 ((IntKind.wrap .i64 (x2.1 + (1 : Int))) + (1 : Int))) + (1 : Int))) + (1 : Int))) s3.w (fun b => memb [0] (s3.g b) = true) v26_0 A26_0 r30 m30) ?_
      rintro r30 _ w30 m30 ⟨rfl, ky30⟩
      obtain ⟨s31, rfl, p31, n31⟩ := nwx s3 w30 40 ky30
      refine pu rfl rfl rfl rfl rfl ?_
      refine dn ?_
      refine sq ?_
      refine sr ?_
      refine pu rfl rfl rfl rfl rfl ?_
      refine pu rfl rfl rfl rfl rfl ?_
      refine dn ?_
      refine cd rfl (fun h32 => ?_) (fun h32 => ?_)
      ·
       refine sr ?_
       refine pu rfl rfl rfl rfl rfl ?_
       refine dn ?_
       refine sgi ?_
       have K33 := (Kx2.st p31 rfl)
       exact re rfl Try.func39 rfl (r_t rfl r_nil) rfl ⟨_, rfl, rfl, z.ky K33⟩
      ·
       refine sk ?_
       refine sr ?_
       refine mv w0_0 rfl rfl rfl rfl rfl rfl ?_
       refine pu rfl rfl rfl rfl rfl ?_
       have K34 := (Kx2.st p31 rfl)
       have A35 := (A0_0.kp K34)
       refine ix A35 Try.underlying62 z59 rfl rfl rfl rfl rfl rfl rfl rfl (fun ad36 es36 h0_36 h1_36 he36 ce36 ia36 => ?_)
       obtain ⟨v36_0, v36_1, rfl, A36_0, A36_1⟩ := op59 he36
       refine fa fa59_5 rfl rfl rfl rfl rfl rfl ?_
       refine lc ce36 Try.underlying57 rfl rfl rfl rfl rfl rfl rfl rfl ?_
       refine pu rfl rfl rfl rfl rfl ?_
       refine cl rfl rfl rfl rfl rfl Try.func106 rfl rfl rfl (fun r40 m40 => laws_heldItemS.calls ((at_ a0 x2.2).Writes) r30 s31.w (fun b => memb [0] (s31.g b) = true) v36_1 A36_1 r40 m40) ?_
       rintro r40 _ w40 m40 ⟨rfl, ky40⟩
       obtain ⟨s41, rfl, p41, n41⟩ := nwx s31 w40 41 ky40
       refine pu rfl rfl rfl rfl rfl ?_
       refine dn ?_
       refine sq ?_
       refine sr ?_
       refine pu rfl rfl rfl rfl rfl ?_
       refine pu rfl rfl rfl rfl rfl ?_
       refine dn ?_
       refine cd rfl (fun h42 => ?_) (fun h42 => ?_)
       ·
        refine sr ?_
        refine pu rfl rfl rfl rfl rfl ?_
        refine dn ?_
        refine sgi ?_
        have K43 := (K34.st p41 rfl)
        exact re rfl Try.func39 rfl (r_t rfl r_nil) rfl ⟨_, rfl, rfl, z.ky K43⟩
       ·
        refine sk ?_
        refine sq ?_
        refine sr ?_
        refine mv w0_0 rfl rfl rfl rfl rfl rfl ?_
        refine pu rfl rfl rfl rfl rfl ?_
        have K44 := (K34.st p41 rfl)
        have A45 := (A0_0.kp K44)
        refine ix A45 Try.underlying62 z59 rfl rfl rfl rfl rfl rfl rfl rfl (fun ad46 es46 h0_46 h1_46 he46 ce46 ia46 => ?_)
        obtain ⟨v46_0, v46_1, rfl, A46_0, A46_1⟩ := op59 he46
        refine fa fa59_6 rfl rfl rfl rfl rfl rfl ?_
        refine lc ce46 Try.underlying4 rfl rfl rfl rfl rfl rfl rfl rfl ?_
        refine pu rfl rfl rfl rfl rfl ?_
        refine remK rfl rfl rfl rfl rfl rfl rfl rfl ?_
        refine pu rfl rfl rfl rfl rfl ?_
        refine bne_ Try.underlying4 rfl rfl rfl rfl rfl rfl rfl ?_
        refine dn ?_
        refine cd rfl (fun h50 => ?_) (fun h50 => ?_)
        ·
         refine sr ?_
         refine pu rfl rfl rfl rfl rfl ?_
         refine dn ?_
         refine sgi ?_
         exact re rfl Try.func39 rfl (r_t rfl r_nil) rfl ⟨_, rfl, rfl, z.ky K44⟩
        ·
         refine sk ?_
         refine sr ?_
         refine pu rfl rfl rfl rfl rfl ?_
         refine pu rfl rfl rfl rfl rfl ?_
         refine pu rfl rfl rfl rfl rfl ?_
         refine dn ?_
         refine sq ?_
         refine sr ?_
         refine mv w0_0 rfl rfl rfl rfl rfl rfl ?_
         refine pu rfl rfl rfl rfl rfl ?_
         refine ix A45 Try.underlying62 z59 rfl rfl rfl rfl rfl rfl rfl rfl (fun ad51 es51 h0_51 h1_51 he51 ce51 ia51 => ?_)
         obtain ⟨v51_0, v51_1, rfl, A51_0, A51_1⟩ := op59 he51
         refine fa fa59_7 rfl rfl rfl rfl rfl rfl ?_
         refine lc ce51 Try.underlying4 rfl rfl rfl rfl rfl rfl rfl rfl ?_
         refine pu rfl rfl rfl rfl rfl ?_
         refine remK rfl rfl rfl rfl rfl rfl rfl rfl ?_
         refine pu rfl rfl rfl rfl rfl ?_
         refine bne_ Try.underlying4 rfl rfl rfl rfl rfl rfl rfl ?_
         refine dn ?_
         refine cd rfl (fun h55 => ?_) (fun h55 => ?_)
         ·
          refine sr ?_
          refine pu rfl rfl rfl rfl rfl ?_
          refine dn ?_
          refine sgi ?_
          exact re rfl Try.func39 rfl (r_t rfl r_nil) rfl ⟨_, rfl, rfl, z.ky K44⟩
         ·
          refine sk ?_
          refine rg ?_
          refine pu rfl rfl rfl rfl rfl ?_
          refine pu rfl rfl rfl rfl rfl ?_
          refine pu rfl rfl rfl rfl rfl ?_
          refine dn ?_
          refine ib ?_
          refine rg ?_
          refine pu rfl rfl rfl rfl rfl ?_
          refine pu rfl rfl rfl rfl rfl ?_
          refine pu rfl rfl rfl rfl rfl ?_
          refine dn ?_
          exact lb ih2 ⟨s41, _, rfl, (ue (ue (ue rfl rfl) rfl) rfl), K44⟩
 ·
  refine xt rfl ?_
  refine sgb ?_
  refine sr ?_
  refine pu rfl rfl rfl rfl rfl ?_
  refine pu rfl rfl rfl rfl rfl ?_
  refine dn ?_
  exact re rfl Try.func39 rfl (r_t rfl r_nil) rfl ⟨_, rfl, rfl, z.ky Kx2⟩
noncomputable def impl_EdgeRead_1.f (a0 : Track) (a1 : Span) : Option (Bool) :=
 ((slices_ContainsFunc_impl_Item_impl_Item.f a0.Writes (fun x0 => impl_Span_has.f a1 x0)).bind fun r13 => (some r13))
def impl_EdgeRead_1.Q (w : World) (F : Nat → Prop) (r : Bool) (v : Value) (w' : World) : Prop :=
 v = (.bool r) ∧ Ky [] w w'
set_option maxHeartbeats 4000000 in
set_option maxRecDepth 100000 in
theorem impl_EdgeRead_1.calls (a0 : Track) (a1 : Span) (w : World) (F : Nat → Prop) (w0_0 : Value) (w0_1 : Value) (c1 : Nat) (w1_0 : Value) (w1_1 : Value) (w1_2 : Value) (w1_3 : Value) (h0_0 : (Kd.sl 80 kd80).rd w [w0_0] a0.Reads F) (h0_1 : (Kd.sl 48 kd48).rd w [w0_1] a0.Writes F) (h1_0 : Kd.flt.rd w [w1_0] a1.From.F F) (h1_1 : (Kd.sl 5 (Kd.int .u8)).rd w [w1_1] a1.From.T F) (h1_2 : Kd.flt.rd w [w1_2] a1.To.F F) (h1_3 : (Kd.sl 5 (Kd.int .u8)).rd w [w1_3] a1.To.T F) (hb1 : BlW w c1 80 [(.int .i64 a1.From.Kind), (.int .i64 a1.From.N), w1_0, w1_1, (.int .i64 a1.To.Kind), (.int .i64 a1.To.N), w1_2, w1_3]) (hp1 : F c1) (r : Bool) (m : impl_EdgeRead_1.f a0 a1 = some r) :
  Calls Try.prog 114 #[(.agg #[(.int .i64 a0.Xid), (.int .i64 a0.Begun), (.int .i64 a0.Ended), (.bool a0.All), w0_0, w0_1, (.bool a0.In), (.bool a0.Out)]), (.pointer (some ⟨c1, 0, none⟩))] w fun en w' => ∃ v, en = .returned v ∧ impl_EdgeRead_1.Q w F r v w' := by
 obtain ⟨s0, rfl, kp0, z⟩ := start0 w F
 have A0_0 := z.rd h0_0
 have A0_1 := z.rd h0_1
 have B1 := z.b0 hb1 hp1
 have A1_0 := fl_of h1_0
 have A1_1 := z.rd h1_1
 have A1_2 := fl_of h1_2
 have A1_3 := z.rd h1_3
 refine calls_of_TM (args := [(.agg #[(.int .i64 a0.Xid), (.int .i64 a0.Begun), (.int .i64 a0.Ended), (.bool a0.All), w0_0, w0_1, (.bool a0.In), (.bool a0.Out)]), (.pointer (some ⟨c1, 0, none⟩))]) (R := fun r en w' => ∃ v, en = .returned v ∧ impl_EdgeRead_1.Q s0.w F r v w') Try.func114 Try.ntmps114 rfl rfl m ?_
 unfold impl_EdgeRead_1.f
 refine sr ?_
 refine bx (cs := [(.int .i64 a0.Xid), (.int .i64 a0.Begun), (.int .i64 a0.Ended), (.bool a0.All), w0_0, w0_1, (.bool a0.In), (.bool a0.Out)]) 40 rfl rfl rfl rfl rfl rfl (fun b6 s6 p6 B6 => ?_)
 refine pu rfl rfl rfl rfl rfl ?_
 refine dn ?_
 refine sr ?_
 refine fa fa59_5 rfl rfl rfl rfl rfl rfl ?_
 refine ld B6 Try.underlying57 rfl rfl rfl rfl rfl rfl rfl rfl ?_
 have A8 := (BlF.st B1 p6 rfl)
 refine lda (es := [(.int .i64 a1.From.Kind), (.int .i64 a1.From.N), w1_0, w1_1, (.int .i64 a1.To.Kind), (.int .i64 a1.To.N), w1_2, w1_3]) A8 Try.underlying80 z80 rfl rfl rfl rfl rfl rfl rfl rfl ?_
 refine mkf (fs := [(.agg #[(.int .i64 a1.From.Kind), (.int .i64 a1.From.N), w1_0, w1_1, (.int .i64 a1.To.Kind), (.int .i64 a1.To.N), w1_2, w1_3])]) (cs := []) rfl rfl rfl rfl rfl rfl rfl ?_
 have K9 := (kp0.st p6 rfl)
 have A10 := (A0_1.kp K9)
 have A11 := (A1_1.kp K9)
 have A12 := (A1_3.kp K9)
 refine cl rfl rfl rfl rfl rfl Try.func115 rfl rfl rfl (fun r13 m13 => slices_ContainsFunc_impl_Item_impl_Item.calls a0.Writes (fun x0 => impl_Span_has.f a1 x0) s6.w (fun b => memb [0] (s6.g b) = true) w0_1 (.func (.func 116) (List.toArray [(.agg #[(.int .i64 a1.From.Kind), (.int .i64 a1.From.N), w1_0, w1_1, (.int .i64 a1.To.Kind), (.int .i64 a1.To.N), w1_2, w1_3])]) (List.toArray [])) A10 (fun x0 u0_0 u0_1 w' k h0 h1 r m =>  ⟨116, _, _, [(.agg #[(.int .i64 a1.From.Kind), (.int .i64 a1.From.N), w1_0, w1_1, (.int .i64 a1.To.Kind), (.int .i64 a1.To.N), w1_2, w1_3])], [], rfl, Try.func116, rfl, rfl, (impl_Span_has.calls a1 x0 w' (fun _ => True) w1_0 w1_1 w1_2 w1_3 u0_0 u0_1 (fl_rd A1_0) (RdF.ky A11 k) (fl_rd A1_2) (RdF.ky A12 k) h0 h1 r m).mono fun en w2 hq => by obtain ⟨v, e, q⟩ := hq; exact ⟨v, e, q⟩⟩) rfl r13 m13) ?_
 rintro r13 _ w13 m13 ⟨rfl, ky13⟩
 obtain ⟨s14, rfl, p14, n14⟩ := nwx s6 w13 41 ky13
 refine pu rfl rfl rfl rfl rfl ?_
 refine dn ?_
 have K15 := (K9.st p14 rfl)
 exact re rfl Try.func114 rfl (r_t rfl r_nil) rfl ⟨_, rfl, rfl, z.ky K15⟩
noncomputable def impl_Track_reads.f (a0 : (List Track)) (i0 : Int) (a1 : Span) : Option ((List Track)) :=
 (if (at_ a0 i0).All = true then (some a0) else (if ((((at_ a0 i0).Reads).length : Int) == (6 : Int)) = true then ((some (a0.set (i0).toNat (Track.mk (at_ a0 i0).Xid (at_ a0 i0).Begun (at_ a0 i0).Ended true (at_ a0 i0).Reads (at_ a0 i0).Writes (at_ a0 i0).In (at_ a0 i0).Out))).bind fun y24 => ((some (y24.set (i0).toNat (Track.mk (at_ y24 i0).Xid (at_ y24 i0).Begun (at_ y24 i0).Ended (at_ y24 i0).All ([] : (List Span)) (at_ y24 i0).Writes (at_ y24 i0).In (at_ y24 i0).Out))).bind fun y33 => (some y33))) else ((impl_Item_own.f a1.From).bind fun r57 => ((impl_Item_own.f a1.To).bind fun r66 => (if ((at_ a0 i0).Reads).length + ([(Span.mk r57 r66)]).length ≤ Lim then ((some (a0.set (i0).toNat (Track.mk (at_ a0 i0).Xid (at_ a0 i0).Begun (at_ a0 i0).Ended (at_ a0 i0).All ((at_ a0 i0).Reads ++ [(Span.mk r57 r66)]) (at_ a0 i0).Writes (at_ a0 i0).In (at_ a0 i0).Out))).bind fun y96 => (some y96)) else none)))))
def impl_Track_reads.Q (w : World) (F : Nat → Prop) (os : List Nat) (w0_0 : Value) (r : (List Track)) (v : Value) (w' : World) : Prop :=
 v = .tuple #[] ∧ FW (Kd.sl 59 kd59) os w w' [w0_0] r ∧ Ky os w w'
set_option maxHeartbeats 4000000 in
set_option maxRecDepth 100000 in
theorem impl_Track_reads.calls (a0 : (List Track)) (i0 : Int) (a1 : Span) (w : World) (F : Nat → Prop) (w0_0 : Value) (ad0 : Addr) (w1_0 : Value) (w1_1 : Value) (w1_2 : Value) (w1_3 : Value) (h1_0 : Kd.flt.rd w [w1_0] a1.From.F F) (h1_1 : (Kd.sl 5 (Kd.int .u8)).rd w [w1_1] a1.From.T F) (h1_2 : Kd.flt.rd w [w1_2] a1.To.F F) (h1_3 : (Kd.sl 5 (Kd.int .u8)).rd w [w1_3] a1.To.T F) (os : List Nat) (h0_0 : (Kd.sl 59 kd59).ow w [w0_0] a0 os) (hn : os.Nodup) (hF : ∀ b, F b → b ∉ os) (x0 : IxA w0_0 kd59.n i0 ad0) (g0 : 0 ≤ i0) (l0 : i0 < (a0.length : Int)) (r : (List Track)) (m : impl_Track_reads.f a0 i0 a1 = some r) :
  Calls Try.prog 112 #[(.pointer (some ad0)), (.agg #[(.int .i64 a1.From.Kind), (.int .i64 a1.From.N), w1_0, w1_1, (.int .i64 a1.To.Kind), (.int .i64 a1.To.N), w1_2, w1_3])] w fun en w' => ∃ v, en = .returned v ∧ impl_Track_reads.Q w F os w0_0 r v w' := by
 obtain ⟨s0, rfl, kp0, z⟩ := startN w F [(os, 40)] (by simpa [fl_] using hn) (fun b hb => by simpa [fl_] using hF b hb) rfl
 have ez : fl_ [(os, 40)] = os := by simp [fl_]
 have A0_0 := z.ow (c := 40) (by simp) hn h0_0
 have A1_0 := fl_of h1_0
 have A1_1 := z.rd h1_1
 have A1_2 := fl_of h1_2
 have A1_3 := z.rd h1_3
 refine calls_of_TM (args := [(.pointer (some ad0)), (.agg #[(.int .i64 a1.From.Kind), (.int .i64 a1.From.N), w1_0, w1_1, (.int .i64 a1.To.Kind), (.int .i64 a1.To.N), w1_2, w1_3])]) (R := fun r en w' => ∃ v, en = .returned v ∧ impl_Track_reads.Q s0.w F os w0_0 r v w') Try.func112 Try.ntmps112 rfl rfl m ?_
 unfold impl_Track_reads.f
 refine sr ?_
 refine bx (cs := [(.int .i64 a1.From.Kind), (.int .i64 a1.From.N), w1_0, w1_1, (.int .i64 a1.To.Kind), (.int .i64 a1.To.N), w1_2, w1_3]) 41 rfl rfl rfl rfl rfl rfl (fun b4 s4 p4 B4 => ?_)
 refine dn ?_
 refine bl ?_
 refine sr ?_
 refine pu rfl rfl rfl rfl rfl ?_
 refine pu rfl rfl rfl rfl rfl ?_
 refine fa fa59_3 rfl rfl rfl rfl rfl rfl ?_
 have A6 := (A0_0.st p4 rfl)
 have h1_7 : i0 < (a0.length : Int) := by simpa using l0
 obtain ⟨es7, he7, ce7⟩ := ix_re A6.rd rfl g0 h1_7 x0
 have h0_7 := g0
 have ia7 := x0
 obtain ⟨v7_0, v7_1, rfl, A7_0, A7_1⟩ := op59 he7
 refine lc ce7 Try.underlying4 rfl rfl rfl rfl rfl rfl rfl rfl ?_
 refine pu rfl rfl rfl rfl rfl ?_
 refine dn ?_
 refine cd rfl (fun h11 => ?_) (fun h11 => ?_)
 ·
  refine sk ?_
  refine ib ?_
  have K12 := (kp0.st p4 rfl)
  exact reE rfl Try.func112 rfl r_nil rfl ⟨_, rfl, rfl, z.fw' ez K12 (oc_ow A6) rfl, z.ky' ez K12⟩
 ·
  refine sr ?_
  refine pu rfl rfl rfl rfl rfl ?_
  refine pu rfl rfl rfl rfl rfl ?_
  refine fa fa59_4 rfl rfl rfl rfl rfl rfl ?_
  have h1_13 : i0 < (a0.length : Int) := by simpa using l0
  obtain ⟨es13, he13, ce13⟩ := ix_re A6.rd rfl g0 h1_13 x0
  have h0_13 := g0
  have ia13 := x0
  obtain ⟨v13_0, v13_1, rfl, A13_0, A13_1⟩ := op59 he13
  refine lc ce13 Try.underlying56 rfl rfl rfl rfl rfl rfl rfl rfl ?_
  refine ln A13_0 Try.underlying56 rfl rfl rfl rfl rfl rfl ?_
  refine pu rfl rfl rfl rfl rfl ?_
  refine pu rfl rfl rfl rfl rfl ?_
  refine dn ?_
  refine cd rfl (fun h17 => ?_) (fun h17 => ?_)
  ·
   refine rg ?_
   refine pu rfl rfl rfl rfl rfl ?_
   refine pu rfl rfl rfl rfl rfl ?_
   refine pu rfl rfl rfl rfl rfl ?_
   refine fa fa59_3 rfl rfl rfl rfl rfl rfl ?_
   have h1_18 : i0 < (a0.length : Int) := by simpa using l0
   obtain ⟨es18, he18, ce18⟩ := ix_re A6.rd rfl g0 h1_18 x0
   have h0_18 := g0
   have ia18 := x0
   obtain ⟨v18_0, v18_1, rfl, A18_0, A18_1⟩ := op59 he18
   refine so (x' := (Track.mk (at_ a0 i0).Xid (at_ a0 i0).Begun (at_ a0 i0).Ended true (at_ a0 i0).Reads (at_ a0 i0).Writes (at_ a0 i0).In (at_ a0 i0).Out)) A6 x0 g0 h1_18 (cs_iso (cs_right (cs_right (cs_right (cs_left cs_flat))))) z4 rfl rfl rfl rfl rfl rfl (fun s22 p22 A22 => ?_)
   refine nb (fun y24 h24 => ?_)
   have A24 : OwF (Kd.sl 59 kd59) s22 [w0_0] y24 40 := by rw [h24]; exact A22
   refine pu rfl rfl rfl rfl rfl ?_
   refine fa fa59_4 rfl rfl rfl rfl rfl rfl ?_
   have h1_25 : i0 < (y24.length : Int) := by simpa [h24] using l0
   obtain ⟨es25, he25, ce25⟩ := ix_re A24.rd rfl g0 h1_25 x0
   have h0_25 := g0
   have ia25 := x0
   obtain ⟨v25_0, v25_1, rfl, A25_0, A25_1⟩ := op59 he25
   have A29 : OwF (Kd.sl 80 kd80) s22 [(.slice none 0 0)] ([] : (List Span)) 42 := ow_z _ _ (fz_nil 80 kd80)
   refine sog (x' := ([] : (List Span))) (lg_iso (fun x : Track => (x.Xid, x.Begun, x.Ended, x.All, x.Reads, x.Writes, x.In, x.Out)) (fun x => x.Reads) (fun x y => (Track.mk x.Xid x.Begun x.Ended x.All y x.Writes x.In x.Out)) (lg_right (lg_right (lg_right (lg_right (lg_left lg_id))))) (fun _ => rfl) (fun _ _ => rfl)) A24 x0 g0 h1_25 A29 rfl rfl z56 rfl rfl rfl rfl rfl rfl (fun s31 p31 A31 => ?_)
   refine nb (fun y33 h33 => ?_)
   have A33 : OwF (Kd.sl 59 kd59) s31 [w0_0] y33 40 := by rw [h33]; exact A31
   refine dn ?_
   refine ib ?_
   have K34 := (((kp0.st p4 rfl).st p22 rfl).st p31 rfl)
   exact reE rfl Try.func112 rfl r_nil rfl ⟨_, rfl, rfl, z.fw' ez K34 (oc_ow A33) rfl, z.ky' ez K34⟩
  ·
   refine zdraw [[], [], [1], [2], [3], [], [5], [6], [], [8], [9, 7], [7, 10], [11], [4, 12, 10], [0, 0, 1, 2, 3, 4, 5, 6, 7, 8, 9, 10, 11, 12, 13], [14, 0, 1, 2, 3, 4, 5, 6, 7, 8, 9, 10, 11, 12, 13], [15, 13, 13, 0, 1, 2, 3, 4, 5, 6, 7, 8, 9, 10, 11, 12, 13]] [some 4, some 5, some 6, some 7, some 8, some 9, some 10, some 11, some 12, some 13, some 14, some 15, some 16, some 17, some 18, some 19, none] [[0], [0], [5], [6], [7], [3], [9], [10], [3], [12], [13], [11, 14], [15], [8, 16], [4], [18], [19, 17]] [0, 1, 2, 3, 4, 5, 6, 7, 8, 9, 10, 11, 12, 13, 14, 15, 16] ⟨by kernel_rfl, by kernel_rfl, by kernel_rfl⟩ (by kernel_rfl) (fun s35 p35 l35 tb35 zd35 => ?_)
   have zd36 := zd35.add 0 4 (.pointer (some ad0)) rfl
   have zd37 := zd36.add 1 5 (.pointer (some ad0)) rfl
   have zd38 := zd37.add 2 6 (.pointer (some ad0)) rfl
   have zd39 := zd38.add 3 7 (.pointer (some (ad0.add 4))) rfl
   have A40 := (A6.st p35 rfl)
   have h1_41 : i0 < (a0.length : Int) := by simpa using l0
   obtain ⟨es41, he41, ce41⟩ := ix_re A40.rd rfl g0 h1_41 x0
   have h0_41 := g0
   have ia41 := x0
   obtain ⟨v41_0, v41_1, rfl, A41_0, A41_1⟩ := op59 he41
   have zd45 := zd39.add 4 8 v41_0 rfl
   have zd46 := zd45.add 5 9 (.pointer (some ⟨b4, 0, none⟩)) rfl
   have A47 := (BlF.st B4 p35 rfl)
   have zd48 := zd46.add 6 10 (.agg #[(.int .i64 a1.From.Kind), (.int .i64 a1.From.N), w1_0, w1_1]) rfl
   have zd49 := zd48.add 8 12 (.pointer (some ⟨b4, 4, none⟩)) rfl
   have A50 := (BlF.st B4 p35 rfl)
   have zd51 := zd49.add 9 13 (.agg #[(.int .i64 a1.To.Kind), (.int .i64 a1.To.N), w1_2, w1_3]) rfl
   have A53 := (BlF.st B4 p35 rfl)
   have A54 := (BlF.st B4 p35 rfl)
   refine zstep 7 [some 13, some 12, some 8, some 7, some 6, some 5, some 4] tb35 zd51 (pq_cons (lda_q (es := [(.int .i64 a1.To.Kind), (.int .i64 a1.To.N), w1_2, w1_3]) A54 Try.underlying48 z48 rfl rfl rfl rfl rfl rfl rfl rfl) rfl (pq_cons (fa_q fa80_1 rfl rfl rfl rfl rfl rfl) rfl (pq_cons (lda_q (es := [(.int .i64 a1.From.Kind), (.int .i64 a1.From.N), w1_0, w1_1]) A53 Try.underlying48 z48 rfl rfl rfl rfl rfl rfl rfl rfl) rfl (pq_cons (fa_q fa80_0 rfl rfl rfl rfl rfl rfl) rfl (pq_cons (lc_q ce41 Try.underlying56 rfl rfl rfl rfl rfl rfl rfl rfl) rfl (pq_cons (fa_q fa59_4 rfl rfl rfl rfl rfl rfl) rfl (pq_cons (pu_q rfl rfl rfl rfl rfl rfl) rfl (pq_cons (pu_q rfl rfl rfl rfl rfl rfl) rfl (pq_cons (pu_q rfl rfl rfl rfl rfl rfl) rfl pq_nil))))))))) (by kernel_rfl) rfl (fun l52 e52 zd52 => ?_)
   have K55 := ((kp0.st p4 rfl).st p35 rfl)
   have A56 := (A1_1.kp K55)
   refine cl rfl rfl rfl rfl rfl Try.func171 rfl rfl rfl (fun r57 m57 => impl_Item_own.calls a1.From s35.w (fun b => memb [0] (s35.g b) = true) w1_0 w1_1 ((fl_rdf (s := s35) A1_0).sub (D := [0]) rfl) A56 r57 m57) ?_
   rintro r57 _ w57 m57 ⟨v57_0, v57_1, rfl, f57_0, ky57⟩
   obtain ⟨s58, rfl, p58, n58⟩ := nwx s35 w57 43 ky57
   have A57_0 := f57_0.c n58
   obtain ⟨os57_0, ho57_0, hn57_0, hc57_0⟩ := A57_0
   obtain ⟨u57_0_0, u57_0_1, qu57_0_1, e57_0, eo57_0, hu57_0_0, hu57_0_1⟩ := po48 ho57_0
   have yu57_0_0 : v57_0 = u57_0_0 := congrArg (fun l => (List.drop 2 l).headD undef) e57_0
   have yu57_0_1 : v57_1 = u57_0_1 := congrArg (fun l => (List.drop 3 l).headD undef) e57_0
   subst yu57_0_0
   subst yu57_0_1
   subst eo57_0
   have Au57_0_1 : OwF (Kd.sl 5 (Kd.int .u8)) s58 [v57_1] r57.T 43 := sp1 hu57_0_1 hn57_0 hc57_0
   refine zdone (L' := [9, 8, 4, 3, 2, 1, 0]) (D' := [5, 6, 7]) zd52 rfl rfl rfl (fun zd60 => ?_)
   have ce62 := (ce41.st p58 rfl rfl)
   have A63 := (BlF.st (BlF.st B4 p35 rfl) p58 rfl)
   refine zstep 10 [some 8, some 7, some 6, some 5, some 4] tb35 zd60 (pq_cons (lda_q (es := [(.int .i64 a1.To.Kind), (.int .i64 a1.To.N), w1_2, w1_3]) A63 Try.underlying48 z48 rfl rfl rfl rfl rfl rfl rfl rfl) rfl (pq_cons (fa_q fa80_1 rfl rfl rfl rfl rfl rfl) rfl (pq_cons (lc_q ce62 Try.underlying56 rfl rfl rfl rfl rfl rfl rfl rfl) rfl (pq_cons (fa_q fa59_4 rfl rfl rfl rfl rfl rfl) rfl (pq_cons (pu_q rfl rfl rfl rfl rfl rfl) rfl (pq_cons (pu_q rfl rfl rfl rfl rfl rfl) rfl (pq_cons (pu_q rfl rfl rfl rfl rfl rfl) rfl pq_nil))))))) (by kernel_rfl) rfl (fun l61 e61 zd61 => ?_)
   have K64 := (K55.st p58 rfl)
   have A65 := (A1_3.kp K64)
   refine cl rfl rfl rfl rfl rfl Try.func171 rfl rfl rfl (fun r66 m66 => impl_Item_own.calls a1.To s58.w (fun b => memb [0] (s58.g b) = true) w1_2 w1_3 ((fl_rdf (s := s58) A1_2).sub (D := [0]) rfl) A65 r66 m66) ?_
   rintro r66 _ w66 m66 ⟨v66_0, v66_1, rfl, f66_0, ky66⟩
   obtain ⟨s67, rfl, p67, n67⟩ := nwx s58 w66 44 ky66
   have A66_0 := f66_0.c n67
   obtain ⟨os66_0, ho66_0, hn66_0, hc66_0⟩ := A66_0
   obtain ⟨u66_0_0, u66_0_1, qu66_0_1, e66_0, eo66_0, hu66_0_0, hu66_0_1⟩ := po48 ho66_0
   have yu66_0_0 : v66_0 = u66_0_0 := congrArg (fun l => (List.drop 2 l).headD undef) e66_0
   have yu66_0_1 : v66_1 = u66_0_1 := congrArg (fun l => (List.drop 3 l).headD undef) e66_0
   subst yu66_0_0
   subst yu66_0_1
   subst eo66_0
   have Au66_0_1 : OwF (Kd.sl 5 (Kd.int .u8)) s67 [v66_1] r66.T 44 := sp1 hu66_0_1 hn66_0 hc66_0
   refine zdone (L' := [4, 3, 2, 1, 0]) (D' := [8, 9, 10, 5, 6, 7]) zd61 rfl rfl rfl (fun zd69 => ?_)
   have zd70 := zd69.add 11 15 (.agg #[(.int .i64 r57.Kind), (.int .i64 r57.N), v57_0, v57_1, (.int .i64 r66.Kind), (.int .i64 r66.N), v66_0, v66_1]) rfl
   have ce72 := ((ce41.st p58 rfl rfl).st p67 rfl rfl)
   refine zstep 12 [some 8, some 7, some 6, some 5, some 4] tb35 zd70 (pq_cons (bd_q (cells := [(.int .i64 r57.Kind), (.int .i64 r57.N), v57_0, v57_1, (.int .i64 r66.Kind), (.int .i64 r66.N), v66_0, v66_1]) pl80 o80 rfl rfl rfl rfl rfl rfl) rfl (pq_cons (lc_q ce72 Try.underlying56 rfl rfl rfl rfl rfl rfl rfl rfl) rfl (pq_cons (fa_q fa59_4 rfl rfl rfl rfl rfl rfl) rfl (pq_cons (pu_q rfl rfl rfl rfl rfl rfl) rfl (pq_cons (pu_q rfl rfl rfl rfl rfl rfl) rfl (pq_cons (pu_q rfl rfl rfl rfl rfl rfl) rfl pq_nil)))))) (by kernel_rfl) rfl (fun l71 e71 zd71 => ?_)
   have A73 := (Au57_0_1.st p67 rfl)
   obtain ⟨s74, hw74, p74, A74⟩ := ow_2 (ow_isoz (fun x : Item => (x.Kind, x.N, x.F, x.T)) r57 (ow_l (fz_int .i64 r57.Kind) (ow_l (fz_int .i64 r57.N) (ow_l (fz_flt hu57_0_0) A73)))) (ow_isoz (fun x : Item => (x.Kind, x.N, x.F, x.T)) r66 (ow_l (fz_int .i64 r66.Kind) (ow_l (fz_int .i64 r66.N) (ow_l (fz_flt hu66_0_0) Au66_0_1)))) rfl rfl
   rw [hw74]
   have A76 : OwF kd80 s74 [(.int .i64 r57.Kind), (.int .i64 r57.N), v57_0, v57_1, (.int .i64 r66.Kind), (.int .i64 r66.N), v66_0, v66_1] (Span.mk r57 r66) 43 := (ow_isoz (fun x : Span => (x.From, x.To)) (Span.mk r57 r66) A74)
   have L78 := lo_one A76
   refine ltO (K := kd80) (cells := [(.int .i64 r57.Kind), (.int .i64 r57.N), v57_0, v57_1, (.int .i64 r66.Kind), (.int .i64 r66.N), v66_0, v66_1]) [(Span.mk r57 r66)] 43 Try.underlying56 z80 o80 L78 rfl rfl rfl rfl rfl rfl rfl rfl rfl rfl (fun v79 s79 p79 A79 => ?_)
   refine zdone (L' := [4, 3, 2, 1, 0]) (D' := [11, 12, 8, 9, 10, 5, 6, 7]) zd71 rfl rfl rfl (fun zd81 => ?_)
   have ce83 := ((((ce41.st p58 rfl rfl).st p67 rfl rfl).st p74 rfl rfl).st p79 rfl rfl)
   refine zstep 13 [some 4] tb35 zd81 (pq_cons (lc_q ce83 Try.underlying56 rfl rfl rfl rfl rfl rfl rfl rfl) rfl (pq_cons (fa_q fa59_4 rfl rfl rfl rfl rfl rfl) rfl (pq_cons (pu_q rfl rfl rfl rfl rfl rfl) rfl (pq_cons (pu_q rfl rfl rfl rfl rfl rfl) rfl (pq_cons (pu_q rfl rfl rfl rfl rfl rfl) rfl pq_nil))))) (by kernel_rfl) rfl (fun l82 e82 zd82 => ?_)
   have A84 := ((((A40.st p58 rfl).st p67 rfl).st p74 rfl).st p79 rfl)
   have ce85 := ((((ce41.st p58 rfl rfl).st p67 rfl rfl).st p74 rfl rfl).st p79 rfl rfl)
   obtain ⟨s86, hw86, p86, A86, H86, ce86⟩ := take_ 46 (lg_iso (fun x : Track => (x.Xid, x.Begun, x.Ended, x.All, x.Reads, x.Writes, x.In, x.Out)) (fun x => x.Reads) (fun x y => (Track.mk x.Xid x.Begun x.Ended x.All y x.Writes x.In x.Out)) (lg_right (lg_right (lg_right (lg_right (lg_left lg_id))))) (fun _ => rfl) (fun _ _ => rfl)) A84 h0_41 h1_41 ia41 ce85 rfl rfl rfl rfl
   rw [hw86]
   have A89 := (A79.st p86 rfl)
   refine apO sl56 A86 A89 rfl rfl rfl rfl rfl rfl rfl rfl rfl (fun v90 s90 p90 A90 => ?_)
   refine zdone (L' := [0]) (D' := [1, 2, 3, 4, 13, 11, 12, 8, 9, 10, 5, 6, 7]) zd82 rfl rfl rfl (fun zd92 => ?_)
   refine zfin [14, 15, 16] tb35 zd92 (pq_cons (pu_q rfl rfl rfl rfl rfl rfl) rfl pq_nil) (by kernel_rfl) (by decide) ?_
   refine pu rfl rfl rfl rfl rfl ?_
   refine fa fa59_4 rfl rfl rfl rfl rfl rfl ?_
   have A93 := (H86.st p90 rfl)
   refine soh (x' := ((at_ a0 i0).Reads ++ [(Span.mk r57 r66)])) A93 x0 A90 rfl rfl z56 rfl rfl rfl rfl rfl (oc A90.rd.one) (fun s94 p94 A94 => ?_)
   refine nb (fun y96 h96 => ?_)
   have A96 : OwF (Kd.sl 59 kd59) s94 [w0_0] y96 40 := by rw [h96]; exact A94
   refine dn ?_
   refine ib ?_
   have K97 := ((((((K64.st p67 rfl).st p74 rfl).st p79 rfl).st p86 rfl).st p90 rfl).st p94 rfl)
   exact reE rfl Try.func112 rfl r_nil rfl ⟨_, rfl, rfl, z.fw' ez K97 (oc_ow A96) rfl, z.ky' ez K97⟩
noncomputable def impl_meet.b0 (a0 : (List Track)) (a1 : Int) (a2 : (Track → Option Bool)) (a3 : ((List Track) → Int → Int → Option (List Track))) (x2 : (List Track) × Bool × Int) : Option (((List Track) × Bool × Int) ⊕ (Int × (List Track))) :=
 (if (decide (x2.2.2 < (a0.length : Int))) = true then (((if (x2.2.2 == a1) = true then (some true) else (if 0 ≤ x2.2.2 ∧ x2.2.2 < (x2.1.length : Int) then (if 0 ≤ a1 ∧ a1 < (x2.1.length : Int) then ((impl_Concurrent.f (at_ x2.1 x2.2.2) (at_ x2.1 a1)).bind fun r50 => ((if (!r50) = true then (some (true, true)) else (if 0 ≤ x2.2.2 ∧ x2.2.2 < (x2.1.length : Int) then ((a2 (at_ x2.1 x2.2.2)).bind fun r79 => (some (false, (!r79)))) else none)).bind fun y56 => (some y56.2))) else none) else none)).bind fun y12 => (if y12 = true then (some (x2.1, x2.2.1)) else (if 0 ≤ a1 ∧ a1 < (x2.1.length : Int) then (if 0 ≤ x2.2.2 ∧ x2.2.2 < (x2.1.length : Int) then ((a3 x2.1 a1 x2.2.2).bind fun r108 => ((if x2.2.1 = true then (some true) else (if 0 ≤ x2.2.2 ∧ x2.2.2 < (r108.length : Int) then ((if (at_ r108 x2.2.2).In = true then (if 0 ≤ x2.2.2 ∧ x2.2.2 < (r108.length : Int) then (some (true, (at_ r108 x2.2.2).Out)) else none) else (some (false, false))).bind fun y117 => ((if y117.2 = true then (if 0 ≤ x2.2.2 ∧ x2.2.2 < (r108.length : Int) then ((impl_Track_isActive.f (at_ r108 x2.2.2)).bind fun r130 => (some (true, (!r130)))) else none) else (some (false, false))).bind fun y125 => (some y125.2))) else none)).bind fun y111 => (some (r108, y111)))) else none) else none))).bind fun y6 => (some (Sum.inl (y6.1, y6.2, (IntKind.wrap .i64 (x2.2.2 + (1 : Int))))))) else (((if x2.2.1 = true then (some true) else (if 0 ≤ a1 ∧ a1 < (x2.1.length : Int) then ((if (at_ x2.1 a1).In = true then (if 0 ≤ a1 ∧ a1 < (x2.1.length : Int) then (some ((at_ x2.1 a1).Out)) else none) else (some false)).bind fun y143 => (some y143)) else none)).bind fun y138 => (if y138 = true then (some ((2 : Int), x2.1)) else (some ((0 : Int), x2.1)))).bind fun o => some (Sum.inr o)))
noncomputable def impl_meet.f (a0 : (List Track)) (a1 : Int) (a2 : (Track → Option Bool)) (a3 : ((List Track) → Int → Int → Option (List Track))) : Option (Int × (List Track)) :=
 (iter (impl_meet.b0 a0 a1 a2 a3) (a0, false, (0 : Int)))
def impl_meet.Q (w : World) (F : Nat → Prop) (os : List Nat) (w0_0 : Value) (r : Int × (List Track)) (v : Value) (w' : World) : Prop :=
 v = (.int .i64 r.1) ∧ FW (Kd.sl 59 kd59) os w w' [w0_0] r.2 ∧ Ky os w w'
set_option maxHeartbeats 4000000 in
set_option maxRecDepth 100000 in
theorem impl_meet.calls (a0 : (List Track)) (a1 : Int) (a2 : (Track → Option Bool)) (a3 : ((List Track) → Int → Int → Option (List Track))) (w : World) (F : Nat → Prop) (w0_0 : Value) (f2 : Value) (f3 : Value) (os : List Nat) (h0_0 : (Kd.sl 59 kd59).ow w [w0_0] a0 os) (hn : os.Nodup) (hF : ∀ b, F b → b ∉ os) (hf2 : ∀ (x0 : Track) (u0_0 u0_1 : Value) (w' : World), Ky os w w' → (Kd.sl 80 kd80).rd w' [u0_0] x0.Reads (fun _ => True) → (Kd.sl 48 kd48).rd w' [u0_1] x0.Writes (fun _ => True) → ∀ r, a2 x0 = some r → CallV Try.prog f2 [(.agg #[(.int .i64 x0.Xid), (.int .i64 x0.Begun), (.int .i64 x0.Ended), (.bool x0.All), u0_0, u0_1, (.bool x0.In), (.bool x0.Out)])] w' fun en w'' => ∃ v, en = .returned v ∧ v = (.bool r) ∧ Ky [] w' w'') (ho2 : f2.cells = #[f2]) (hf3 : ∀ (l : List Track) (x0 x1 : Int) (u : Value) (d0 d1 : Addr) (os1 : List Nat) (w' : World), Ky os w w' → (Kd.sl 59 kd59).ow w' [u] l os1 → os1.Nodup → IxA u kd59.n x0 d0 → 0 ≤ x0 → x0 < (l.length : Int) → IxA u kd59.n x1 d1 → 0 ≤ x1 → x1 < (l.length : Int) → ∀ r, a3 l x0 x1 = some r → CallV Try.prog f3 [.pointer (some d0), .pointer (some d1)] w' fun en w'' => ∃ v, en = .returned v ∧ v = .tuple #[] ∧ FW (Kd.sl 59 kd59) os1 w' w'' [u] r ∧ Ky os1 w' w'') (ho3 : f3.cells = #[f3]) (r : Int × (List Track)) (m : impl_meet.f a0 a1 a2 a3 = some r) :
  Calls Try.prog 113 #[w0_0, (.int .i64 a1), f2, f3] w fun en w' => ∃ v, en = .returned v ∧ impl_meet.Q w F os w0_0 r v w' := by
 obtain ⟨s0, rfl, kp0, z⟩ := start1 w F os hF
 have A0_0 := z.ow h0_0 hn
 refine calls_of_TM (args := [w0_0, (.int .i64 a1), f2, f3]) (R := fun r en w' => ∃ v, en = .returned v ∧ impl_meet.Q s0.w F os w0_0 r v w') Try.func113 Try.ntmps113 rfl rfl m ?_
 unfold impl_meet.f
 refine sr ?_
 refine pu rfl rfl rfl rfl rfl ?_
 refine dn ?_
 refine sr ?_
 refine pu rfl rfl rfl rfl rfl ?_
 refine dn ?_
 refine sq ?_
 refine sr ?_
 refine mv w0_0 rfl rfl rfl rfl rfl rfl ?_
 refine ln A0_0.rd Try.underlying62 rfl rfl rfl rfl rfl rfl ?_
 refine pu rfl rfl rfl rfl rfl ?_
 refine dn ?_
 refine bl ?_
 refine lpI (fun (x2 : (List Track) × Bool × Int) (e : Env) (w : World) => ∃ (s : St) (e0 : Env), w = s.w ∧ e = upd (upd (upd (upd (upd (upd (upd e0 0 w0_0) 1 (.int .i64 a1)) 2 f2) 3 f3) 9 (.bool x2.2.1)) 12 (.int .i64 (a0.length : Int))) 13 (.int .i64 x2.2.2) ∧ Kp s0 s ∧ OwF (Kd.sl 59 kd59) s [w0_0] x2.1 2) ⟨s0, _, rfl, (ue (ue (ue (ue (ue (ue (ue rfl rfl) rfl) rfl) rfl) rfl) rfl) rfl), kp0, A0_0⟩ (fun g2 ih2 => ?_)
 rintro x2 _ _ ⟨s3, _, rfl, rfl, Kx2, Ax2_0⟩
 unfold impl_meet.b0
 refine sr ?_
 refine pu rfl rfl rfl rfl rfl ?_
 refine dn ?_
 refine sq ?_
 refine cd rfl (fun h5 => ?_) (fun h5 => ?_)
 ·
  refine sk ?_
  refine sq ?_
  refine jc (fun (y6 : (List Track) × Bool) (e : Env) (w : World) => ∃ (s : St) (e0 : Env), w = s.w ∧ e = upd (upd (upd (upd (upd (upd (upd e0 0 w0_0) 1 (.int .i64 a1)) 2 f2) 3 f3) 9 (.bool y6.2)) 12 (.int .i64 (a0.length : Int))) 13 (.int .i64 x2.2.2) ∧ Kp s0 s ∧ OwF (Kd.sl 59 kd59) s [w0_0] y6.1 2) (fun Gj6 Kj6 => ?_) ?_
  ·
   refine bl ?_
   refine sr ?_
   refine pu rfl rfl rfl rfl rfl ?_
   refine pu rfl rfl rfl rfl rfl ?_
   refine dn ?_
   refine sq ?_
   refine sq ?_
   refine zdraw [[], [], [0, 1], [2], [3], [3], [4, 5, 3], [6, 3], [3], [3], [8, 9, 3], [10, 3], [7, 11, 3, 3], [12, 3], [3, 13], [14, 12], [15], [15], [15], [17, 18, 15], [19, 15], [16, 20, 15, 15], [21, 15], [15, 22]] [some 16, some 17, some 18, some 19, some 20, some 21, some 22, some 23, some 24, some 25, some 26, some 27, some 28, some 29, some 30, some 31, some 32, some 33, some 34, some 35, some 36, some 37, some 38, some 39] [[10], [1], [16, 17], [18], [0, 19], [10, 19], [20, 21, 19], [22, 19], [0, 19], [1, 19], [24, 25, 19], [26, 19], [23, 27, 19], [28, 19], [19, 29], [30], [2, 31], [0, 31], [10, 31], [33, 34, 31], [35, 31], [32, 36, 31], [37, 31], [31, 38]] [0, 1, 2, 3, 4, 5, 6, 7, 8, 9, 10, 11, 12, 13, 14, 15, 16, 17, 18, 19, 20, 21, 22, 23] ⟨by kernel_rfl, by kernel_rfl, by kernel_rfl⟩ (by kernel_rfl) (fun s7 p7 l7 tb7 zd7 => ?_)
   have zd8 := zd7.add 0 16 (.int .i64 x2.2.2) rfl
   have zd9 := zd8.add 1 17 (.int .i64 a1) rfl
   have zd10 := zd9.add 2 18 (.bool (x2.2.2 == a1)) rfl
   have zd11 := zd10.add 3 19 (.bool (x2.2.2 == a1)) rfl
   refine ji [] (fun (y12 : Bool) (e : Env) (w : World) => ∃ (s : St) (e0 : Env), w = s.w ∧ e = upd (upd (upd (upd (upd (upd (upd (upd (upd e0 0 w0_0) 1 (.int .i64 a1)) 2 f2) 3 f3) 9 (.bool x2.2.1)) 10 (.int .i64 x2.2.2)) 12 (.int .i64 (a0.length : Int))) 13 (.int .i64 x2.2.2)) 39 (.bool y12) ∧ Kp s0 s ∧ OwF (Kd.sl 59 kd59) s [w0_0] x2.1 2) (fun Gj12 Kj12 => ?_) ?_
   ·
    rcases Bool.eq_false_or_eq_true (x2.2.2 == a1) with hb12 | hb12
    ·
     rw [if_pos hb12]
     rw [hb12] at zd11
     try rw [hb12]
     have zd13 := zd11.add 4 20 undef rfl
     have zd14 := zd13.add 5 21 undef rfl
     have zd15 := zd14.add 6 22 undef rfl
     have zd16 := zd15.add 7 23 undef rfl
     have zd17 := zd16.add 8 24 undef rfl
     have zd18 := zd17.add 9 25 undef rfl
     have zd19 := zd18.add 10 26 undef rfl
     have zd20 := zd19.add 11 27 undef rfl
     have zd21 := zd20.add 12 28 undef rfl
     have zd22 := zd21.add 13 29 undef rfl
     have zd23 := zd22.add 14 30 (.bool true) rfl
     have zd24 := zd23.add 15 31 (.bool true) rfl
     have zd25 := zd24.add 16 32 undef rfl
     have zd26 := zd25.add 17 33 undef rfl
     have zd27 := zd26.add 18 34 undef rfl
     have zd28 := zd27.add 19 35 undef rfl
     have zd29 := zd28.add 20 36 undef rfl
     refine zfin [21, 22, 23] tb7 zd29 (pq_cons (uw_q rfl rfl rfl rfl rfl) rfl (pq_cons (uw_q rfl rfl rfl rfl rfl) rfl (pq_cons (uw_q rfl rfl rfl rfl rfl) rfl (pq_cons (uw_q rfl rfl rfl rfl rfl) rfl (pq_cons (uw_q rfl rfl rfl rfl rfl) rfl (pq_cons (pu_q rfl rfl rfl rfl rfl rfl) rfl (pq_cons (pu_q rfl rfl rfl rfl rfl rfl) rfl (pq_cons (uw_q rfl rfl rfl rfl rfl) rfl (pq_cons (uw_q rfl rfl rfl rfl rfl) rfl (pq_cons (uw_q rfl rfl rfl rfl rfl) rfl (pq_cons (uw_q rfl rfl rfl rfl rfl) rfl (pq_cons (uw_q rfl rfl rfl rfl rfl) rfl (pq_cons (uw_q rfl rfl rfl rfl rfl) rfl (pq_cons (uw_q rfl rfl rfl rfl rfl) rfl (pq_cons (uw_q rfl rfl rfl rfl rfl) rfl (pq_cons (uw_q rfl rfl rfl rfl rfl) rfl (pq_cons (uw_q rfl rfl rfl rfl rfl) rfl (pq_cons (pu_q rfl rfl rfl rfl rfl rfl) rfl (pq_cons (qv_b (pu_q rfl rfl rfl rfl rfl rfl) hb12) rfl (pq_cons (pu_q rfl rfl rfl rfl rfl rfl) rfl (pq_cons (pu_q rfl rfl rfl rfl rfl rfl) rfl pq_nil))))))))))))))))))))) (by kernel_rfl) (by decide) ?_
     refine uw rfl rfl rfl rfl ?_
     refine uw rfl rfl rfl rfl ?_
     refine pu rfl rfl rfl rfl rfl ?_
     have A30 := (Ax2_0.st p7 rfl)
     have K31 := (Kx2.st p7 rfl)
     exact Kj12 _ _ _ ⟨s7, _, rfl, (ue (ue (ue (ue (ue (ue (ue (ue (ue rfl rfl) rfl) rfl) rfl) rfl) rfl) rfl) rfl) rfl), K31, A30⟩
    ·
     rw [if_neg (by rw [hb12]; decide)]
     rw [hb12] at zd11
     try rw [hb12]
     have zd32 := zd11.add 4 20 w0_0 rfl
     have zd33 := zd32.add 5 21 (.int .i64 x2.2.2) rfl
     have A34 := (Ax2_0.st p7 rfl)
     refine mg fun hg35 => ?_
     obtain ⟨ad35, es35, he35, ce35, ia35⟩ := ix_e A34.rd rfl hg35.1 hg35.2
     have h0_35 := hg35.1
     have h1_35 := hg35.2
     obtain ⟨v35_0, v35_1, rfl, A35_0, A35_1⟩ := op59 he35
     have zd39 := zd33.add 6 22 (.pointer (some ad35)) rfl
     have zd40 := zd39.add 7 23 (.agg #[(.int .i64 ((at_ x2.1 x2.2.2).Xid)), (.int .i64 ((at_ x2.1 x2.2.2).Begun)), (.int .i64 ((at_ x2.1 x2.2.2).Ended)), (.bool ((at_ x2.1 x2.2.2).All)), v35_0, v35_1, (.bool ((at_ x2.1 x2.2.2).In)), (.bool ((at_ x2.1 x2.2.2).Out))]) rfl
     have zd41 := zd40.add 8 24 w0_0 rfl
     have zd42 := zd41.add 9 25 (.int .i64 a1) rfl
     refine mg fun hg43 => ?_
     obtain ⟨ad43, es43, he43, ce43, ia43⟩ := ix_e A34.rd rfl hg43.1 hg43.2
     have h0_43 := hg43.1
     have h1_43 := hg43.2
     obtain ⟨v43_0, v43_1, rfl, A43_0, A43_1⟩ := op59 he43
     have zd47 := zd42.add 10 26 (.pointer (some ad43)) rfl
     have zd48 := zd47.add 11 27 (.agg #[(.int .i64 ((at_ x2.1 a1).Xid)), (.int .i64 ((at_ x2.1 a1).Begun)), (.int .i64 ((at_ x2.1 a1).Ended)), (.bool ((at_ x2.1 a1).All)), v43_0, v43_1, (.bool ((at_ x2.1 a1).In)), (.bool ((at_ x2.1 a1).Out))]) rfl
     refine zstep 12 [] tb7 zd48 (pq_cons (lca_q ce43 Try.underlying59 z59 rfl rfl rfl rfl rfl rfl rfl) rfl (pq_cons (ix_q A34.rd Try.underlying62 z59 hg43.1 hg43.2 ia43 rfl rfl rfl rfl rfl rfl rfl) rfl (pq_cons (pu_q rfl rfl rfl rfl rfl rfl) rfl (pq_cons (mv_q w0_0 rfl rfl rfl rfl rfl rfl) rfl (pq_cons (lca_q ce35 Try.underlying59 z59 rfl rfl rfl rfl rfl rfl rfl) rfl (pq_cons (ix_q A34.rd Try.underlying62 z59 hg35.1 hg35.2 ia35 rfl rfl rfl rfl rfl rfl rfl) rfl (pq_cons (pu_q rfl rfl rfl rfl rfl rfl) rfl (pq_cons (mv_q w0_0 rfl rfl rfl rfl rfl rfl) rfl (pq_cons (pu_q rfl rfl rfl rfl rfl rfl) rfl (pq_cons (qv_b (pu_q rfl rfl rfl rfl rfl rfl) hb12) rfl (pq_cons (pu_q rfl rfl rfl rfl rfl rfl) rfl (pq_cons (pu_q rfl rfl rfl rfl rfl rfl) rfl pq_nil)))))))))))) (by kernel_rfl) rfl (fun l49 e49 zd49 => ?_)
     refine cl rfl rfl rfl rfl rfl Try.func31 rfl rfl rfl (fun r50 m50 => impl_Concurrent.calls (at_ x2.1 x2.2.2) (at_ x2.1 a1) s7.w (fun b => memb [2] (s7.g b) = true) v35_0 v35_1 v43_0 v43_1 A35_0 A35_1 A43_0 A43_1 r50 m50) ?_
     rintro r50 _ w50 m50 ⟨rfl, ky50⟩
     obtain ⟨s51, rfl, p51, n51⟩ := nwx s7 w50 40 ky50
     refine zdone (L' := []) (D' := [0, 1, 2, 4, 5, 6, 8, 9, 10, 7, 11, 3, 3, 12]) zd49 rfl rfl rfl (fun zd52 => ?_)
     have zd53 := zd52.add 13 29 (.bool (!r50)) rfl
     have zd54 := zd53.add 14 30 (.bool (!r50)) rfl
     have zd55 := zd54.add 15 31 (.bool (!r50)) rfl
     refine ji [] (fun (y56 : Bool × Bool) (e : Env) (w : World) => ∃ (s : St) (e0 : Env), w = s.w ∧ e = upd (upd (upd (upd (upd (upd (upd (upd (upd (upd (upd (upd (upd (upd (upd (upd (upd e0 0 w0_0) 1 (.int .i64 a1)) 2 f2) 3 f3) 9 (.bool x2.2.1)) 10 (.int .i64 x2.2.2)) 12 (.int .i64 (a0.length : Int))) 13 (.int .i64 x2.2.2)) 20 w0_0) 21 (.int .i64 x2.2.2)) 23 (.agg #[(.int .i64 ((at_ x2.1 x2.2.2).Xid)), (.int .i64 ((at_ x2.1 x2.2.2).Begun)), (.int .i64 ((at_ x2.1 x2.2.2).Ended)), (.bool ((at_ x2.1 x2.2.2).All)), v35_0, v35_1, (.bool ((at_ x2.1 x2.2.2).In)), (.bool ((at_ x2.1 x2.2.2).Out))])) 24 w0_0) 25 (.int .i64 a1)) 27 (.agg #[(.int .i64 ((at_ x2.1 a1).Xid)), (.int .i64 ((at_ x2.1 a1).Begun)), (.int .i64 ((at_ x2.1 a1).Ended)), (.bool ((at_ x2.1 a1).All)), v43_0, v43_1, (.bool ((at_ x2.1 a1).In)), (.bool ((at_ x2.1 a1).Out))])) 28 (.bool r50)) 29 (.bool y56.1)) 39 (.bool y56.2) ∧ Kp s0 s ∧ OwF (Kd.sl 59 kd59) s [w0_0] x2.1 2 ∧ RdF (Kd.sl 80 kd80) s [v35_0] ((at_ x2.1 x2.2.2).Reads) [2] ∧ RdF (Kd.sl 48 kd48) s [v35_1] ((at_ x2.1 x2.2.2).Writes) [2] ∧ RdF (Kd.sl 80 kd80) s [v43_0] ((at_ x2.1 a1).Reads) [2] ∧ RdF (Kd.sl 48 kd48) s [v43_1] ((at_ x2.1 a1).Writes) [2]) (fun Gj56 Kj56 => ?_) ?_
     ·
      rcases Bool.eq_false_or_eq_true (!r50) with hb56 | hb56
      ·
       rw [if_pos hb56]
       rw [hb56] at zd55
       try rw [hb56]
       have zd57 := zd55.add 16 32 undef rfl
       have zd58 := zd57.add 17 33 undef rfl
       have zd59 := zd58.add 18 34 undef rfl
       have zd60 := zd59.add 19 35 undef rfl
       have zd61 := zd60.add 20 36 undef rfl
       refine zfin [21, 22, 23] tb7 zd61 (pq_cons (uw_q rfl rfl rfl rfl rfl) rfl (pq_cons (uw_q rfl rfl rfl rfl rfl) rfl (pq_cons (uw_q rfl rfl rfl rfl rfl) rfl (pq_cons (uw_q rfl rfl rfl rfl rfl) rfl (pq_cons (uw_q rfl rfl rfl rfl rfl) rfl (pq_cons (pu_q rfl rfl rfl rfl rfl rfl) rfl (pq_cons (pu_q rfl rfl rfl rfl rfl rfl) rfl (pq_cons (qv_b (pu_q rfl rfl rfl rfl rfl rfl) hb56) rfl pq_nil)))))))) (by kernel_rfl) (by decide) ?_
       refine uw rfl rfl rfl rfl ?_
       refine uw rfl rfl rfl rfl ?_
       refine pu rfl rfl rfl rfl rfl ?_
       have A62 := (A34.st p51 rfl)
       have A63 := (A35_0.st p51 rfl)
       have A64 := (A35_1.st p51 rfl)
       have A65 := (A43_0.st p51 rfl)
       have A66 := (A43_1.st p51 rfl)
       have K67 := ((Kx2.st p7 rfl).st p51 rfl)
       exact Kj56 _ _ _ ⟨s51, _, rfl, (ue (ue (ue (ue (ue (ue (ue (ue (ue (ue (ue (ue (ue (ue (ue (ue (ue rfl rfl) rfl) rfl) rfl) rfl) rfl) rfl) rfl) rfl) rfl) rfl) rfl) rfl) rfl) rfl) rfl) rfl), K67, A62, A63, A64, A65, A66⟩
      ·
       rw [if_neg (by rw [hb56]; decide)]
       rw [hb56] at zd55
       try rw [hb56]
       have zd68 := zd55.add 16 32 f2 rfl
       have zd69 := zd68.add 17 33 w0_0 rfl
       have zd70 := zd69.add 18 34 (.int .i64 x2.2.2) rfl
       have A71 := (A34.st p51 rfl)
       refine mg fun hg72 => ?_
       obtain ⟨ad72, es72, he72, ce72, ia72⟩ := ix_e A71.rd rfl hg72.1 hg72.2
       have h0_72 := hg72.1
       have h1_72 := hg72.2
       obtain ⟨v72_0, v72_1, rfl, A72_0, A72_1⟩ := op59 he72
       have zd76 := zd70.add 19 35 (.pointer (some ad72)) rfl
       have zd77 := zd76.add 20 36 (.agg #[(.int .i64 ((at_ x2.1 x2.2.2).Xid)), (.int .i64 ((at_ x2.1 x2.2.2).Begun)), (.int .i64 ((at_ x2.1 x2.2.2).Ended)), (.bool ((at_ x2.1 x2.2.2).All)), v72_0, v72_1, (.bool ((at_ x2.1 x2.2.2).In)), (.bool ((at_ x2.1 x2.2.2).Out))]) rfl
       refine zfin [21, 22, 23] tb7 zd77 (pq_cons (lca_q ce72 Try.underlying59 z59 rfl rfl rfl rfl rfl rfl rfl) rfl (pq_cons (ix_q A71.rd Try.underlying62 z59 hg72.1 hg72.2 ia72 rfl rfl rfl rfl rfl rfl rfl) rfl (pq_cons (pu_q rfl rfl rfl rfl rfl rfl) rfl (pq_cons (mv_q w0_0 rfl rfl rfl rfl rfl rfl) rfl (pq_cons (mv_q f2 rfl rfl rfl rfl rfl rfl) rfl (pq_cons (pu_q rfl rfl rfl rfl rfl rfl) rfl (pq_cons (pu_q rfl rfl rfl rfl rfl rfl) rfl (pq_cons (qv_b (pu_q rfl rfl rfl rfl rfl rfl) hb56) rfl pq_nil)))))))) (by kernel_rfl) (by decide) ?_
       have K78 := ((Kx2.st p7 rfl).st p51 rfl)
       refine clv rfl rfl rfl rfl rfl rfl rfl (fun r79 m79 => hf2 (at_ x2.1 x2.2.2) v72_0 v72_1 s51.w (z.ky K78) (RdF.top A72_0) (RdF.top A72_1) r79 m79) ?_
       rintro r79 _ w79 m79 ⟨rfl, ky79⟩
       obtain ⟨s80, rfl, p80, n80⟩ := nwx s51 w79 41 ky79
       refine pu rfl rfl rfl rfl rfl ?_
       refine pu rfl rfl rfl rfl rfl ?_
       have A81 := (A71.st p80 rfl)
       have A82 := ((A35_0.st p51 rfl).st p80 rfl)
       have A83 := ((A35_1.st p51 rfl).st p80 rfl)
       have A84 := ((A43_0.st p51 rfl).st p80 rfl)
       have A85 := ((A43_1.st p51 rfl).st p80 rfl)
       have K86 := (K78.st p80 rfl)
       exact Kj56 _ _ _ ⟨s80, _, rfl, (ue (ue (ue (ue (ue (ue (ue (ue (ue (ue (ue (ue (ue (ue (ue (ue (ue rfl rfl) rfl) rfl) rfl) rfl) rfl) rfl) rfl) rfl) rfl) rfl) rfl) rfl) rfl) rfl) rfl) rfl), K86, A81, A82, A83, A84, A85⟩
     rintro y56 _ _ ⟨s87, _, rfl, rfl, Ky56, Cy56_4, Cy56_36, Cy56_37, Cy56_44, Cy56_45⟩
     exact Kj12 _ _ _ ⟨s87, _, rfl, (ue (ue (ue (ue (ue (ue (ue (ue (ue rfl rfl) rfl) rfl) rfl) rfl) rfl) rfl) rfl) rfl), Ky56, Cy56_4⟩
   rintro y12 _ _ ⟨s88, _, rfl, rfl, Ky12, Cy12_4⟩
   refine dn ?_
   refine cd rfl (fun h89 => ?_) (fun h89 => ?_)
   ·
    refine xt rfl ?_
    exact Kj6 _ _ _ ⟨s88, _, rfl, (ue (ue (ue (ue (ue (ue (ue rfl rfl) rfl) rfl) rfl) rfl) rfl) rfl), Ky12, Cy12_4⟩
   ·
    refine sk ?_
    refine sq ?_
    refine zdraw [[], [], [], [1, 2], [], [], [4, 5], [0, 3, 6]] [some 40, some 41, some 42, some 43, some 44, some 45, some 46, some 47] [[3], [0], [1], [41, 42], [0], [10], [44, 45], [40, 43, 46]] [0, 1, 2, 3, 4, 5, 6, 7] ⟨by kernel_rfl, by kernel_rfl, by kernel_rfl⟩ (by kernel_rfl) (fun s90 p90 l90 tb90 zd90 => ?_)
    have zd91 := zd90.add 0 40 f3 rfl
    have zd92 := zd91.add 1 41 w0_0 rfl
    have zd93 := zd92.add 2 42 (.int .i64 a1) rfl
    have A94 := (Cy12_4.st p90 rfl)
    refine mg fun hg95 => ?_
    obtain ⟨ad95, es95, he95, ce95, ia95⟩ := ix_e A94.rd rfl hg95.1 hg95.2
    have h0_95 := hg95.1
    have h1_95 := hg95.2
    obtain ⟨v95_0, v95_1, rfl, A95_0, A95_1⟩ := op59 he95
    have zd99 := zd93.add 3 43 (.pointer (some ad95)) rfl
    have zd100 := zd99.add 4 44 w0_0 rfl
    have zd101 := zd100.add 5 45 (.int .i64 x2.2.2) rfl
    refine mg fun hg102 => ?_
    obtain ⟨ad102, es102, he102, ce102, ia102⟩ := ix_e A94.rd rfl hg102.1 hg102.2
    have h0_102 := hg102.1
    have h1_102 := hg102.2
    obtain ⟨v102_0, v102_1, rfl, A102_0, A102_1⟩ := op59 he102
    have zd106 := zd101.add 6 46 (.pointer (some ad102)) rfl
    refine zfin [7] tb90 zd106 (pq_cons (ix_q A94.rd Try.underlying62 z59 hg102.1 hg102.2 ia102 rfl rfl rfl rfl rfl rfl rfl) rfl (pq_cons (pu_q rfl rfl rfl rfl rfl rfl) rfl (pq_cons (mv_q w0_0 rfl rfl rfl rfl rfl rfl) rfl (pq_cons (ix_q A94.rd Try.underlying62 z59 hg95.1 hg95.2 ia95 rfl rfl rfl rfl rfl rfl rfl) rfl (pq_cons (pu_q rfl rfl rfl rfl rfl rfl) rfl (pq_cons (mv_q w0_0 rfl rfl rfl rfl rfl rfl) rfl (pq_cons (mv_q f3 rfl rfl rfl rfl rfl rfl) rfl pq_nil))))))) (by kernel_rfl) (by decide) ?_
    have K107 := (Ky12.st p90 rfl)
    obtain ⟨os108, ho108, hn108, hc108⟩ := A94
    refine clv rfl rfl rfl rfl rfl rfl rfl (fun r108 m108 => hf3 x2.1 a1 x2.2.2 w0_0 ad95 ad102 os108 s90.w (z.ky K107) ho108 hn108 ia95 h0_95 h1_95 ia102 h0_102 h1_102 r108 m108) ?_
    rintro r108 _ w108 m108 ⟨rfl, w108_, ky108⟩
    obtain ⟨s109, rfl, p109, A109⟩ := nwo 42 hc108 ky108 w108_
    refine dn ?_
    refine rg ?_
    refine pu rfl rfl rfl rfl rfl ?_
    refine pu rfl rfl rfl rfl rfl ?_
    refine ji [23] (fun (y111 : Bool) (e : Env) (w : World) => ∃ (s : St) (e0 : Env), w = s.w ∧ e = upd (upd (upd (upd (upd (upd (upd e0 0 w0_0) 1 (.int .i64 a1)) 2 f2) 3 f3) 12 (.int .i64 (a0.length : Int))) 13 (.int .i64 x2.2.2)) 70 (.bool y111) ∧ Kp s0 s ∧ OwF (Kd.sl 59 kd59) s [w0_0] r108 2) (fun Gj111 Kj111 => ?_) ?_
    ·
     rcases Bool.eq_false_or_eq_true x2.2.1 with hb111 | hb111
     ·
      refine sbT hb111 ?_
      rw [if_pos hb111]
      refine uw rfl rfl rfl rfl ?_
      refine uw rfl rfl rfl rfl ?_
      refine uw rfl rfl rfl rfl ?_
      refine uw rfl rfl rfl rfl ?_
      refine uw rfl rfl rfl rfl ?_
      refine uw rfl rfl rfl rfl ?_
      refine uw rfl rfl rfl rfl ?_
      refine uw rfl rfl rfl rfl ?_
      refine uw rfl rfl rfl rfl ?_
      refine uw rfl rfl rfl rfl ?_
      refine uw rfl rfl rfl rfl ?_
      refine uw rfl rfl rfl rfl ?_
      refine uw rfl rfl rfl rfl ?_
      refine uw rfl rfl rfl rfl ?_
      refine uw rfl rfl rfl rfl ?_
      refine uw rfl rfl rfl rfl ?_
      refine uw rfl rfl rfl rfl ?_
      refine uw rfl rfl rfl rfl ?_
      refine uw rfl rfl rfl rfl ?_
      refine uw rfl rfl rfl rfl ?_
      refine pu rfl rfl rfl rfl rfl ?_
      have K112 := (K107.st p109 rfl)
      exact Kj111 _ _ _ ⟨s109, _, rfl, (ue (ue (ue (ue (ue (ue (ue rfl rfl) rfl) rfl) rfl) rfl) rfl) rfl), K112, A109⟩
     ·
      refine sbT hb111 ?_
      rw [if_neg (by rw [hb111]; decide)]
      refine mv w0_0 rfl rfl rfl rfl rfl rfl ?_
      refine pu rfl rfl rfl rfl rfl ?_
      refine ix A109.rd Try.underlying62 z59 rfl rfl rfl rfl rfl rfl rfl rfl (fun ad113 es113 h0_113 h1_113 he113 ce113 ia113 => ?_)
      obtain ⟨v113_0, v113_1, rfl, A113_0, A113_1⟩ := op59 he113
      refine fa fa59_6 rfl rfl rfl rfl rfl rfl ?_
      refine lc ce113 Try.underlying4 rfl rfl rfl rfl rfl rfl rfl rfl ?_
      refine pu rfl rfl rfl rfl rfl ?_
      refine ji [14, 15, 16, 17, 18, 19, 20, 21, 22, 23] (fun (y117 : Bool × Bool) (e : Env) (w : World) => ∃ (s : St) (e0 : Env), w = s.w ∧ e = upd (upd (upd (upd (upd (upd (upd (upd (upd (upd (upd (upd (upd e0 0 w0_0) 1 (.int .i64 a1)) 2 f2) 3 f3) 10 (.int .i64 x2.2.2)) 12 (.int .i64 (a0.length : Int))) 13 (.int .i64 x2.2.2)) 49 (.bool false)) 50 w0_0) 51 (.int .i64 x2.2.2)) 54 (.bool ((at_ r108 x2.2.2).In))) 55 (.bool y117.1)) 61 (.bool y117.2) ∧ Kp s0 s ∧ OwF (Kd.sl 59 kd59) s [w0_0] r108 2) (fun Gj117 Kj117 => ?_) ?_
      ·
       rcases Bool.eq_false_or_eq_true ((at_ r108 x2.2.2).In) with hb117 | hb117
       ·
        refine sbT hb117 ?_
        rw [if_pos hb117]
        refine mv w0_0 rfl rfl rfl rfl rfl rfl ?_
        refine pu rfl rfl rfl rfl rfl ?_
        refine ix A109.rd Try.underlying62 z59 rfl rfl rfl rfl rfl rfl rfl rfl (fun ad118 es118 h0_118 h1_118 he118 ce118 ia118 => ?_)
        obtain ⟨v118_0, v118_1, rfl, A118_0, A118_1⟩ := op59 he118
        refine fa fa59_7 rfl rfl rfl rfl rfl rfl ?_
        refine lc ce118 Try.underlying4 rfl rfl rfl rfl rfl rfl rfl rfl ?_
        refine pu rfl rfl rfl rfl rfl ?_
        have K122 := (K107.st p109 rfl)
        exact Kj117 _ _ _ ⟨s109, _, rfl, (ue (ue (ue (ue (ue (ue (ue (ue (ue (ue (ue (ue (ue rfl rfl) rfl) rfl) rfl) rfl) rfl) rfl) rfl) rfl) rfl) rfl) rfl) rfl), K122, A109⟩
       ·
        refine sbT hb117 ?_
        rw [if_neg (by rw [hb117]; decide)]
        refine uw rfl rfl rfl rfl ?_
        refine uw rfl rfl rfl rfl ?_
        refine uw rfl rfl rfl rfl ?_
        refine uw rfl rfl rfl rfl ?_
        refine uw rfl rfl rfl rfl ?_
        refine pu rfl rfl rfl rfl rfl ?_
        have K123 := (K107.st p109 rfl)
        exact Kj117 _ _ _ ⟨s109, _, rfl, (ue (ue (ue (ue (ue (ue (ue (ue (ue (ue (ue (ue (ue rfl rfl) rfl) rfl) rfl) rfl) rfl) rfl) rfl) rfl) rfl) rfl) rfl) rfl), K123, A109⟩
      rintro y117 _ _ ⟨s124, _, rfl, rfl, Ky117, Cy117_110⟩
      refine pu rfl rfl rfl rfl rfl ?_
      refine ji [22, 23] (fun (y125 : Bool × Bool) (e : Env) (w : World) => ∃ (s : St) (e0 : Env), w = s.w ∧ e = upd (upd (upd (upd (upd (upd (upd (upd (upd (upd (upd (upd (upd (upd e0 0 w0_0) 1 (.int .i64 a1)) 2 f2) 3 f3) 12 (.int .i64 (a0.length : Int))) 13 (.int .i64 x2.2.2)) 49 (.bool false)) 50 w0_0) 51 (.int .i64 x2.2.2)) 54 (.bool ((at_ r108 x2.2.2).In))) 55 (.bool y117.1)) 61 (.bool y117.2)) 62 (.bool y125.1)) 69 (.bool y125.2) ∧ Kp s0 s ∧ OwF (Kd.sl 59 kd59) s [w0_0] r108 2) (fun Gj125 Kj125 => ?_) ?_
      ·
       rcases Bool.eq_false_or_eq_true y117.2 with hb125 | hb125
       ·
        refine sbT hb125 ?_
        rw [if_pos hb125]
        refine mv w0_0 rfl rfl rfl rfl rfl rfl ?_
        refine pu rfl rfl rfl rfl rfl ?_
        refine ix Cy117_110.rd Try.underlying62 z59 rfl rfl rfl rfl rfl rfl rfl rfl (fun ad126 es126 h0_126 h1_126 he126 ce126 ia126 => ?_)
        obtain ⟨v126_0, v126_1, rfl, A126_0, A126_1⟩ := op59 he126
        refine lca ce126 Try.underlying59 z59 rfl rfl rfl rfl rfl rfl rfl ?_
        refine cl rfl rfl rfl rfl rfl Try.func90 rfl rfl rfl (fun r130 m130 => impl_Track_isActive.calls (at_ r108 x2.2.2) s124.w (fun b => memb [2] (s124.g b) = true) v126_0 v126_1 A126_0 A126_1 r130 m130) ?_
        rintro r130 _ w130 m130 ⟨rfl, ky130⟩
        obtain ⟨s131, rfl, p131, n131⟩ := nwx s124 w130 43 ky130
        refine pu rfl rfl rfl rfl rfl ?_
        refine pu rfl rfl rfl rfl rfl ?_
        have A132 := (Cy117_110.st p131 rfl)
        have K133 := (Ky117.st p131 rfl)
        exact Kj125 _ _ _ ⟨s131, _, rfl, (ue (ue (ue (ue (ue (ue (ue (ue (ue (ue (ue (ue (ue (ue rfl rfl) rfl) rfl) rfl) rfl) rfl) rfl) rfl) rfl) rfl) rfl) rfl) rfl) rfl), K133, A132⟩
       ·
        refine sbT hb125 ?_
        rw [if_neg (by rw [hb125]; decide)]
        refine uw rfl rfl rfl rfl ?_
        refine uw rfl rfl rfl rfl ?_
        refine uw rfl rfl rfl rfl ?_
        refine uw rfl rfl rfl rfl ?_
        refine uw rfl rfl rfl rfl ?_
        refine uw rfl rfl rfl rfl ?_
        refine pu rfl rfl rfl rfl rfl ?_
        exact Kj125 _ _ _ ⟨s124, _, rfl, (ue (ue (ue (ue (ue (ue (ue (ue (ue (ue (ue (ue (ue (ue rfl rfl) rfl) rfl) rfl) rfl) rfl) rfl) rfl) rfl) rfl) rfl) rfl) rfl) rfl), Ky117, Cy117_110⟩
      rintro y125 _ _ ⟨s134, _, rfl, rfl, Ky125, Cy125_110⟩
      refine pu rfl rfl rfl rfl rfl ?_
      exact Kj111 _ _ _ ⟨s134, _, rfl, (ue (ue (ue (ue (ue (ue (ue rfl rfl) rfl) rfl) rfl) rfl) rfl) rfl), Ky125, Cy125_110⟩
    rintro y111 _ _ ⟨s135, _, rfl, rfl, Ky111, Cy111_110⟩
    refine pu rfl rfl rfl rfl rfl ?_
    refine dn ?_
    refine ib ?_
    exact Kj6 _ _ _ ⟨s135, _, rfl, (ue (ue (ue (ue (ue (ue (ue rfl rfl) rfl) rfl) rfl) rfl) rfl) rfl), Ky111, Cy111_110⟩
  rintro y6 _ _ ⟨s136, _, rfl, rfl, Ky6, Ay6_0⟩
  refine rg ?_
  refine pu rfl rfl rfl rfl rfl ?_
  refine pu rfl rfl rfl rfl rfl ?_
  refine dn ?_
  exact lb ih2 ⟨s136, _, rfl, (ue (ue (ue (ue (ue (ue (ue rfl rfl) rfl) rfl) rfl) rfl) rfl) rfl), Ky6, Ay6_0⟩
 ·
  refine xt rfl ?_
  refine sgb ?_
  refine sq ?_
  refine sr ?_
  refine pu rfl rfl rfl rfl rfl ?_
  refine pu rfl rfl rfl rfl rfl ?_
  refine ji [] (fun (y138 : Bool) (e : Env) (w : World) => ∃ (s : St) (e0 : Env), w = s.w ∧ e = upd e0 86 (.bool y138) ∧ Kp s0 s ∧ OwF (Kd.sl 59 kd59) s [w0_0] x2.1 2) (fun Gj138 Kj138 => ?_) ?_
  ·
   rcases Bool.eq_false_or_eq_true x2.2.1 with hb138 | hb138
   ·
    refine sbT hb138 ?_
    rw [if_pos hb138]
    refine uw rfl rfl rfl rfl ?_
    refine uw rfl rfl rfl rfl ?_
    refine uw rfl rfl rfl rfl ?_
    refine uw rfl rfl rfl rfl ?_
    refine uw rfl rfl rfl rfl ?_
    refine uw rfl rfl rfl rfl ?_
    refine uw rfl rfl rfl rfl ?_
    refine uw rfl rfl rfl rfl ?_
    refine uw rfl rfl rfl rfl ?_
    refine uw rfl rfl rfl rfl ?_
    refine uw rfl rfl rfl rfl ?_
    refine uw rfl rfl rfl rfl ?_
    refine pu rfl rfl rfl rfl rfl ?_
    exact Kj138 _ _ _ ⟨s3, _, rfl, (ue rfl rfl), Kx2, Ax2_0⟩
   ·
    refine sbT hb138 ?_
    rw [if_neg (by rw [hb138]; decide)]
    refine mv w0_0 rfl rfl rfl rfl rfl rfl ?_
    refine pu rfl rfl rfl rfl rfl ?_
    refine ix Ax2_0.rd Try.underlying62 z59 rfl rfl rfl rfl rfl rfl rfl rfl (fun ad139 es139 h0_139 h1_139 he139 ce139 ia139 => ?_)
    obtain ⟨v139_0, v139_1, rfl, A139_0, A139_1⟩ := op59 he139
    refine fa fa59_6 rfl rfl rfl rfl rfl rfl ?_
    refine lc ce139 Try.underlying4 rfl rfl rfl rfl rfl rfl rfl rfl ?_
    refine pu rfl rfl rfl rfl rfl ?_
    refine ji [14] (fun (y143 : Bool) (e : Env) (w : World) => ∃ (s : St) (e0 : Env), w = s.w ∧ e = upd (upd e0 73 (.bool false)) 85 (.bool y143) ∧ Kp s0 s ∧ OwF (Kd.sl 59 kd59) s [w0_0] x2.1 2) (fun Gj143 Kj143 => ?_) ?_
    ·
     rcases Bool.eq_false_or_eq_true ((at_ x2.1 a1).In) with hb143 | hb143
     ·
      refine sbT hb143 ?_
      rw [if_pos hb143]
      refine mv w0_0 rfl rfl rfl rfl rfl rfl ?_
      refine pu rfl rfl rfl rfl rfl ?_
      refine ix Ax2_0.rd Try.underlying62 z59 rfl rfl rfl rfl rfl rfl rfl rfl (fun ad144 es144 h0_144 h1_144 he144 ce144 ia144 => ?_)
      obtain ⟨v144_0, v144_1, rfl, A144_0, A144_1⟩ := op59 he144
      refine fa fa59_7 rfl rfl rfl rfl rfl rfl ?_
      refine lc ce144 Try.underlying4 rfl rfl rfl rfl rfl rfl rfl rfl ?_
      refine pu rfl rfl rfl rfl rfl ?_
      exact Kj143 _ _ _ ⟨s3, _, rfl, (ue (ue rfl rfl) rfl), Kx2, Ax2_0⟩
     ·
      refine sbT hb143 ?_
      rw [if_neg (by rw [hb143]; decide)]
      refine uw rfl rfl rfl rfl ?_
      refine uw rfl rfl rfl rfl ?_
      refine uw rfl rfl rfl rfl ?_
      refine uw rfl rfl rfl rfl ?_
      refine uw rfl rfl rfl rfl ?_
      refine pu rfl rfl rfl rfl rfl ?_
      exact Kj143 _ _ _ ⟨s3, _, rfl, (ue (ue rfl rfl) rfl), Kx2, Ax2_0⟩
    rintro y143 _ _ ⟨s148, _, rfl, rfl, Ky143, Cy143_4⟩
    refine pu rfl rfl rfl rfl rfl ?_
    exact Kj138 _ _ _ ⟨s148, _, rfl, (ue rfl rfl), Ky143, Cy143_4⟩
  rintro y138 _ _ ⟨s149, _, rfl, rfl, Ky138, Cy138_4⟩
  refine dn ?_
  refine cd rfl (fun h150 => ?_) (fun h150 => ?_)
  ·
   refine sr ?_
   refine pu rfl rfl rfl rfl rfl ?_
   refine dn ?_
   exact re rfl Try.func113 rfl (r_t rfl r_nil) rfl ⟨_, rfl, rfl, z.fw Ky138 Cy138_4, z.ky Ky138⟩
  ·
   refine sk ?_
   refine sr ?_
   refine pu rfl rfl rfl rfl rfl ?_
   refine dn ?_
   exact re rfl Try.func113 rfl (r_t rfl r_nil) rfl ⟨_, rfl, rfl, z.fw Ky138 Cy138_4, z.ky Ky138⟩
noncomputable def impl_EdgeRead_2.f (a0 : (List Track)) (i0 : Int)  (i1 : Int) : Option ((List Track)) :=
 ((some (a0.set (i0).toNat (Track.mk (at_ a0 i0).Xid (at_ a0 i0).Begun (at_ a0 i0).Ended (at_ a0 i0).All (at_ a0 i0).Reads (at_ a0 i0).Writes (at_ a0 i0).In true))).bind fun y8 => ((some (y8.set (i1).toNat (Track.mk (at_ y8 i1).Xid (at_ y8 i1).Begun (at_ y8 i1).Ended (at_ y8 i1).All (at_ y8 i1).Reads (at_ y8 i1).Writes true (at_ y8 i1).Out))).bind fun y15 => (some y15)))
def impl_EdgeRead_2.Q (w : World) (F : Nat → Prop) (os : List Nat) (w0_0 : Value) (r : (List Track)) (v : Value) (w' : World) : Prop :=
 v = .tuple #[] ∧ FW (Kd.sl 59 kd59) os w w' [w0_0] r ∧ Ky os w w'
set_option maxHeartbeats 4000000 in
set_option maxRecDepth 100000 in
theorem impl_EdgeRead_2.calls (a0 : (List Track)) (i0 : Int)  (i1 : Int) (w : World) (F : Nat → Prop) (w0_0 : Value) (ad0 : Addr) (ad1 : Addr) (os : List Nat) (h0_0 : (Kd.sl 59 kd59).ow w [w0_0] a0 os) (hn : os.Nodup) (hF : ∀ b, F b → b ∉ os) (x0 : IxA w0_0 kd59.n i0 ad0) (g0 : 0 ≤ i0) (l0 : i0 < (a0.length : Int)) (x1 : IxA w0_0 kd59.n i1 ad1) (g1 : 0 ≤ i1) (l1 : i1 < (a0.length : Int)) (r : (List Track)) (m : impl_EdgeRead_2.f a0 i0  i1 = some r) :
  Calls Try.prog 117 #[(.pointer (some ad0)), (.pointer (some ad1))] w fun en w' => ∃ v, en = .returned v ∧ impl_EdgeRead_2.Q w F os w0_0 r v w' := by
 obtain ⟨s0, rfl, kp0, z⟩ := startN w F [(os, 40)] (by simpa [fl_] using hn) (fun b hb => by simpa [fl_] using hF b hb) rfl
 have ez : fl_ [(os, 40)] = os := by simp [fl_]
 have A0_0 := z.ow (c := 40) (by simp) hn h0_0
 refine calls_of_TM (args := [(.pointer (some ad0)), (.pointer (some ad1))]) (R := fun r en w' => ∃ v, en = .returned v ∧ impl_EdgeRead_2.Q s0.w F os w0_0 r v w') Try.func117 Try.ntmps117 rfl rfl m ?_
 unfold impl_EdgeRead_2.f
 refine rg ?_
 refine pu rfl rfl rfl rfl rfl ?_
 refine pu rfl rfl rfl rfl rfl ?_
 refine pu rfl rfl rfl rfl rfl ?_
 refine fa fa59_7 rfl rfl rfl rfl rfl rfl ?_
 have h1_2 : i0 < (a0.length : Int) := by simpa using l0
 obtain ⟨es2, he2, ce2⟩ := ix_re A0_0.rd rfl g0 h1_2 x0
 have h0_2 := g0
 have ia2 := x0
 obtain ⟨v2_0, v2_1, rfl, A2_0, A2_1⟩ := op59 he2
 refine so (x' := (Track.mk (at_ a0 i0).Xid (at_ a0 i0).Begun (at_ a0 i0).Ended (at_ a0 i0).All (at_ a0 i0).Reads (at_ a0 i0).Writes (at_ a0 i0).In true)) A0_0 x0 g0 h1_2 (cs_iso (cs_right (cs_right (cs_right (cs_right (cs_right (cs_right (cs_right cs_flat)))))))) z4 rfl rfl rfl rfl rfl rfl (fun s6 p6 A6 => ?_)
 refine nb (fun y8 h8 => ?_)
 have A8 : OwF (Kd.sl 59 kd59) s6 [w0_0] y8 40 := by rw [h8]; exact A6
 refine pu rfl rfl rfl rfl rfl ?_
 refine fa fa59_6 rfl rfl rfl rfl rfl rfl ?_
 have h1_9 : i1 < (y8.length : Int) := by simpa [h8] using l1
 obtain ⟨es9, he9, ce9⟩ := ix_re A8.rd rfl g1 h1_9 x1
 have h0_9 := g1
 have ia9 := x1
 obtain ⟨v9_0, v9_1, rfl, A9_0, A9_1⟩ := op59 he9
 refine so (x' := (Track.mk (at_ y8 i1).Xid (at_ y8 i1).Begun (at_ y8 i1).Ended (at_ y8 i1).All (at_ y8 i1).Reads (at_ y8 i1).Writes true (at_ y8 i1).Out)) A8 x1 g1 h1_9 (cs_iso (cs_right (cs_right (cs_right (cs_right (cs_right (cs_right (cs_left cs_flat)))))))) z4 rfl rfl rfl rfl rfl rfl (fun s13 p13 A13 => ?_)
 refine nb (fun y15 h15 => ?_)
 have A15 : OwF (Kd.sl 59 kd59) s13 [w0_0] y15 40 := by rw [h15]; exact A13
 refine dn ?_
 have K16 := ((kp0.st p6 rfl).st p13 rfl)
 exact reE rfl Try.func117 rfl r_nil rfl ⟨_, rfl, rfl, z.fw' ez K16 (oc_ow A15) rfl, z.ky' ez K16⟩
noncomputable def impl_EdgeRead.f (a0 : (List Track)) (a1 : Int) (a2 : Span) : Option ((List Track) × Int) :=
 ((impl_active.f a0 a1).bind fun r8 => ((impl_TracksOk.f a0).bind fun r12 => ((if ((!r12) || (decide (r8 < (0 : Int)))) = true then (some true) else ((impl_SpanOk.f a2).bind fun r22 => (some (!r22)))).bind fun y15 => (if y15 = true then (some (([] : (List Track)), (1 : Int))) else ((impl_ownTracks.f a0).bind fun r30 => (if 0 ≤ r8 ∧ r8 < (r30.length : Int) then ((impl_Track_reads.f r30 r8 a2).bind fun r48 => ((impl_meet.f r48 r8 (fun x0 => impl_EdgeRead_1.f x0 a2) impl_EdgeRead_2.f).bind fun r51 => (some (r51.2, r51.1)))) else none))))))
def impl_EdgeRead.Q (w : World) (F : Nat → Prop) (r : (List Track) × Int) (v : Value) (w' : World) : Prop :=
 ∃ (v0 : Value), v = .tuple #[v0, (.int .i64 r.2)] ∧ FO (Kd.sl 59 kd59) w w' [v0] r.1 ∧ Ky [] w w'
set_option maxHeartbeats 4000000 in
set_option maxRecDepth 100000 in
theorem impl_EdgeRead.calls (a0 : (List Track)) (a1 : Int) (a2 : Span) (w : World) (F : Nat → Prop) (w0_0 : Value) (w2_0 : Value) (w2_1 : Value) (w2_2 : Value) (w2_3 : Value) (h0_0 : (Kd.sl 59 kd59).rd w [w0_0] a0 F) (h2_0 : Kd.flt.rd w [w2_0] a2.From.F F) (h2_1 : (Kd.sl 5 (Kd.int .u8)).rd w [w2_1] a2.From.T F) (h2_2 : Kd.flt.rd w [w2_2] a2.To.F F) (h2_3 : (Kd.sl 5 (Kd.int .u8)).rd w [w2_3] a2.To.T F) (r : (List Track) × Int) (m : impl_EdgeRead.f a0 a1 a2 = some r) :
  Calls Try.prog 43 #[w0_0, (.int .i64 a1), (.agg #[(.int .i64 a2.From.Kind), (.int .i64 a2.From.N), w2_0, w2_1, (.int .i64 a2.To.Kind), (.int .i64 a2.To.N), w2_2, w2_3])] w fun en w' => ∃ v, en = .returned v ∧ impl_EdgeRead.Q w F r v w' := by
 obtain ⟨s0, rfl, kp0, z⟩ := start0 w F
 have A0_0 := z.rd h0_0
 have A2_0 := fl_of h2_0
 have A2_1 := z.rd h2_1
 have A2_2 := fl_of h2_2
 have A2_3 := z.rd h2_3
 refine calls_of_TM (args := [w0_0, (.int .i64 a1), (.agg #[(.int .i64 a2.From.Kind), (.int .i64 a2.From.N), w2_0, w2_1, (.int .i64 a2.To.Kind), (.int .i64 a2.To.N), w2_2, w2_3])]) (R := fun r en w' => ∃ v, en = .returned v ∧ impl_EdgeRead.Q s0.w F r v w') Try.func43 Try.ntmps43 rfl rfl m ?_
 unfold impl_EdgeRead.f
 refine sr ?_
 refine bx (cs := [(.int .i64 a2.From.Kind), (.int .i64 a2.From.N), w2_0, w2_1, (.int .i64 a2.To.Kind), (.int .i64 a2.To.N), w2_2, w2_3]) 40 rfl rfl rfl rfl rfl rfl (fun b4 s4 p4 B4 => ?_)
 refine pu rfl rfl rfl rfl rfl ?_
 refine pu rfl rfl rfl rfl rfl ?_
 refine dn ?_
 refine sr ?_
 refine mv w0_0 rfl rfl rfl rfl rfl rfl ?_
 refine pu rfl rfl rfl rfl rfl ?_
 have K6 := (kp0.st p4 rfl)
 have A7 := (A0_0.kp K6)
 refine cl rfl rfl rfl rfl rfl Try.func91 rfl rfl rfl (fun r8 m8 => impl_active.calls a0 a1 s4.w (fun b => memb [0] (s4.g b) = true) w0_0 A7 r8 m8) ?_
 rintro r8 _ w8 m8 ⟨rfl, ky8⟩
 obtain ⟨s9, rfl, p9, n9⟩ := nwx s4 w8 41 ky8
 refine pu rfl rfl rfl rfl rfl ?_
 refine dn ?_
 refine sq ?_
 refine sr ?_
 refine mv w0_0 rfl rfl rfl rfl rfl rfl ?_
 have K10 := (K6.st p9 rfl)
 have A11 := (A0_0.kp K10)
 refine cl rfl rfl rfl rfl rfl Try.func34 rfl rfl rfl (fun r12 m12 => impl_TracksOk.calls a0 s9.w (fun b => memb [0] (s9.g b) = true) w0_0 A11 r12 m12) ?_
 rintro r12 _ w12 m12 ⟨rfl, ky12⟩
 obtain ⟨s13, rfl, p13, n13⟩ := nwx s9 w12 42 ky12
 refine pu rfl rfl rfl rfl rfl ?_
 refine pu rfl rfl rfl rfl rfl ?_
 refine jy [16, 17, 18, 19] [7, 8, 9, 10, 11] 19 (.bool ((!r12) || (decide (r8 < (0 : Int))))) rfl (fun Kg14 => ?_) (fun j14 => ?_)
 ·
  rcases Bool.eq_false_or_eq_true (!r12) with hb14 | hb14
  ·
   refine sbT hb14 ?_
   refine uw rfl rfl rfl rfl ?_
   refine uw rfl rfl rfl rfl ?_
   refine pu rfl rfl rfl rfl rfl ?_
   exact Kg14 _ (Ag.put ((Ag.put ((Ag.put (Ag.base rfl) rfl)) rfl)) rfl) (by rw [hb14]; rfl)
  ·
   refine sbT hb14 ?_
   refine pu rfl rfl rfl rfl rfl ?_
   refine pu rfl rfl rfl rfl rfl ?_
   refine pu rfl rfl rfl rfl rfl ?_
   exact Kg14 _ (Ag.put ((Ag.put ((Ag.put (Ag.base rfl) rfl)) rfl)) rfl) (by rw [hb14]; rfl)
 refine pu rfl rfl rfl rfl rfl ?_
 refine ji [] (fun (y15 : Bool) (e : Env) (w : World) => ∃ (s : St) (e0 : Env), w = s.w ∧ e = upd (upd (upd (upd e0 0 w0_0) 5 (.pointer (some ⟨b4, 0, none⟩))) 8 (.int .i64 r8)) 24 (.bool y15) ∧ Kp s0 s ∧ BlF s b4 80 [(.int .i64 a2.From.Kind), (.int .i64 a2.From.N), w2_0, w2_1, (.int .i64 a2.To.Kind), (.int .i64 a2.To.N), w2_2, w2_3] 40) (fun Gj15 Kj15 => ?_) ?_
 ·
  rcases Bool.eq_false_or_eq_true ((!r12) || (decide (r8 < (0 : Int)))) with hb15 | hb15
  ·
   refine sbT hb15 ?_
   rw [if_pos hb15]
   refine uw rfl rfl rfl rfl ?_
   refine uw rfl rfl rfl rfl ?_
   refine uw rfl rfl rfl rfl ?_
   refine pu rfl rfl rfl rfl rfl ?_
   have A16 := (BlF.st (BlF.st B4 p9 rfl) p13 rfl)
   have K17 := (K10.st p13 rfl)
   exact Kj15 _ _ _ ⟨s13, _, rfl, (ue (ue (ue (ue rfl rfl) rfl) rfl) rfl), K17, A16⟩
  ·
   refine sbT hb15 ?_
   rw [if_neg (by rw [hb15]; decide)]
   have A18 := (BlF.st (BlF.st B4 p9 rfl) p13 rfl)
   refine lda (es := [(.int .i64 a2.From.Kind), (.int .i64 a2.From.N), w2_0, w2_1, (.int .i64 a2.To.Kind), (.int .i64 a2.To.N), w2_2, w2_3]) A18 Try.underlying80 z80 rfl rfl rfl rfl rfl rfl rfl rfl ?_
   have K19 := (K10.st p13 rfl)
   have A20 := (A2_1.kp K19)
   have A21 := (A2_3.kp K19)
   refine cl rfl rfl rfl rfl rfl Try.func111 rfl rfl rfl (fun r22 m22 => impl_SpanOk.calls a2 s13.w (fun b => memb [0] (s13.g b) = true) w2_0 w2_1 w2_2 w2_3 ((fl_rdf (s := s13) A2_0).sub (D := [0]) rfl) A20 ((fl_rdf (s := s13) A2_2).sub (D := [0]) rfl) A21 r22 m22) ?_
   rintro r22 _ w22 m22 ⟨rfl, ky22⟩
   obtain ⟨s23, rfl, p23, n23⟩ := nwx s13 w22 43 ky22
   refine pu rfl rfl rfl rfl rfl ?_
   refine pu rfl rfl rfl rfl rfl ?_
   have A24 := (BlF.st A18 p23 rfl)
   have K25 := (K19.st p23 rfl)
   exact Kj15 _ _ _ ⟨s23, _, rfl, (ue (ue (ue (ue rfl rfl) rfl) rfl) rfl), K25, A24⟩
 rintro y15 _ _ ⟨s26, _, rfl, rfl, Ky15, By15_b4⟩
 refine dn ?_
 refine cd rfl (fun h28 => ?_) (fun h28 => ?_)
 ·
  refine sr ?_
  refine pu rfl rfl rfl rfl rfl ?_
  refine pu rfl rfl rfl rfl rfl ?_
  refine dn ?_
  exact re rfl Try.func43 rfl (r_t rfl (r_t rfl r_nil)) rfl ⟨_, rfl, (.slice none 0 0), rfl, (ow_nil 59 kd59 s26 40).fo Ky15 rfl z.l, z.ky Ky15⟩
 ·
  refine sk ?_
  refine sr ?_
  refine mv w0_0 rfl rfl rfl rfl rfl rfl ?_
  have A29 := (A0_0.kp Ky15)
  refine cl rfl rfl rfl rfl rfl Try.func92 rfl rfl rfl (fun r30 m30 => impl_ownTracks.calls a0 s26.w (fun b => memb [0] (s26.g b) = true) w0_0 A29 r30 m30) ?_
  rintro r30 v30_0 w30 m30 ⟨f30_0, ky30⟩
  obtain ⟨s31, rfl, p31, n31⟩ := nwx s26 w30 44 ky30
  have A30_0 := f30_0.c n31
  refine asg v30_0 rfl rfl rfl rfl rfl rfl ?_
  refine dn ?_
  refine sq ?_
  refine zdraw [[], [], [0, 1], [], [2, 3]] [some 27, some 28, some 29, some 30, some 31] [[9], [8], [27, 28], [5], [29, 30]] [0, 1, 2, 3, 4] ⟨by kernel_rfl, by kernel_rfl, by kernel_rfl⟩ (by kernel_rfl) (fun s33 p33 l33 tb33 zd33 => ?_)
  have zd34 := zd33.add 0 27 v30_0 rfl
  have zd35 := zd34.add 1 28 (.int .i64 r8) rfl
  have A36 := (A30_0.st p33 rfl)
  refine mg fun hg37 => ?_
  obtain ⟨ad37, es37, he37, ce37, ia37⟩ := ix_e A36.rd rfl hg37.1 hg37.2
  have h0_37 := hg37.1
  have h1_37 := hg37.2
  obtain ⟨v37_0, v37_1, rfl, A37_0, A37_1⟩ := op59 he37
  have zd41 := zd35.add 2 29 (.pointer (some ad37)) rfl
  have A42 := (BlF.st (BlF.st By15_b4 p31 rfl) p33 rfl)
  have zd43 := zd41.add 3 30 (.agg #[(.int .i64 a2.From.Kind), (.int .i64 a2.From.N), w2_0, w2_1, (.int .i64 a2.To.Kind), (.int .i64 a2.To.N), w2_2, w2_3]) rfl
  have A44 := (BlF.st (BlF.st By15_b4 p31 rfl) p33 rfl)
  refine zfin [4] tb33 zd43 (pq_cons (lda_q (es := [(.int .i64 a2.From.Kind), (.int .i64 a2.From.N), w2_0, w2_1, (.int .i64 a2.To.Kind), (.int .i64 a2.To.N), w2_2, w2_3]) A44 Try.underlying80 z80 rfl rfl rfl rfl rfl rfl rfl rfl) rfl (pq_cons (ix_q A36.rd Try.underlying62 z59 hg37.1 hg37.2 ia37 rfl rfl rfl rfl rfl rfl rfl) rfl (pq_cons (pu_q rfl rfl rfl rfl rfl rfl) rfl (pq_cons (mv_q v30_0 rfl rfl rfl rfl rfl rfl) rfl pq_nil)))) (by kernel_rfl) (by decide) ?_
  have K45 := ((Ky15.st p31 rfl).st p33 rfl)
  have A46 := (A2_1.kp K45)
  have A47 := (A2_3.kp K45)
  obtain ⟨os48, ho48, hn48, hc48⟩ := A36
  refine cl rfl rfl rfl rfl rfl Try.func112 rfl rfl rfl (fun r48 m48 => impl_Track_reads.calls r30 r8 a2 s33.w (fun b => memb [0] (s33.g b) = true) v30_0 ad37 w2_0 w2_1 w2_2 w2_3 ((fl_rdf (s := s33) A2_0).sub (D := [0]) rfl) A46 ((fl_rdf (s := s33) A2_2).sub (D := [0]) rfl) A47 os48 ho48 hn48 (apart_of hc48 rfl) ia37 h0_37 h1_37 r48 m48) ?_
  rintro r48 _ w48 m48 ⟨rfl, w48_, ky48⟩
  obtain ⟨s49, rfl, p49, A49⟩ := nwo 45 hc48 ky48 w48_
  refine dn ?_
  refine sr ?_
  refine mv v30_0 rfl rfl rfl rfl rfl rfl ?_
  refine mv v30_0 rfl rfl rfl rfl rfl rfl ?_
  refine pu rfl rfl rfl rfl rfl ?_
  refine mkf (fs := []) (cs := [(.pointer (some ⟨b4, 0, none⟩))]) rfl rfl rfl rfl rfl rfl rfl ?_
  obtain ⟨os51, ho51, hn51, hc51⟩ := A49
  have K52 := (K45.st p49 rfl)
  have A53 := (A2_1.kp K52)
  have A54 := (A2_3.kp K52)
  have A55 := (BlF.st (BlF.st (BlF.st By15_b4 p31 rfl) p33 rfl) p49 rfl)
  refine cl rfl rfl rfl rfl rfl Try.func113 rfl rfl rfl (fun r51 m51 => impl_meet.calls r48 r8 (fun x0 => impl_EdgeRead_1.f x0 a2) impl_EdgeRead_2.f s49.w (fun b => memb [] (s49.g b) = true) v30_0 (.func (.func 114) (List.toArray []) (List.toArray [(.pointer (some ⟨b4, 0, none⟩))])) (.func (.func 117) #[] #[]) os51 ho51 hn51 (apart_of hc51 rfl) (fun x0 u0_0 u0_1 w' k h0 h1 r m =>  ⟨114, _, _, [], [(.pointer (some ⟨b4, 0, none⟩))], rfl, Try.func114, rfl, rfl, (impl_EdgeRead_1.calls x0 a2 w' (fun _ => True) u0_0 u0_1 b4 w2_0 w2_1 w2_2 w2_3 h0 h1 (fl_rd A2_0) (RdF.kyo A53 hc51 k rfl) (fl_rd A2_2) (RdF.kyo A54 hc51 k rfl) (BlF.kyo A55 hc51 k rfl) trivial r m).mono fun en w2 hq => by obtain ⟨v, e, q⟩ := hq; exact ⟨v, e, q⟩⟩) rfl (fun l x0 x1 u d0 d1 os1 w1 k1 b1 n1 e0 g0 l0 e1 g1 l1 r m => ⟨117, _, _, [], [], rfl, Try.func117, rfl, rfl, (impl_EdgeRead_2.calls l x0 x1 w1 (fun _ => False) u d0 d1 os1 b1 n1 (fun _ h => h.elim) e0 g0 l0 e1 g1 l1 r m).mono fun en w2 hq => by obtain ⟨v, e, q⟩ := hq; exact ⟨v, e, q⟩⟩) rfl r51 m51) ?_
  rintro r51 _ w51 m51 ⟨rfl, w51_, ky51⟩
  obtain ⟨s56, rfl, p56, A56⟩ := nwo 46 hc51 ky51 w51_
  refine asg v30_0 rfl rfl rfl rfl rfl rfl ?_
  refine pu rfl rfl rfl rfl rfl ?_
  refine dn ?_
  have K58 := (K52.st p56 rfl)
  exact re rfl Try.func43 rfl (r_t rfl (r_t rfl r_nil)) rfl ⟨_, rfl, v30_0, rfl, A56.fo K58 rfl z.l, z.ky K58⟩
noncomputable def laws_markSpan.f (a0 : Span) (a1 : Int) : Option (Int × Span) :=
 ((laws_markItem.f a0.From a1).bind fun r5 => ((laws_markItem.f a0.To r5.1).bind fun r10 => (some (r10.1, (Span.mk (Item.mk a0.From.Kind a0.From.N a0.From.F r5.2) (Item.mk a0.To.Kind a0.To.N a0.To.F r10.2))))))
def laws_markSpan.Q (w : World) (F : Nat → Prop) (os : List Nat) (a0 : Span) (w0_0 : Value) (w0_1 : Value) (w0_2 : Value) (w0_3 : Value) (r : Int × Span) (v : Value) (w' : World) : Prop :=
 v = (.int .i64 r.1) ∧ FW kd80 os w w' [(.int .i64 a0.From.Kind), (.int .i64 a0.From.N), w0_0, w0_1, (.int .i64 a0.To.Kind), (.int .i64 a0.To.N), w0_2, w0_3] r.2 ∧ Ky os w w'
set_option maxHeartbeats 4000000 in
set_option maxRecDepth 100000 in
theorem laws_markSpan.calls (a0 : Span) (a1 : Int) (w : World) (F : Nat → Prop) (w0_0 : Value) (w0_1 : Value) (w0_2 : Value) (w0_3 : Value) (os : List Nat) (h0 : kd80.ow w [(.int .i64 a0.From.Kind), (.int .i64 a0.From.N), w0_0, w0_1, (.int .i64 a0.To.Kind), (.int .i64 a0.To.N), w0_2, w0_3] a0 os) (hn : os.Nodup) (hF : ∀ b, F b → b ∉ os) (r : Int × Span) (m : laws_markSpan.f a0 a1 = some r) :
  Calls Try.prog 45 #[(.agg #[(.int .i64 a0.From.Kind), (.int .i64 a0.From.N), w0_0, w0_1, (.int .i64 a0.To.Kind), (.int .i64 a0.To.N), w0_2, w0_3]), (.int .i64 a1)] w fun en w' => ∃ v, en = .returned v ∧ laws_markSpan.Q w F os a0 w0_0 w0_1 w0_2 w0_3 r v w' := by
 obtain ⟨u0_0, u0_1, u0_2, u0_3, q0_1, q0_3, e0, eo0, h0_0, h0_1, h0_2, h0_3⟩ := po80 h0
 obtain ⟨y0_0, y0_1, y0_2, y0_3⟩ : w0_0 = u0_0 ∧ w0_1 = u0_1 ∧ w0_2 = u0_2 ∧ w0_3 = u0_3 := by simpa using e0
 subst y0_0
 subst y0_1
 subst y0_2
 subst y0_3
 subst eo0
 obtain ⟨s0, rfl, kp0, z⟩ := startN w F [(q0_1, 2), (q0_3, 3)] (by simpa [fl_] using hn) (fun b hb => by simpa [fl_] using hF b hb) rfl
 have ez : fl_ [(q0_1, 2), (q0_3, 3)] = q0_1 ++ (q0_3) := by simp [fl_]
 have hn0_1 : q0_1.Nodup := by simp only [List.nodup_append] at hn; simp [hn]
 have A0_1 := z.ow (c := 2) (by simp) hn0_1 h0_1
 have hn0_3 : q0_3.Nodup := by simp only [List.nodup_append] at hn; simp [hn]
 have A0_3 := z.ow (c := 3) (by simp) hn0_3 h0_3
 have A0_0 := h0_0
 have A0_2 := h0_2
 refine calls_of_TM (args := [(.agg #[(.int .i64 a0.From.Kind), (.int .i64 a0.From.N), w0_0, w0_1, (.int .i64 a0.To.Kind), (.int .i64 a0.To.N), w0_2, w0_3]), (.int .i64 a1)]) (R := fun r en w' => ∃ v, en = .returned v ∧ laws_markSpan.Q s0.w F (q0_1 ++ (q0_3)) a0 w0_0 w0_1 w0_2 w0_3 r v w') Try.func45 Try.ntmps45 rfl rfl m ?_
 unfold laws_markSpan.f
 refine sr ?_
 refine bx (cs := [(.int .i64 a0.From.Kind), (.int .i64 a0.From.N), w0_0, w0_1, (.int .i64 a0.To.Kind), (.int .i64 a0.To.N), w0_2, w0_3]) 40 rfl rfl rfl rfl rfl rfl (fun b3 s3 p3 B3 => ?_)
 refine pu rfl rfl rfl rfl rfl ?_
 refine dn ?_
 refine sr ?_
 refine fa fa80_0 rfl rfl rfl rfl rfl rfl ?_
 refine lda (es := [(.int .i64 a0.From.Kind), (.int .i64 a0.From.N), w0_0, w0_1]) B3 Try.underlying48 z48 rfl rfl rfl rfl rfl rfl rfl rfl ?_
 refine pu rfl rfl rfl rfl rfl ?_
 have A6 := (A0_1.st p3 rfl)
 obtain ⟨os5, ho5, hn5, hc5⟩ := A6
 refine cl rfl rfl rfl rfl rfl Try.func26 rfl rfl rfl (fun r5 m5 => laws_markItem.calls a0.From a1 s3.w (fun b => memb [] (s3.g b) = true) w0_0 w0_1 (fl_rdf (s := s3) A0_0) os5 ho5 hn5 (apart_of hc5 rfl) r5 m5) ?_
 rintro r5 _ w5 m5 ⟨rfl, w5_, ky5⟩
 obtain ⟨s7, rfl, p7, A7⟩ := nwo 41 hc5 ky5 w5_
 refine pu rfl rfl rfl rfl rfl ?_
 refine dn ?_
 refine sr ?_
 refine fa fa80_1 rfl rfl rfl rfl rfl rfl ?_
 have A9 := (BlF.st B3 p7 rfl)
 refine lda (es := [(.int .i64 a0.To.Kind), (.int .i64 a0.To.N), w0_2, w0_3]) A9 Try.underlying48 z48 rfl rfl rfl rfl rfl rfl rfl rfl ?_
 refine pu rfl rfl rfl rfl rfl ?_
 have A11 := ((A0_3.st p3 rfl).st p7 rfl)
 obtain ⟨os10, ho10, hn10, hc10⟩ := A11
 refine cl rfl rfl rfl rfl rfl Try.func26 rfl rfl rfl (fun r10 m10 => laws_markItem.calls a0.To r5.1 s7.w (fun b => memb [] (s7.g b) = true) w0_2 w0_3 (fl_rdf (s := s7) A0_2) os10 ho10 hn10 (apart_of hc10 rfl) r10 m10) ?_
 rintro r10 _ w10 m10 ⟨rfl, w10_, ky10⟩
 obtain ⟨s12, rfl, p12, A12⟩ := nwo 42 hc10 ky10 w10_
 refine pu rfl rfl rfl rfl rfl ?_
 refine dn ?_
 refine sr ?_
 refine pu rfl rfl rfl rfl rfl ?_
 refine pu rfl rfl rfl rfl rfl ?_
 refine dn ?_
 have A14 := (A7.st p12 rfl)
 have K15 := (((kp0.st p3 rfl).st p7 rfl).st p12 rfl)
 exact re rfl Try.func45 rfl (r_t rfl r_nil) rfl ⟨_, rfl, rfl, z.fw' ez K15 (oc_iso (fun x : Span => (x.From, x.To)) (Span.mk (Item.mk a0.From.Kind a0.From.N a0.From.F r5.2) (Item.mk a0.To.Kind a0.To.N a0.To.F r10.2)) (oc_pair (oc_iso (fun x : Item => (x.Kind, x.N, x.F, x.T)) (Item.mk a0.From.Kind a0.From.N a0.From.F r5.2) (oc_pair (oc_z (fz_int .i64 a0.From.Kind)) (oc_pair (oc_z (fz_int .i64 a0.From.N)) (oc_pair (oc_z (fz_flt A0_0)) (oc_ow A14) rfl) rfl) rfl)) (oc_iso (fun x : Item => (x.Kind, x.N, x.F, x.T)) (Item.mk a0.To.Kind a0.To.N a0.To.F r10.2) (oc_pair (oc_z (fz_int .i64 a0.To.Kind)) (oc_pair (oc_z (fz_int .i64 a0.To.N)) (oc_pair (oc_z (fz_flt A0_2)) (oc_ow A12) rfl) rfl) rfl)) rfl)) rfl, z.ky' ez K15⟩
noncomputable def laws_FnExactEdgeRead.f (a0 : (List Track)) (a1 : Int) (a2 : Span) : Option (Bool) :=
 ((laws_szTrackS.f a0 (1048576 : Int)).bind fun r8 => (if (decide (r8 < (0 : Int))) = true then (some true) else ((laws_szSpan.f a2 r8).bind fun r16 => (if (decide (r16 < (0 : Int))) = true then (some true) else ((laws_toTrackS.f a0).bind fun r29 => ((laws_toSpan.f a2).bind fun r38 => ((spec_EdgeRead.f r29 a1 r38).bind fun r46 => ((laws_toTrackS.f a0).bind fun r56 => ((laws_toSpan.f a2).bind fun r63 => ((impl_EdgeRead.f r56 a1 r63).bind fun r77 => ((laws_eqTrackS.f r77.1 r46.1).bind fun r81 => (if ((!r81) || (r77.2 != r46.2)) = true then (some false) else ((laws_toTrackS.f a0).bind fun r88 => ((laws_eqTrackS.f r56 r88).bind fun r92 => (if (!r92) = true then (some false) else ((laws_toSpan.f a2).bind fun r107 => ((laws_eqSpan.f r63 r107).bind fun r116 => (if (!r116) = true then (some false) else ((laws_markTrackS.f r56 (1 : Int)).bind fun r120 => ((laws_markSpan.f r63 r120.1).bind fun r131 => ((if (decide (r131.1 < (0 : Int))) = true then (some true) else ((laws_eqTrackS.f r77.1 r46.1).bind fun r143 => (some (!r143)))).bind fun y136 => (if (y136 || (r77.2 != r46.2)) = true then (some false) else ((laws_markTrackS.f r77.1 (1 : Int)).bind fun r153 => ((laws_heldTrackS.f r153.2 (1 : Int)).bind fun r156 => (if (decide (r156 < (0 : Int))) = true then (some false) else (if (r156 != r153.1) = true then (some false) else ((laws_toTrackS.f a0).bind fun r171 => ((laws_toSpan.f a2).bind fun r180 => ((impl_EdgeRead.f r171 a1 r180).bind fun r188 => ((laws_eqTrackS.f r188.1 r46.1).bind fun r197 => (if ((!r197) || (r188.2 != r46.2)) = true then (some false) else ((laws_heldTrackS.f r153.2 (1 : Int)).bind fun r203 => (if (decide (r203 < (0 : Int))) = true then (some false) else (if (r203 != r153.1) = true then (some false) else (some true)))))))))))))))))))))))))))))))))))
def laws_FnExactEdgeRead.Q (w : World) (F : Nat → Prop) (r : Bool) (v : Value) (w' : World) : Prop :=
 v = (.bool r) ∧ Ky [] w w'
set_option maxHeartbeats 4000000 in
set_option maxRecDepth 100000 in
theorem laws_FnExactEdgeRead.calls (a0 : (List Track)) (a1 : Int) (a2 : Span) (w : World) (F : Nat → Prop) (w0_0 : Value) (w2_0 : Value) (w2_1 : Value) (w2_2 : Value) (w2_3 : Value) (h0_0 : (Kd.sl 149 kd149).rd w [w0_0] a0 F) (h2_0 : Kd.flt.rd w [w2_0] a2.From.F F) (h2_1 : (Kd.sl 5 (Kd.int .u8)).rd w [w2_1] a2.From.T F) (h2_2 : Kd.flt.rd w [w2_2] a2.To.F F) (h2_3 : (Kd.sl 5 (Kd.int .u8)).rd w [w2_3] a2.To.T F) (r : Bool) (m : laws_FnExactEdgeRead.f a0 a1 a2 = some r) :
  Calls Try.prog 7 #[w0_0, (.int .i64 a1), (.agg #[(.int .i64 a2.From.Kind), (.int .i64 a2.From.N), w2_0, w2_1, (.int .i64 a2.To.Kind), (.int .i64 a2.To.N), w2_2, w2_3])] w fun en w' => ∃ v, en = .returned v ∧ laws_FnExactEdgeRead.Q w F r v w' := by
 obtain ⟨s0, rfl, kp0, z⟩ := start0 w F
 have A0_0 := z.rd h0_0
 have A2_0 := fl_of h2_0
 have A2_1 := z.rd h2_1
 have A2_2 := fl_of h2_2
 have A2_3 := z.rd h2_3
 refine calls_of_TM (args := [w0_0, (.int .i64 a1), (.agg #[(.int .i64 a2.From.Kind), (.int .i64 a2.From.N), w2_0, w2_1, (.int .i64 a2.To.Kind), (.int .i64 a2.To.N), w2_2, w2_3])]) (R := fun r en w' => ∃ v, en = .returned v ∧ laws_FnExactEdgeRead.Q s0.w F r v w') Try.func7 Try.ntmps7 rfl rfl m ?_
 unfold laws_FnExactEdgeRead.f
 refine sr ?_
 refine bx (cs := [(.int .i64 a2.From.Kind), (.int .i64 a2.From.N), w2_0, w2_1, (.int .i64 a2.To.Kind), (.int .i64 a2.To.N), w2_2, w2_3]) 40 rfl rfl rfl rfl rfl rfl (fun b4 s4 p4 B4 => ?_)
 refine pu rfl rfl rfl rfl rfl ?_
 refine dn ?_
 refine sr ?_
 refine pu rfl rfl rfl rfl rfl ?_
 refine dn ?_
 refine sr ?_
 refine mv w0_0 rfl rfl rfl rfl rfl rfl ?_
 refine pu rfl rfl rfl rfl rfl ?_
 have K6 := (kp0.st p4 rfl)
 have A7 := (A0_0.kp K6)
 refine cl rfl rfl rfl rfl rfl Try.func35 rfl rfl rfl (fun r8 m8 => laws_szTrackS.calls a0 (1048576 : Int) s4.w (fun b => memb [0] (s4.g b) = true) w0_0 A7 r8 m8) ?_
 rintro r8 _ w8 m8 ⟨rfl, ky8⟩
 obtain ⟨s9, rfl, p9, n9⟩ := nwx s4 w8 41 ky8
 refine pu rfl rfl rfl rfl rfl ?_
 refine dn ?_
 refine sq ?_
 refine sr ?_
 refine pu rfl rfl rfl rfl rfl ?_
 refine pu rfl rfl rfl rfl rfl ?_
 refine dn ?_
 refine cd rfl (fun h10 => ?_) (fun h10 => ?_)
 ·
  refine sr ?_
  refine pu rfl rfl rfl rfl rfl ?_
  refine dn ?_
  have K11 := (K6.st p9 rfl)
  exact re rfl Try.func7 rfl (r_t rfl r_nil) rfl ⟨_, rfl, rfl, z.ky K11⟩
 ·
  refine sk ?_
  refine sr ?_
  have A12 := (BlF.st B4 p9 rfl)
  refine lda (es := [(.int .i64 a2.From.Kind), (.int .i64 a2.From.N), w2_0, w2_1, (.int .i64 a2.To.Kind), (.int .i64 a2.To.N), w2_2, w2_3]) A12 Try.underlying76 z76 rfl rfl rfl rfl rfl rfl rfl rfl ?_
  refine pu rfl rfl rfl rfl rfl ?_
  have K13 := (K6.st p9 rfl)
  have A14 := (A2_1.kp K13)
  have A15 := (A2_3.kp K13)
  refine cl rfl rfl rfl rfl rfl Try.func40 rfl rfl rfl (fun r16 m16 => laws_szSpan.calls a2 r8 s9.w (fun b => memb [0] (s9.g b) = true) w2_0 w2_1 w2_2 w2_3 ((fl_rdf (s := s9) A2_0).sub (D := [0]) rfl) A14 ((fl_rdf (s := s9) A2_2).sub (D := [0]) rfl) A15 r16 m16) ?_
  rintro r16 _ w16 m16 ⟨rfl, ky16⟩
  obtain ⟨s17, rfl, p17, n17⟩ := nwx s9 w16 42 ky16
  refine pu rfl rfl rfl rfl rfl ?_
  refine dn ?_
  refine sq ?_
  refine sr ?_
  refine pu rfl rfl rfl rfl rfl ?_
  refine pu rfl rfl rfl rfl rfl ?_
  refine dn ?_
  refine cd rfl (fun h18 => ?_) (fun h18 => ?_)
  ·
   refine sr ?_
   refine pu rfl rfl rfl rfl rfl ?_
   refine dn ?_
   have K19 := (K13.st p17 rfl)
   exact re rfl Try.func7 rfl (r_t rfl r_nil) rfl ⟨_, rfl, rfl, z.ky K19⟩
  ·
   refine sk ?_
   refine sq ?_
   refine zdraw [[], [0], [], [], [3, 1], [1, 2, 4, 4], [5], [6], [6], [7, 5, 0, 1, 2, 3, 4, 5, 6, 7], [8, 9, 0, 1, 2, 3, 4, 5, 6, 7, 8, 9]] [some 30, some 31, some 32, some 33, some 34, some 35, some 29, some 36, some 37, some 8, some 9] [[0], [30], [1], [5], [33], [31, 32, 34], [35], [29], [29], [36], [37]] [0, 1, 2, 3, 4, 5, 6, 7, 9, 8, 10] ⟨by kernel_rfl, by kernel_rfl, by kernel_rfl⟩ (by kernel_rfl) (fun s20 p20 l20 tb20 zd20 => ?_)
   have zd21 := zd20.add 0 30 w0_0 rfl
   have zd22 := zd21.add 2 32 (.int .i64 a1) rfl
   have A23 := (BlF.st (BlF.st A12 p17 rfl) p20 rfl)
   have zd24 := zd22.add 3 33 (.agg #[(.int .i64 a2.From.Kind), (.int .i64 a2.From.N), w2_0, w2_1, (.int .i64 a2.To.Kind), (.int .i64 a2.To.N), w2_2, w2_3]) rfl
   have A26 := (BlF.st (BlF.st A12 p17 rfl) p20 rfl)
   refine zstep 1 [some 33, some 32] tb20 zd24 (pq_cons (lda_q (es := [(.int .i64 a2.From.Kind), (.int .i64 a2.From.N), w2_0, w2_1, (.int .i64 a2.To.Kind), (.int .i64 a2.To.N), w2_2, w2_3]) A26 Try.underlying76 z76 rfl rfl rfl rfl rfl rfl rfl rfl) rfl (pq_cons (pu_q rfl rfl rfl rfl rfl rfl) rfl (pq_cons (mv_q w0_0 rfl rfl rfl rfl rfl rfl) rfl pq_nil))) (by kernel_rfl) rfl (fun l25 e25 zd25 => ?_)
   have K27 := ((K13.st p17 rfl).st p20 rfl)
   have A28 := (A0_0.kp K27)
   refine cl rfl rfl rfl rfl rfl Try.func36 rfl rfl rfl (fun r29 m29 => laws_toTrackS.calls a0 s20.w (fun b => memb [0] (s20.g b) = true) w0_0 A28 r29 m29) ?_
   rintro r29 v29_0 w29 m29 ⟨f29_0, ky29⟩
   obtain ⟨s30, rfl, p30, n30⟩ := nwx s20 w29 43 ky29
   have A29_0 := f29_0.c n30
   refine zdone (L' := [3, 2]) (D' := [0, 1]) zd25 rfl rfl rfl (fun zd32 => ?_)
   have A34 := (BlF.st (BlF.st (BlF.st A12 p17 rfl) p20 rfl) p30 rfl)
   refine zstep 4 [some 32] tb20 zd32 (pq_cons (lda_q (es := [(.int .i64 a2.From.Kind), (.int .i64 a2.From.N), w2_0, w2_1, (.int .i64 a2.To.Kind), (.int .i64 a2.To.N), w2_2, w2_3]) A34 Try.underlying76 z76 rfl rfl rfl rfl rfl rfl rfl rfl) rfl (pq_cons (pu_q rfl rfl rfl rfl rfl rfl) rfl pq_nil)) (by kernel_rfl) rfl (fun l33 e33 zd33 => ?_)
   have K35 := (K27.st p30 rfl)
   have A36 := (A2_1.kp K35)
   have A37 := (A2_3.kp K35)
   refine cl rfl rfl rfl rfl rfl Try.func42 rfl rfl rfl (fun r38 m38 => laws_toSpan.calls a2 s30.w (fun b => memb [0] (s30.g b) = true) w2_0 w2_1 w2_2 w2_3 ((fl_rdf (s := s30) A2_0).sub (D := [0]) rfl) A36 ((fl_rdf (s := s30) A2_2).sub (D := [0]) rfl) A37 r38 m38) ?_
   rintro r38 _ w38 m38 ⟨v38_0, v38_1, v38_2, v38_3, rfl, f38_0, ky38⟩
   obtain ⟨s39, rfl, p39, n39⟩ := nwx s30 w38 44 ky38
   have A38_0 := f38_0.c n39
   obtain ⟨os38_0, ho38_0, hn38_0, hc38_0⟩ := A38_0
   obtain ⟨u38_0_0, u38_0_1, u38_0_2, u38_0_3, qu38_0_1, qu38_0_3, e38_0, eo38_0, hu38_0_0, hu38_0_1, hu38_0_2, hu38_0_3⟩ := po80 ho38_0
   have yu38_0_0 : v38_0 = u38_0_0 := congrArg (fun l => (List.drop 2 l).headD undef) e38_0
   have yu38_0_1 : v38_1 = u38_0_1 := congrArg (fun l => (List.drop 3 l).headD undef) e38_0
   have yu38_0_2 : v38_2 = u38_0_2 := congrArg (fun l => (List.drop 6 l).headD undef) e38_0
   have yu38_0_3 : v38_3 = u38_0_3 := congrArg (fun l => (List.drop 7 l).headD undef) e38_0
   subst yu38_0_0
   subst yu38_0_1
   subst yu38_0_2
   subst yu38_0_3
   subst eo38_0
   obtain ⟨s40, hw40, p40, Au38_0_1, hn40, hc40⟩ := sp2 45 hu38_0_1 hn38_0 hc38_0 rfl
   rw [hw40]
   have Au38_0_3 : OwF (Kd.sl 5 (Kd.int .u8)) s40 [v38_3] r38.To.T 45 := sp1 (hw40 ▸ hu38_0_3) hn40 hc40
   refine zdone (L' := [2]) (D' := [3, 4, 0, 1]) zd33 rfl rfl rfl (fun zd43 => ?_)
   refine zstep 5 [] tb20 zd43 (pq_cons (pu_q rfl rfl rfl rfl rfl rfl) rfl pq_nil) (by kernel_rfl) rfl (fun l44 e44 zd44 => ?_)
   have A45 := ((A29_0.st p39 rfl).st p40 rfl)
   refine cl rfl rfl rfl rfl rfl Try.func41 rfl rfl rfl (fun r46 m46 => spec_EdgeRead.calls r29 a1 r38 s40.w (fun b => memb [43, 44, 45] (s40.g b) = true) v29_0 v38_0 v38_1 v38_2 v38_3 (A45.rd.sub (D := [43, 44, 45]) rfl) ((fl_rdf (s := s40) hu38_0_0).sub (D := [43, 44, 45]) rfl) (Au38_0_1.rd.sub (D := [43, 44, 45]) rfl) ((fl_rdf (s := s40) hu38_0_2).sub (D := [43, 44, 45]) rfl) (Au38_0_3.rd.sub (D := [43, 44, 45]) rfl) r46 m46) ?_
   rintro r46 _ w46 m46 ⟨v46_0, rfl, f46_0, ky46⟩
   obtain ⟨s47, rfl, p47, n47⟩ := nwx s40 w46 46 ky46
   have A46_0 := f46_0.c n47
   refine zdone (L' := []) (D' := [2, 5, 3, 4, 0, 1]) zd44 rfl rfl rfl (fun zd49 => ?_)
   have zd50 := zd49.add 6 29 (.tuple #[v46_0, (.int .i64 r46.2)]) rfl
   have zd51 := zd50.add 7 36 v46_0 rfl
   have zd52 := zd51.add 8 37 (.int .i64 r46.2) rfl
   have zd53 := zd52.add 9 8 v46_0 rfl
   refine zfin [10] tb20 zd53 (pq_cons (asg_q v46_0 rfl rfl rfl rfl rfl rfl) rfl (pq_cons (pu_q (v := (.int .i64 r46.2)) rfl rfl rfl rfl rfl rfl) rfl (pq_cons (pu_q (v := v46_0) rfl rfl rfl rfl rfl rfl) rfl (pq_cons (pu_q rfl rfl rfl rfl rfl rfl) rfl pq_nil)))) (by kernel_rfl) (by decide) ?_
   refine pu rfl rfl rfl rfl rfl ?_
   refine dn ?_
   refine sr ?_
   refine mv w0_0 rfl rfl rfl rfl rfl rfl ?_
   have K54 := (((K35.st p39 rfl).st p40 rfl).st p47 rfl)
   have A55 := (A0_0.kp K54)
   refine cl rfl rfl rfl rfl rfl Try.func36 rfl rfl rfl (fun r56 m56 => laws_toTrackS.calls a0 s47.w (fun b => memb [0] (s47.g b) = true) w0_0 A55 r56 m56) ?_
   rintro r56 v56_0 w56 m56 ⟨f56_0, ky56⟩
   obtain ⟨s57, rfl, p57, n57⟩ := nwx s47 w56 47 ky56
   have A56_0 := f56_0.c n57
   refine asg v56_0 rfl rfl rfl rfl rfl rfl ?_
   refine dn ?_
   refine sr ?_
   have A59 := (BlF.st (BlF.st (BlF.st (BlF.st (BlF.st (BlF.st (BlF.st A12 p17 rfl) p20 rfl) p30 rfl) p39 rfl) p40 rfl) p47 rfl) p57 rfl)
   refine lda (es := [(.int .i64 a2.From.Kind), (.int .i64 a2.From.N), w2_0, w2_1, (.int .i64 a2.To.Kind), (.int .i64 a2.To.N), w2_2, w2_3]) A59 Try.underlying76 z76 rfl rfl rfl rfl rfl rfl rfl rfl ?_
   have K60 := (K54.st p57 rfl)
   have A61 := (A2_1.kp K60)
   have A62 := (A2_3.kp K60)
   refine cl rfl rfl rfl rfl rfl Try.func42 rfl rfl rfl (fun r63 m63 => laws_toSpan.calls a2 s57.w (fun b => memb [0] (s57.g b) = true) w2_0 w2_1 w2_2 w2_3 ((fl_rdf (s := s57) A2_0).sub (D := [0]) rfl) A61 ((fl_rdf (s := s57) A2_2).sub (D := [0]) rfl) A62 r63 m63) ?_
   rintro r63 _ w63 m63 ⟨v63_0, v63_1, v63_2, v63_3, rfl, f63_0, ky63⟩
   obtain ⟨s64, rfl, p64, n64⟩ := nwx s57 w63 48 ky63
   have A63_0 := f63_0.c n64
   obtain ⟨os63_0, ho63_0, hn63_0, hc63_0⟩ := A63_0
   obtain ⟨u63_0_0, u63_0_1, u63_0_2, u63_0_3, qu63_0_1, qu63_0_3, e63_0, eo63_0, hu63_0_0, hu63_0_1, hu63_0_2, hu63_0_3⟩ := po80 ho63_0
   have yu63_0_0 : v63_0 = u63_0_0 := congrArg (fun l => (List.drop 2 l).headD undef) e63_0
   have yu63_0_1 : v63_1 = u63_0_1 := congrArg (fun l => (List.drop 3 l).headD undef) e63_0
   have yu63_0_2 : v63_2 = u63_0_2 := congrArg (fun l => (List.drop 6 l).headD undef) e63_0
   have yu63_0_3 : v63_3 = u63_0_3 := congrArg (fun l => (List.drop 7 l).headD undef) e63_0
   subst yu63_0_0
   subst yu63_0_1
   subst yu63_0_2
   subst yu63_0_3
   subst eo63_0
   obtain ⟨s65, hw65, p65, Au63_0_1, hn65, hc65⟩ := sp2 49 hu63_0_1 hn63_0 hc63_0 rfl
   rw [hw65]
   have Au63_0_3 : OwF (Kd.sl 5 (Kd.int .u8)) s65 [v63_3] r63.To.T 49 := sp1 (hw65 ▸ hu63_0_3) hn65 hc65
   refine al (cs := [(.int .i64 (0 : Int)), (.int .i64 (0 : Int)), (.float .f64 0), (.slice none 0 0), (.int .i64 (0 : Int)), (.int .i64 (0 : Int)), (.float .f64 0), (.slice none 0 0)]) 50 rfl rfl rfl rfl rfl o80 rfl (fun b68 s68 p68 B68 => ?_)
   have A70 := (Au63_0_3.st p68 rfl)
   have A71 := (Au63_0_1.st p68 rfl)
   refine sva (vs := [(.int .i64 r63.From.Kind), (.int .i64 r63.From.N), v63_0, v63_1, (.int .i64 r63.To.Kind), (.int .i64 r63.To.N), v63_2, v63_3]) B68 z80 rfl rfl rfl rfl rfl rfl (on_cons rfl (on_cons rfl (on_cons (FL.one hu63_0_0) (on_cons A71.rd.one (on_cons rfl (on_cons rfl (on_cons (FL.one hu63_0_2) (on_cons A70.rd.one on_nil)))))))) rfl (fun s72 p72 B72 => ?_)
   refine dn ?_
   refine sr ?_
   refine mv v56_0 rfl rfl rfl rfl rfl rfl ?_
   refine pu rfl rfl rfl rfl rfl ?_
   refine lda (es := [(.int .i64 r63.From.Kind), (.int .i64 r63.From.N), v63_0, v63_1, (.int .i64 r63.To.Kind), (.int .i64 r63.To.N), v63_2, v63_3]) B72 Try.underlying80 z80 rfl rfl rfl rfl rfl rfl rfl rfl ?_
   have A74 := ((((A56_0.st p64 rfl).st p65 rfl).st p68 rfl).st p72 rfl)
   have A75 := (A71.st p72 rfl)
   have A76 := (A70.st p72 rfl)
   refine cl rfl rfl rfl rfl rfl Try.func43 rfl rfl rfl (fun r77 m77 => impl_EdgeRead.calls r56 a1 r63 s72.w (fun b => memb [47, 48, 49] (s72.g b) = true) v56_0 v63_0 v63_1 v63_2 v63_3 (A74.rd.sub (D := [47, 48, 49]) rfl) ((fl_rdf (s := s72) hu63_0_0).sub (D := [47, 48, 49]) rfl) (A75.rd.sub (D := [47, 48, 49]) rfl) ((fl_rdf (s := s72) hu63_0_2).sub (D := [47, 48, 49]) rfl) (A76.rd.sub (D := [47, 48, 49]) rfl) r77 m77) ?_
   rintro r77 _ w77 m77 ⟨v77_0, rfl, f77_0, ky77⟩
   obtain ⟨s78, rfl, p78, n78⟩ := nwx s72 w77 51 ky77
   have A77_0 := f77_0.c n78
   refine pu rfl rfl rfl rfl rfl ?_
   refine pu (v := v77_0) rfl rfl rfl rfl rfl ?_
   refine pu (v := (.int .i64 r77.2)) rfl rfl rfl rfl rfl ?_
   refine asg v77_0 rfl rfl rfl rfl rfl rfl ?_
   refine pu rfl rfl rfl rfl rfl ?_
   refine dn ?_
   refine sq ?_
   refine sr ?_
   refine mv v77_0 rfl rfl rfl rfl rfl rfl ?_
   refine mv v46_0 rfl rfl rfl rfl rfl rfl ?_
   have A80 := ((((((A46_0.st p57 rfl).st p64 rfl).st p65 rfl).st p68 rfl).st p72 rfl).st p78 rfl)
   refine cl rfl rfl rfl rfl rfl Try.func37 rfl rfl rfl (fun r81 m81 => laws_eqTrackS.calls r77.1 r46.1 s78.w (fun b => memb [51, 46, 43, 44, 45] (s78.g b) = true) v77_0 v46_0 (A77_0.rd.sub (D := [51, 46, 43, 44, 45]) rfl) (A80.sub (D := [51, 46, 43, 44, 45]) rfl) r81 m81) ?_
   rintro r81 _ w81 m81 ⟨rfl, ky81⟩
   obtain ⟨s82, rfl, p82, n82⟩ := nwx s78 w81 52 ky81
   refine pu rfl rfl rfl rfl rfl ?_
   refine pu rfl rfl rfl rfl rfl ?_
   refine jy [53, 54, 55, 56, 57] [] 57 (.bool ((!r81) || (r77.2 != r46.2))) rfl (fun Kg83 => ?_) (fun j83 => ?_)
   ·
    rcases Bool.eq_false_or_eq_true (!r81) with hb83 | hb83
    ·
     refine sbT hb83 ?_
     refine uw rfl rfl rfl rfl ?_
     refine uw rfl rfl rfl rfl ?_
     refine uw rfl rfl rfl rfl ?_
     refine pu rfl rfl rfl rfl rfl ?_
     exact Kg83 _ (Ag.put ((Ag.put ((Ag.put ((Ag.put (Ag.base rfl) rfl)) rfl)) rfl)) rfl) (by rw [hb83]; rfl)
    ·
     refine sbT hb83 ?_
     refine pu rfl rfl rfl rfl rfl ?_
     refine pu rfl rfl rfl rfl rfl ?_
     refine pu rfl rfl rfl rfl rfl ?_
     refine pu rfl rfl rfl rfl rfl ?_
     exact Kg83 _ (Ag.put ((Ag.put ((Ag.put ((Ag.put (Ag.base rfl) rfl)) rfl)) rfl)) rfl) (by rw [hb83]; rfl)
   refine dn ?_
   refine cd rfl (fun h84 => ?_) (fun h84 => ?_)
   ·
    refine sr ?_
    refine pu rfl rfl rfl rfl rfl ?_
    refine dn ?_
    have K85 := ((((((K60.st p64 rfl).st p65 rfl).st p68 rfl).st p72 rfl).st p78 rfl).st p82 rfl)
    exact re rfl Try.func7 rfl (r_t rfl r_nil) rfl ⟨_, rfl, rfl, z.ky K85⟩
   ·
    refine sk ?_
    refine sq ?_
    refine sr ?_
    refine mv v56_0 rfl rfl rfl rfl rfl rfl ?_
    refine mv w0_0 rfl rfl rfl rfl rfl rfl ?_
    have K86 := ((((((K60.st p64 rfl).st p65 rfl).st p68 rfl).st p72 rfl).st p78 rfl).st p82 rfl)
    have A87 := (A0_0.kp K86)
    refine cl rfl rfl rfl rfl rfl Try.func36 rfl rfl rfl (fun r88 m88 => laws_toTrackS.calls a0 s82.w (fun b => memb [0] (s82.g b) = true) w0_0 A87 r88 m88) ?_
    rintro r88 v88_0 w88 m88 ⟨f88_0, ky88⟩
    obtain ⟨s89, rfl, p89, n89⟩ := nwx s82 w88 53 ky88
    have A88_0 := f88_0.c n89
    have A91 := (((A74.st p78 rfl).st p82 rfl).st p89 rfl)
    refine cl rfl rfl rfl rfl rfl Try.func37 rfl rfl rfl (fun r92 m92 => laws_eqTrackS.calls r56 r88 s89.w (fun b => memb [47, 53] (s89.g b) = true) v56_0 v88_0 (A91.rd.sub (D := [47, 53]) rfl) (A88_0.rd.sub (D := [47, 53]) rfl) r92 m92) ?_
    rintro r92 _ w92 m92 ⟨rfl, ky92⟩
    obtain ⟨s93, rfl, p93, n93⟩ := nwx s89 w92 54 ky92
    refine pu rfl rfl rfl rfl rfl ?_
    refine dn ?_
    refine cd rfl (fun h94 => ?_) (fun h94 => ?_)
    ·
     refine sr ?_
     refine pu rfl rfl rfl rfl rfl ?_
     refine dn ?_
     have K95 := ((K86.st p89 rfl).st p93 rfl)
     exact re rfl Try.func7 rfl (r_t rfl r_nil) rfl ⟨_, rfl, rfl, z.ky K95⟩
    ·
     refine sk ?_
     refine sq ?_
     refine sq ?_
     refine zdraw [[], [], [1], [0, 2, 2], [3]] [some 63, some 64, some 65, some 66, some 67] [[11], [5], [64], [63, 65], [66]] [0, 1, 2, 3, 4] ⟨by kernel_rfl, by kernel_rfl, by kernel_rfl⟩ (by kernel_rfl) (fun s96 p96 l96 tb96 zd96 => ?_)
     have A97 := (BlF.st (BlF.st (BlF.st (BlF.st (BlF.st B72 p78 rfl) p82 rfl) p89 rfl) p93 rfl) p96 rfl)
     have zd98 := zd96.add 0 63 (.agg #[(.int .i64 r63.From.Kind), (.int .i64 r63.From.N), v63_0, v63_1, (.int .i64 r63.To.Kind), (.int .i64 r63.To.N), v63_2, v63_3]) rfl
     have A99 := (BlF.st (BlF.st (BlF.st (BlF.st (BlF.st (BlF.st (BlF.st (BlF.st (BlF.st A59 p64 rfl) p65 rfl) p68 rfl) p72 rfl) p78 rfl) p82 rfl) p89 rfl) p93 rfl) p96 rfl)
     have zd100 := zd98.add 1 64 (.agg #[(.int .i64 a2.From.Kind), (.int .i64 a2.From.N), w2_0, w2_1, (.int .i64 a2.To.Kind), (.int .i64 a2.To.N), w2_2, w2_3]) rfl
     have A102 := (BlF.st (BlF.st (BlF.st (BlF.st (BlF.st B72 p78 rfl) p82 rfl) p89 rfl) p93 rfl) p96 rfl)
     have A103 := (BlF.st (BlF.st (BlF.st (BlF.st (BlF.st (BlF.st (BlF.st (BlF.st (BlF.st A59 p64 rfl) p65 rfl) p68 rfl) p72 rfl) p78 rfl) p82 rfl) p89 rfl) p93 rfl) p96 rfl)
     refine zstep 2 [some 63] tb96 zd100 (pq_cons (lda_q (es := [(.int .i64 a2.From.Kind), (.int .i64 a2.From.N), w2_0, w2_1, (.int .i64 a2.To.Kind), (.int .i64 a2.To.N), w2_2, w2_3]) A103 Try.underlying76 z76 rfl rfl rfl rfl rfl rfl rfl rfl) rfl (pq_cons (lda_q (es := [(.int .i64 r63.From.Kind), (.int .i64 r63.From.N), v63_0, v63_1, (.int .i64 r63.To.Kind), (.int .i64 r63.To.N), v63_2, v63_3]) A102 Try.underlying80 z80 rfl rfl rfl rfl rfl rfl rfl rfl) rfl pq_nil)) (by kernel_rfl) rfl (fun l101 e101 zd101 => ?_)
     have K104 := (((K86.st p89 rfl).st p93 rfl).st p96 rfl)
     have A105 := (A2_1.kp K104)
     have A106 := (A2_3.kp K104)
     refine cl rfl rfl rfl rfl rfl Try.func42 rfl rfl rfl (fun r107 m107 => laws_toSpan.calls a2 s96.w (fun b => memb [0] (s96.g b) = true) w2_0 w2_1 w2_2 w2_3 ((fl_rdf (s := s96) A2_0).sub (D := [0]) rfl) A105 ((fl_rdf (s := s96) A2_2).sub (D := [0]) rfl) A106 r107 m107) ?_
     rintro r107 _ w107 m107 ⟨v107_0, v107_1, v107_2, v107_3, rfl, f107_0, ky107⟩
     obtain ⟨s108, rfl, p108, n108⟩ := nwx s96 w107 55 ky107
     have A107_0 := f107_0.c n108
     obtain ⟨os107_0, ho107_0, hn107_0, hc107_0⟩ := A107_0
     obtain ⟨u107_0_0, u107_0_1, u107_0_2, u107_0_3, qu107_0_1, qu107_0_3, e107_0, eo107_0, hu107_0_0, hu107_0_1, hu107_0_2, hu107_0_3⟩ := po80 ho107_0
     have yu107_0_0 : v107_0 = u107_0_0 := congrArg (fun l => (List.drop 2 l).headD undef) e107_0
     have yu107_0_1 : v107_1 = u107_0_1 := congrArg (fun l => (List.drop 3 l).headD undef) e107_0
     have yu107_0_2 : v107_2 = u107_0_2 := congrArg (fun l => (List.drop 6 l).headD undef) e107_0
     have yu107_0_3 : v107_3 = u107_0_3 := congrArg (fun l => (List.drop 7 l).headD undef) e107_0
     subst yu107_0_0
     subst yu107_0_1
     subst yu107_0_2
     subst yu107_0_3
     subst eo107_0
     obtain ⟨s109, hw109, p109, Au107_0_1, hn109, hc109⟩ := sp2 56 hu107_0_1 hn107_0 hc107_0 rfl
     rw [hw109]
     have Au107_0_3 : OwF (Kd.sl 5 (Kd.int .u8)) s109 [v107_3] r107.To.T 56 := sp1 (hw109 ▸ hu107_0_3) hn109 hc109
     refine zdone (L' := [0]) (D' := [1, 2]) zd101 rfl rfl rfl (fun zd112 => ?_)
     have A113 := (BlF.st (BlF.st (BlF.st (BlF.st (BlF.st (BlF.st (BlF.st B72 p78 rfl) p82 rfl) p89 rfl) p93 rfl) p96 rfl) p108 rfl) p109 rfl)
     refine zfin [3, 4] tb96 zd112 (pq_cons (lda_q (es := [(.int .i64 r63.From.Kind), (.int .i64 r63.From.N), v63_0, v63_1, (.int .i64 r63.To.Kind), (.int .i64 r63.To.N), v63_2, v63_3]) A113 Try.underlying80 z80 rfl rfl rfl rfl rfl rfl rfl rfl) rfl pq_nil) (by kernel_rfl) (by decide) ?_
     have A114 := (((((((A75.st p78 rfl).st p82 rfl).st p89 rfl).st p93 rfl).st p96 rfl).st p108 rfl).st p109 rfl)
     have A115 := (((((((A76.st p78 rfl).st p82 rfl).st p89 rfl).st p93 rfl).st p96 rfl).st p108 rfl).st p109 rfl)
     refine cl rfl rfl rfl rfl rfl Try.func44 rfl rfl rfl (fun r116 m116 => laws_eqSpan.calls r63 r107 s109.w (fun b => memb [48, 49, 55, 56] (s109.g b) = true) v63_0 v63_1 v63_2 v63_3 v107_0 v107_1 v107_2 v107_3 ((fl_rdf (s := s109) hu63_0_0).sub (D := [48, 49, 55, 56]) rfl) (A114.rd.sub (D := [48, 49, 55, 56]) rfl) ((fl_rdf (s := s109) hu63_0_2).sub (D := [48, 49, 55, 56]) rfl) (A115.rd.sub (D := [48, 49, 55, 56]) rfl) ((fl_rdf (s := s109) hu107_0_0).sub (D := [48, 49, 55, 56]) rfl) (Au107_0_1.rd.sub (D := [48, 49, 55, 56]) rfl) ((fl_rdf (s := s109) hu107_0_2).sub (D := [48, 49, 55, 56]) rfl) (Au107_0_3.rd.sub (D := [48, 49, 55, 56]) rfl) r116 m116) ?_
     rintro r116 _ w116 m116 ⟨rfl, ky116⟩
     obtain ⟨s117, rfl, p117, n117⟩ := nwx s109 w116 57 ky116
     refine pu rfl rfl rfl rfl rfl ?_
     refine dn ?_
     refine cd rfl (fun h118 => ?_) (fun h118 => ?_)
     ·
      refine sr ?_
      refine pu rfl rfl rfl rfl rfl ?_
      refine dn ?_
      have K119 := (((K104.st p108 rfl).st p109 rfl).st p117 rfl)
      exact re rfl Try.func7 rfl (r_t rfl r_nil) rfl ⟨_, rfl, rfl, z.ky K119⟩
     ·
      refine sk ?_
      refine sr ?_
      refine pu rfl rfl rfl rfl rfl ?_
      refine dn ?_
      refine sr ?_
      refine mv v56_0 rfl rfl rfl rfl rfl rfl ?_
      refine pu rfl rfl rfl rfl rfl ?_
      have A121 := (((((A91.st p93 rfl).st p96 rfl).st p108 rfl).st p109 rfl).st p117 rfl)
      obtain ⟨os120, ho120, hn120, hc120⟩ := A121
      refine cl rfl rfl rfl rfl rfl Try.func38 rfl rfl rfl (fun r120 m120 => laws_markTrackS.calls r56 (1 : Int) s117.w (fun b => memb [] (s117.g b) = true) v56_0 os120 ho120 hn120 (apart_of hc120 rfl) r120 m120) ?_
      rintro r120 _ w120 m120 ⟨rfl, w120_, ky120⟩
      obtain ⟨s122, rfl, p122, A122⟩ := nwo 58 hc120 ky120 w120_
      refine pu rfl rfl rfl rfl rfl ?_
      refine dn ?_
      refine sr ?_
      have A124 := (BlF.st (BlF.st (BlF.st (BlF.st (BlF.st (BlF.st (BlF.st (BlF.st (BlF.st B72 p78 rfl) p82 rfl) p89 rfl) p93 rfl) p96 rfl) p108 rfl) p109 rfl) p117 rfl) p122 rfl)
      refine lda (es := [(.int .i64 r63.From.Kind), (.int .i64 r63.From.N), v63_0, v63_1, (.int .i64 r63.To.Kind), (.int .i64 r63.To.N), v63_2, v63_3]) A124 Try.underlying80 z80 rfl rfl rfl rfl rfl rfl rfl rfl ?_
      refine pu rfl rfl rfl rfl rfl ?_
      have A125 := ((A114.st p117 rfl).st p122 rfl)
      have A126 := ((A115.st p117 rfl).st p122 rfl)
      obtain ⟨s127, hw127, p127, A127⟩ := ow_2 (ow_isoz (fun x : Item => (x.Kind, x.N, x.F, x.T)) r63.From (ow_l (fz_int .i64 r63.From.Kind) (ow_l (fz_int .i64 r63.From.N) (ow_l (fz_flt hu63_0_0) A125)))) (ow_isoz (fun x : Item => (x.Kind, x.N, x.F, x.T)) r63.To (ow_l (fz_int .i64 r63.To.Kind) (ow_l (fz_int .i64 r63.To.N) (ow_l (fz_flt hu63_0_2) A126)))) rfl rfl
      rw [hw127]
      have A129 : OwF kd80 s127 [(.int .i64 r63.From.Kind), (.int .i64 r63.From.N), v63_0, v63_1, (.int .i64 r63.To.Kind), (.int .i64 r63.To.N), v63_2, v63_3] r63 48 := (ow_isoz (fun x : Span => (x.From, x.To)) r63 A127)
      obtain ⟨os131, ho131, hn131, hc131⟩ := A129
      refine cl rfl rfl rfl rfl rfl Try.func45 rfl rfl rfl (fun r131 m131 => laws_markSpan.calls r63 r120.1 s127.w (fun b => memb [] (s127.g b) = true) v63_0 v63_1 v63_2 v63_3 os131 ho131 hn131 (apart_of hc131 rfl) r131 m131) ?_
      rintro r131 _ w131 m131 ⟨rfl, w131_, ky131⟩
      obtain ⟨s132, rfl, p132, A132⟩ := nwo 59 hc131 ky131 w131_
      obtain ⟨os131_w, ho131_w, hn131_w, hc131_w⟩ := A132
      obtain ⟨u131_w_0, u131_w_1, u131_w_2, u131_w_3, qu131_w_1, qu131_w_3, e131_w, eo131_w, hu131_w_0, hu131_w_1, hu131_w_2, hu131_w_3⟩ := po80 ho131_w
      have yu131_w_0 : v63_0 = u131_w_0 := congrArg (fun l => (List.drop 2 l).headD undef) e131_w
      have yu131_w_1 : v63_1 = u131_w_1 := congrArg (fun l => (List.drop 3 l).headD undef) e131_w
      have yu131_w_2 : v63_2 = u131_w_2 := congrArg (fun l => (List.drop 6 l).headD undef) e131_w
      have yu131_w_3 : v63_3 = u131_w_3 := congrArg (fun l => (List.drop 7 l).headD undef) e131_w
      subst yu131_w_0
      subst yu131_w_1
      subst yu131_w_2
      subst yu131_w_3
      subst eo131_w
      obtain ⟨s133, hw133, p133, Au131_w_1, hn133, hc133⟩ := sp2 60 hu131_w_1 hn131_w hc131_w rfl
      rw [hw133]
      have Au131_w_3 : OwF (Kd.sl 5 (Kd.int .u8)) s133 [v63_3] r131.2.To.T 60 := sp1 (hw133 ▸ hu131_w_3) hn133 hc133
      refine pu rfl rfl rfl rfl rfl ?_
      refine dn ?_
      refine sq ?_
      refine sr ?_
      refine pu rfl rfl rfl rfl rfl ?_
      refine pu rfl rfl rfl rfl rfl ?_
      refine pu rfl rfl rfl rfl rfl ?_
      refine ji [8, 9, 10, 11, 12] (fun (y136 : Bool) (e : Env) (w : World) => ∃ (s : St) (e0 : Env), w = s.w ∧ e = upd (upd (upd (upd (upd (upd (upd (upd e0 0 w0_0) 1 (.int .i64 a1)) 5 (.pointer (some ⟨b4, 0, none⟩))) 8 v46_0) 9 (.int .i64 r46.2)) 12 v77_0) 13 (.int .i64 r77.2)) 81 (.bool y136) ∧ Kp s0 s ∧ BlF s b4 76 [(.int .i64 a2.From.Kind), (.int .i64 a2.From.N), w2_0, w2_1, (.int .i64 a2.To.Kind), (.int .i64 a2.To.N), w2_2, w2_3] 40 ∧ RdF (Kd.sl 59 kd59) s [v46_0] r46.1 [46, 43, 44, 45] ∧ OwF (Kd.sl 59 kd59) s [v77_0] r77.1 51) (fun Gj136 Kj136 => ?_) ?_
      ·
       rcases Bool.eq_false_or_eq_true (decide (r131.1 < (0 : Int))) with hb136 | hb136
       ·
        refine sbT hb136 ?_
        rw [if_pos hb136]
        refine uw rfl rfl rfl rfl ?_
        refine uw rfl rfl rfl rfl ?_
        refine uw rfl rfl rfl rfl ?_
        refine uw rfl rfl rfl rfl ?_
        refine pu rfl rfl rfl rfl rfl ?_
        have A137 := (BlF.st (BlF.st (BlF.st (BlF.st (BlF.st (BlF.st (BlF.st (BlF.st (BlF.st (BlF.st (BlF.st (BlF.st (BlF.st (BlF.st (BlF.st (BlF.st A59 p64 rfl) p65 rfl) p68 rfl) p72 rfl) p78 rfl) p82 rfl) p89 rfl) p93 rfl) p96 rfl) p108 rfl) p109 rfl) p117 rfl) p122 rfl) p127 rfl) p132 rfl) p133 rfl)
        have A138 := (((((((((((A80.st p82 rfl).st p89 rfl).st p93 rfl).st p96 rfl).st p108 rfl).st p109 rfl).st p117 rfl).st p122 rfl).st p127 rfl).st p132 rfl).st p133 rfl)
        have A139 := (((((((((((A77_0.st p82 rfl).st p89 rfl).st p93 rfl).st p96 rfl).st p108 rfl).st p109 rfl).st p117 rfl).st p122 rfl).st p127 rfl).st p132 rfl).st p133 rfl)
        have K140 := (((((((K104.st p108 rfl).st p109 rfl).st p117 rfl).st p122 rfl).st p127 rfl).st p132 rfl).st p133 rfl)
        exact Kj136 _ _ _ ⟨s133, _, rfl, (ue (ue (ue (ue (ue (ue (ue (ue rfl rfl) rfl) rfl) rfl) rfl) rfl) rfl) rfl), K140, A137, A138, A139⟩
       ·
        refine sbT hb136 ?_
        rw [if_neg (by rw [hb136]; decide)]
        refine mv v77_0 rfl rfl rfl rfl rfl rfl ?_
        refine mv v46_0 rfl rfl rfl rfl rfl rfl ?_
        have A141 := (((((((((((A77_0.st p82 rfl).st p89 rfl).st p93 rfl).st p96 rfl).st p108 rfl).st p109 rfl).st p117 rfl).st p122 rfl).st p127 rfl).st p132 rfl).st p133 rfl)
        have A142 := (((((((((((A80.st p82 rfl).st p89 rfl).st p93 rfl).st p96 rfl).st p108 rfl).st p109 rfl).st p117 rfl).st p122 rfl).st p127 rfl).st p132 rfl).st p133 rfl)
        refine cl rfl rfl rfl rfl rfl Try.func37 rfl rfl rfl (fun r143 m143 => laws_eqTrackS.calls r77.1 r46.1 s133.w (fun b => memb [51, 46, 43, 44, 45] (s133.g b) = true) v77_0 v46_0 (A141.rd.sub (D := [51, 46, 43, 44, 45]) rfl) (A142.sub (D := [51, 46, 43, 44, 45]) rfl) r143 m143) ?_
        rintro r143 _ w143 m143 ⟨rfl, ky143⟩
        obtain ⟨s144, rfl, p144, n144⟩ := nwx s133 w143 61 ky143
        refine pu rfl rfl rfl rfl rfl ?_
        refine pu rfl rfl rfl rfl rfl ?_
        have A145 := (BlF.st (BlF.st (BlF.st (BlF.st (BlF.st (BlF.st (BlF.st (BlF.st (BlF.st (BlF.st (BlF.st (BlF.st (BlF.st (BlF.st (BlF.st (BlF.st (BlF.st A59 p64 rfl) p65 rfl) p68 rfl) p72 rfl) p78 rfl) p82 rfl) p89 rfl) p93 rfl) p96 rfl) p108 rfl) p109 rfl) p117 rfl) p122 rfl) p127 rfl) p132 rfl) p133 rfl) p144 rfl)
        have A146 := (A142.st p144 rfl)
        have A147 := (A141.st p144 rfl)
        have K148 := ((((((((K104.st p108 rfl).st p109 rfl).st p117 rfl).st p122 rfl).st p127 rfl).st p132 rfl).st p133 rfl).st p144 rfl)
        exact Kj136 _ _ _ ⟨s144, _, rfl, (ue (ue (ue (ue (ue (ue (ue (ue rfl rfl) rfl) rfl) rfl) rfl) rfl) rfl) rfl), K148, A145, A146, A147⟩
      rintro y136 _ _ ⟨s149, _, rfl, rfl, Ky136, By136_b4, Cy136_48, Cy136_79⟩
      refine pu rfl rfl rfl rfl rfl ?_
      refine jy [82, 83, 84, 85, 86] [] 86 (.bool (y136 || (r77.2 != r46.2))) rfl (fun Kg151 => ?_) (fun j151 => ?_)
      ·
       rcases Bool.eq_false_or_eq_true y136 with hb151 | hb151
       ·
        refine sbT hb151 ?_
        refine uw rfl rfl rfl rfl ?_
        refine uw rfl rfl rfl rfl ?_
        refine uw rfl rfl rfl rfl ?_
        refine pu rfl rfl rfl rfl rfl ?_
        exact Kg151 _ (Ag.put ((Ag.put ((Ag.put ((Ag.put (Ag.base rfl) rfl)) rfl)) rfl)) rfl) (by rw [hb151]; rfl)
       ·
        refine sbT hb151 ?_
        refine pu rfl rfl rfl rfl rfl ?_
        refine pu rfl rfl rfl rfl rfl ?_
        refine pu rfl rfl rfl rfl rfl ?_
        refine pu rfl rfl rfl rfl rfl ?_
        exact Kg151 _ (Ag.put ((Ag.put ((Ag.put ((Ag.put (Ag.base rfl) rfl)) rfl)) rfl)) rfl) (by rw [hb151]; rfl)
      refine dn ?_
      refine cd rfl (fun h152 => ?_) (fun h152 => ?_)
      ·
       refine sr ?_
       refine pu rfl rfl rfl rfl rfl ?_
       refine dn ?_
       exact re rfl Try.func7 rfl (r_t rfl r_nil) rfl ⟨_, rfl, rfl, z.ky Ky136⟩
      ·
       refine sk ?_
       refine sr ?_
       refine pu rfl rfl rfl rfl rfl ?_
       refine dn ?_
       refine sr ?_
       refine mv v77_0 rfl rfl rfl rfl rfl rfl ?_
       refine pu rfl rfl rfl rfl rfl ?_
       obtain ⟨os153, ho153, hn153, hc153⟩ := Cy136_79
       refine cl rfl rfl rfl rfl rfl Try.func38 rfl rfl rfl (fun r153 m153 => laws_markTrackS.calls r77.1 (1 : Int) s149.w (fun b => memb [] (s149.g b) = true) v77_0 os153 ho153 hn153 (apart_of hc153 rfl) r153 m153) ?_
       rintro r153 _ w153 m153 ⟨rfl, w153_, ky153⟩
       obtain ⟨s154, rfl, p154, A154⟩ := nwo 62 hc153 ky153 w153_
       refine pu rfl rfl rfl rfl rfl ?_
       refine dn ?_
       refine sr ?_
       refine pu rfl rfl rfl rfl rfl ?_
       refine dn ?_
       refine sr ?_
       refine mv v77_0 rfl rfl rfl rfl rfl rfl ?_
       refine pu rfl rfl rfl rfl rfl ?_
       refine cl rfl rfl rfl rfl rfl Try.func39 rfl rfl rfl (fun r156 m156 => laws_heldTrackS.calls r153.2 (1 : Int) s154.w (fun b => memb [51] (s154.g b) = true) v77_0 A154.rd r156 m156) ?_
       rintro r156 _ w156 m156 ⟨rfl, ky156⟩
       obtain ⟨s157, rfl, p157, n157⟩ := nwx s154 w156 63 ky156
       refine pu rfl rfl rfl rfl rfl ?_
       refine dn ?_
       refine sq ?_
       refine sr ?_
       refine pu rfl rfl rfl rfl rfl ?_
       refine pu rfl rfl rfl rfl rfl ?_
       refine dn ?_
       refine cd rfl (fun h158 => ?_) (fun h158 => ?_)
       ·
        refine sr ?_
        refine pu rfl rfl rfl rfl rfl ?_
        refine dn ?_
        have K159 := ((Ky136.st p154 rfl).st p157 rfl)
        exact re rfl Try.func7 rfl (r_t rfl r_nil) rfl ⟨_, rfl, rfl, z.ky K159⟩
       ·
        refine sk ?_
        refine sq ?_
        refine sr ?_
        refine pu rfl rfl rfl rfl rfl ?_
        refine pu rfl rfl rfl rfl rfl ?_
        refine pu rfl rfl rfl rfl rfl ?_
        refine dn ?_
        refine cd rfl (fun h160 => ?_) (fun h160 => ?_)
        ·
         refine sr ?_
         refine pu rfl rfl rfl rfl rfl ?_
         refine dn ?_
         have K161 := ((Ky136.st p154 rfl).st p157 rfl)
         exact re rfl Try.func7 rfl (r_t rfl r_nil) rfl ⟨_, rfl, rfl, z.ky K161⟩
        ·
         refine sk ?_
         refine sq ?_
         refine zdraw [[], [0], [], [], [3, 1], [1, 2, 4, 4], [5], [6], [6], [7, 5, 0, 1, 2, 3, 4, 5, 6, 7], [8, 9, 0, 1, 2, 3, 4, 5, 6, 7, 8, 9]] [some 99, some 100, some 101, some 102, some 103, some 104, some 98, some 105, some 106, some 17, some 18] [[0], [99], [1], [5], [102], [100, 101, 103], [104], [98], [98], [105], [106]] [0, 1, 2, 3, 4, 5, 6, 7, 9, 8, 10] ⟨by kernel_rfl, by kernel_rfl, by kernel_rfl⟩ (by kernel_rfl) (fun s162 p162 l162 tb162 zd162 => ?_)
         have zd163 := zd162.add 0 99 w0_0 rfl
         have zd164 := zd163.add 2 101 (.int .i64 a1) rfl
         have A165 := (BlF.st (BlF.st (BlF.st By136_b4 p154 rfl) p157 rfl) p162 rfl)
         have zd166 := zd164.add 3 102 (.agg #[(.int .i64 a2.From.Kind), (.int .i64 a2.From.N), w2_0, w2_1, (.int .i64 a2.To.Kind), (.int .i64 a2.To.N), w2_2, w2_3]) rfl
         have A168 := (BlF.st (BlF.st (BlF.st By136_b4 p154 rfl) p157 rfl) p162 rfl)
         refine zstep 1 [some 102, some 101] tb162 zd166 (pq_cons (lda_q (es := [(.int .i64 a2.From.Kind), (.int .i64 a2.From.N), w2_0, w2_1, (.int .i64 a2.To.Kind), (.int .i64 a2.To.N), w2_2, w2_3]) A168 Try.underlying76 z76 rfl rfl rfl rfl rfl rfl rfl rfl) rfl (pq_cons (pu_q rfl rfl rfl rfl rfl rfl) rfl (pq_cons (mv_q w0_0 rfl rfl rfl rfl rfl rfl) rfl pq_nil))) (by kernel_rfl) rfl (fun l167 e167 zd167 => ?_)
         have K169 := (((Ky136.st p154 rfl).st p157 rfl).st p162 rfl)
         have A170 := (A0_0.kp K169)
         refine cl rfl rfl rfl rfl rfl Try.func36 rfl rfl rfl (fun r171 m171 => laws_toTrackS.calls a0 s162.w (fun b => memb [0] (s162.g b) = true) w0_0 A170 r171 m171) ?_
         rintro r171 v171_0 w171 m171 ⟨f171_0, ky171⟩
         obtain ⟨s172, rfl, p172, n172⟩ := nwx s162 w171 64 ky171
         have A171_0 := f171_0.c n172
         refine zdone (L' := [3, 2]) (D' := [0, 1]) zd167 rfl rfl rfl (fun zd174 => ?_)
         have A176 := (BlF.st (BlF.st (BlF.st (BlF.st By136_b4 p154 rfl) p157 rfl) p162 rfl) p172 rfl)
         refine zstep 4 [some 101] tb162 zd174 (pq_cons (lda_q (es := [(.int .i64 a2.From.Kind), (.int .i64 a2.From.N), w2_0, w2_1, (.int .i64 a2.To.Kind), (.int .i64 a2.To.N), w2_2, w2_3]) A176 Try.underlying76 z76 rfl rfl rfl rfl rfl rfl rfl rfl) rfl (pq_cons (pu_q rfl rfl rfl rfl rfl rfl) rfl pq_nil)) (by kernel_rfl) rfl (fun l175 e175 zd175 => ?_)
         have K177 := (K169.st p172 rfl)
         have A178 := (A2_1.kp K177)
         have A179 := (A2_3.kp K177)
         refine cl rfl rfl rfl rfl rfl Try.func42 rfl rfl rfl (fun r180 m180 => laws_toSpan.calls a2 s172.w (fun b => memb [0] (s172.g b) = true) w2_0 w2_1 w2_2 w2_3 ((fl_rdf (s := s172) A2_0).sub (D := [0]) rfl) A178 ((fl_rdf (s := s172) A2_2).sub (D := [0]) rfl) A179 r180 m180) ?_
         rintro r180 _ w180 m180 ⟨v180_0, v180_1, v180_2, v180_3, rfl, f180_0, ky180⟩
         obtain ⟨s181, rfl, p181, n181⟩ := nwx s172 w180 65 ky180
         have A180_0 := f180_0.c n181
         obtain ⟨os180_0, ho180_0, hn180_0, hc180_0⟩ := A180_0
         obtain ⟨u180_0_0, u180_0_1, u180_0_2, u180_0_3, qu180_0_1, qu180_0_3, e180_0, eo180_0, hu180_0_0, hu180_0_1, hu180_0_2, hu180_0_3⟩ := po80 ho180_0
         have yu180_0_0 : v180_0 = u180_0_0 := congrArg (fun l => (List.drop 2 l).headD undef) e180_0
         have yu180_0_1 : v180_1 = u180_0_1 := congrArg (fun l => (List.drop 3 l).headD undef) e180_0
         have yu180_0_2 : v180_2 = u180_0_2 := congrArg (fun l => (List.drop 6 l).headD undef) e180_0
         have yu180_0_3 : v180_3 = u180_0_3 := congrArg (fun l => (List.drop 7 l).headD undef) e180_0
         subst yu180_0_0
         subst yu180_0_1
         subst yu180_0_2
         subst yu180_0_3
         subst eo180_0
         obtain ⟨s182, hw182, p182, Au180_0_1, hn182, hc182⟩ := sp2 66 hu180_0_1 hn180_0 hc180_0 rfl
         rw [hw182]
         have Au180_0_3 : OwF (Kd.sl 5 (Kd.int .u8)) s182 [v180_3] r180.To.T 66 := sp1 (hw182 ▸ hu180_0_3) hn182 hc182
         refine zdone (L' := [2]) (D' := [3, 4, 0, 1]) zd175 rfl rfl rfl (fun zd185 => ?_)
         refine zstep 5 [] tb162 zd185 (pq_cons (pu_q rfl rfl rfl rfl rfl rfl) rfl pq_nil) (by kernel_rfl) rfl (fun l186 e186 zd186 => ?_)
         have A187 := ((A171_0.st p181 rfl).st p182 rfl)
         refine cl rfl rfl rfl rfl rfl Try.func43 rfl rfl rfl (fun r188 m188 => impl_EdgeRead.calls r171 a1 r180 s182.w (fun b => memb [64, 65, 66] (s182.g b) = true) v171_0 v180_0 v180_1 v180_2 v180_3 (A187.rd.sub (D := [64, 65, 66]) rfl) ((fl_rdf (s := s182) hu180_0_0).sub (D := [64, 65, 66]) rfl) (Au180_0_1.rd.sub (D := [64, 65, 66]) rfl) ((fl_rdf (s := s182) hu180_0_2).sub (D := [64, 65, 66]) rfl) (Au180_0_3.rd.sub (D := [64, 65, 66]) rfl) r188 m188) ?_
         rintro r188 _ w188 m188 ⟨v188_0, rfl, f188_0, ky188⟩
         obtain ⟨s189, rfl, p189, n189⟩ := nwx s182 w188 67 ky188
         have A188_0 := f188_0.c n189
         refine zdone (L' := []) (D' := [2, 5, 3, 4, 0, 1]) zd186 rfl rfl rfl (fun zd191 => ?_)
         have zd192 := zd191.add 6 98 (.tuple #[v188_0, (.int .i64 r188.2)]) rfl
         have zd193 := zd192.add 7 105 v188_0 rfl
         have zd194 := zd193.add 8 106 (.int .i64 r188.2) rfl
         have zd195 := zd194.add 9 17 v188_0 rfl
         refine zfin [10] tb162 zd195 (pq_cons (asg_q v188_0 rfl rfl rfl rfl rfl rfl) rfl (pq_cons (pu_q (v := (.int .i64 r188.2)) rfl rfl rfl rfl rfl rfl) rfl (pq_cons (pu_q (v := v188_0) rfl rfl rfl rfl rfl rfl) rfl (pq_cons (pu_q rfl rfl rfl rfl rfl rfl) rfl pq_nil)))) (by kernel_rfl) (by decide) ?_
         refine pu rfl rfl rfl rfl rfl ?_
         refine dn ?_
         refine sq ?_
         refine sr ?_
         refine mv v188_0 rfl rfl rfl rfl rfl rfl ?_
         refine mv v46_0 rfl rfl rfl rfl rfl rfl ?_
         have A196 := (((((((Cy136_48.st p154 rfl).st p157 rfl).st p162 rfl).st p172 rfl).st p181 rfl).st p182 rfl).st p189 rfl)
         refine cl rfl rfl rfl rfl rfl Try.func37 rfl rfl rfl (fun r197 m197 => laws_eqTrackS.calls r188.1 r46.1 s189.w (fun b => memb [67, 46, 43, 44, 45] (s189.g b) = true) v188_0 v46_0 (A188_0.rd.sub (D := [67, 46, 43, 44, 45]) rfl) (A196.sub (D := [67, 46, 43, 44, 45]) rfl) r197 m197) ?_
         rintro r197 _ w197 m197 ⟨rfl, ky197⟩
         obtain ⟨s198, rfl, p198, n198⟩ := nwx s189 w197 68 ky197
         refine pu rfl rfl rfl rfl rfl ?_
         refine pu rfl rfl rfl rfl rfl ?_
         refine jy [111, 112, 113, 114, 115] [] 115 (.bool ((!r197) || (r188.2 != r46.2))) rfl (fun Kg199 => ?_) (fun j199 => ?_)
         ·
          rcases Bool.eq_false_or_eq_true (!r197) with hb199 | hb199
          ·
           refine sbT hb199 ?_
           refine uw rfl rfl rfl rfl ?_
           refine uw rfl rfl rfl rfl ?_
           refine uw rfl rfl rfl rfl ?_
           refine pu rfl rfl rfl rfl rfl ?_
           exact Kg199 _ (Ag.put ((Ag.put ((Ag.put ((Ag.put (Ag.base rfl) rfl)) rfl)) rfl)) rfl) (by rw [hb199]; rfl)
          ·
           refine sbT hb199 ?_
           refine pu rfl rfl rfl rfl rfl ?_
           refine pu rfl rfl rfl rfl rfl ?_
           refine pu rfl rfl rfl rfl rfl ?_
           refine pu rfl rfl rfl rfl rfl ?_
           exact Kg199 _ (Ag.put ((Ag.put ((Ag.put ((Ag.put (Ag.base rfl) rfl)) rfl)) rfl)) rfl) (by rw [hb199]; rfl)
         refine dn ?_
         refine cd rfl (fun h200 => ?_) (fun h200 => ?_)
         ·
          refine sr ?_
          refine pu rfl rfl rfl rfl rfl ?_
          refine dn ?_
          have K201 := ((((K177.st p181 rfl).st p182 rfl).st p189 rfl).st p198 rfl)
          exact re rfl Try.func7 rfl (r_t rfl r_nil) rfl ⟨_, rfl, rfl, z.ky K201⟩
         ·
          refine sk ?_
          refine sr ?_
          refine pu rfl rfl rfl rfl rfl ?_
          refine dn ?_
          refine sr ?_
          refine mv v77_0 rfl rfl rfl rfl rfl rfl ?_
          refine pu rfl rfl rfl rfl rfl ?_
          have A202 := (((((((A154.st p157 rfl).st p162 rfl).st p172 rfl).st p181 rfl).st p182 rfl).st p189 rfl).st p198 rfl)
          refine cl rfl rfl rfl rfl rfl Try.func39 rfl rfl rfl (fun r203 m203 => laws_heldTrackS.calls r153.2 (1 : Int) s198.w (fun b => memb [51] (s198.g b) = true) v77_0 A202.rd r203 m203) ?_
          rintro r203 _ w203 m203 ⟨rfl, ky203⟩
          obtain ⟨s204, rfl, p204, n204⟩ := nwx s198 w203 69 ky203
          refine pu rfl rfl rfl rfl rfl ?_
          refine dn ?_
          refine sq ?_
          refine sr ?_
          refine pu rfl rfl rfl rfl rfl ?_
          refine pu rfl rfl rfl rfl rfl ?_
          refine dn ?_
          refine cd rfl (fun h205 => ?_) (fun h205 => ?_)
          ·
           refine sr ?_
           refine pu rfl rfl rfl rfl rfl ?_
           refine dn ?_
           have K206 := (((((K177.st p181 rfl).st p182 rfl).st p189 rfl).st p198 rfl).st p204 rfl)
           exact re rfl Try.func7 rfl (r_t rfl r_nil) rfl ⟨_, rfl, rfl, z.ky K206⟩
          ·
           refine sk ?_
           refine sq ?_
           refine sr ?_
           refine pu rfl rfl rfl rfl rfl ?_
           refine pu rfl rfl rfl rfl rfl ?_
           refine pu rfl rfl rfl rfl rfl ?_
           refine dn ?_
           refine cd rfl (fun h207 => ?_) (fun h207 => ?_)
           ·
            refine sr ?_
            refine pu rfl rfl rfl rfl rfl ?_
            refine dn ?_
            have K208 := (((((K177.st p181 rfl).st p182 rfl).st p189 rfl).st p198 rfl).st p204 rfl)
            exact re rfl Try.func7 rfl (r_t rfl r_nil) rfl ⟨_, rfl, rfl, z.ky K208⟩
           ·
            refine sk ?_
            refine sr ?_
            refine pu rfl rfl rfl rfl rfl ?_
            refine dn ?_
            have K209 := (((((K177.st p181 rfl).st p182 rfl).st p189 rfl).st p198 rfl).st p204 rfl)
            exact re rfl Try.func7 rfl (r_t rfl r_nil) rfl ⟨_, rfl, rfl, z.ky K209⟩
end Go.Proofs.Ytcagjdngannneaa
