/- The functions as models, and that the calls come to what the models tell. -/
import Derived.Test.YtndhbfkahbbkaaaXsa
set_option linter.unusedVariables false
set_option linter.unusedSimpArgs false
namespace Go.Proofs.Ytndhbfkahbbkaaa
open Go V
noncomputable def impl_RecordOk.f (a0 : Record) : Option (Bool) :=
  ((impl_isLsn.f a0.Lsn).bind fun r4 => (if (!r4) = true then (some false) else ((impl_isPage.f a0.Page).bind fun r23 => ((if r23 = true then ((impl_isSlot.f a0.Slot).bind fun r36 => (some r36)) else (some false)).bind fun y27 => (if (a0.Kind == (1 : Int)) = true then ((impl_isPage.f a0.Page).bind fun r59 => (some (((r59 && ((a0.Data.length : Int) == (256 : Int))) && (a0.Xid == (0 : Int))) && (a0.Slot == (0 : Int))))) else (if (a0.Kind == (2 : Int)) = true then ((impl_isXid.f a0.Xid).bind fun r68 => ((if (r68 && y27) = true then ((impl_within.f (a0.Data.length : Int) (1 : Int) (92 : Int)).bind fun r72 => (some r72)) else (some false)).bind fun y71 => (some y71))) else (if (a0.Kind == (3 : Int)) = true then ((impl_isXid.f a0.Xid).bind fun r78 => (some ((r78 && y27) && ((a0.Data.length : Int) == (0 : Int))))) else (if (a0.Kind == (4 : Int)) = true then (some (((a0.Xid == (0 : Int)) && y27) && ((a0.Data.length : Int) == (0 : Int)))) else (if (a0.Kind == (5 : Int)) = true then ((impl_isXid.f a0.Xid).bind fun r87 => (some (((r87 && (a0.Page == (0 : Int))) && (a0.Slot == (0 : Int))) && ((a0.Data.length : Int) == (0 : Int))))) else (some false))))))))))
def impl_RecordOk.Q (w : World) (F : Nat → Prop) (r : Bool) (v : Value) (w' : World) : Prop :=
  v = (.bool r) ∧ Ky [] w w'
set_option maxHeartbeats 4000000 in
set_option maxRecDepth 100000 in
theorem impl_RecordOk.calls (a0 : Record) (w : World) (F : Nat → Prop) (w0_0 : Value) (h0_0 : (Kd.sl 5 (Kd.int .u8)).rd w [w0_0] a0.Data F) (r : Bool) (m : impl_RecordOk.f a0 = some r) :
    Calls Try.prog 53 #[(.agg #[(.int .i64 a0.Kind), (.int .i64 a0.Lsn), (.int .i64 a0.Xid), (.int .i64 a0.Page), (.int .i64 a0.Slot), w0_0])] w fun en w' => ∃ v, en = .returned v ∧ impl_RecordOk.Q w F r v w' := by
  obtain ⟨s0, rfl, kp0, z⟩ := start0 w F
  have A0_0 := z.rd h0_0
  refine calls_of_TM (args := [(.agg #[(.int .i64 a0.Kind), (.int .i64 a0.Lsn), (.int .i64 a0.Xid), (.int .i64 a0.Page), (.int .i64 a0.Slot), w0_0])]) (R := fun r en w' => ∃ v, en = .returned v ∧ impl_RecordOk.Q s0.w F r v w') Try.func53 Try.ntmps53 rfl rfl m ?_
  unfold impl_RecordOk.f
  refine sr ?_
  refine bx (cs := [(.int .i64 a0.Kind), (.int .i64 a0.Lsn), (.int .i64 a0.Xid), (.int .i64 a0.Page), (.int .i64 a0.Slot), w0_0]) 10 rfl rfl rfl rfl rfl rfl (fun b2 s2 p2 B2 => ?_)
  refine pu rfl rfl rfl rfl rfl ?_
  refine dn ?_
  refine sq ?_
  refine sr ?_
  refine fa fa68_1 rfl rfl rfl rfl rfl rfl ?_
  refine ld B2 Try.underlying3 rfl rfl rfl rfl rfl rfl rfl rfl ?_
  refine cl rfl rfl rfl rfl rfl Try.func35 rfl rfl rfl (fun r4 m4 => impl_isLsn.calls a0.Lsn s2.w (fun b => memb [] (s2.g b) = true)  r4 m4) ?_
  rintro r4 _ w4 m4 ⟨rfl, ky4⟩
  obtain ⟨s5, rfl, p5, n5⟩ := nwx s2 w4 11 ky4
  refine pu rfl rfl rfl rfl rfl ?_
  refine dn ?_
  refine cd rfl (fun h6 => ?_) (fun h6 => ?_)
  ·
    refine sr ?_
    refine pu rfl rfl rfl rfl rfl ?_
    refine dn ?_
    have K7 := ((kp0.st p2 rfl).st p5 rfl)
    exact re rfl Try.func53 rfl (r_t rfl r_nil) rfl ⟨_, rfl, rfl, z.ky K7⟩
  ·
    refine sk ?_
    refine sq ?_
    refine zdraw [[], [0], [1], [], [3], [4], [5, 5], [6], [7, 6], [8, 6, 6], [6, 9], [2, 9, 0, 1, 2], [10, 11, 0, 1, 2, 3, 4, 5, 6, 7, 8, 9, 10, 11]] [some 9, some 10, some 11, some 12, some 13, some 14, some 15, some 16, some 17, some 18, some 19, some 3, some 4] [[1], [9], [10], [1], [12], [13], [14], [1, 15], [16, 15], [17, 15], [15, 18], [11], [19]] [0, 1, 2, 3, 4, 5, 6, 7, 8, 9, 11, 10, 12] ⟨by kernel_rfl, by kernel_rfl, by kernel_rfl⟩ (by kernel_rfl) (fun s8 p8 l8 tb8 zd8 => ?_)
    have zd9 := zd8.add 0 9 (.pointer (some ⟨b2, 5, none⟩)) rfl
    have A10 := (BlF.st (BlF.st B2 p5 rfl) p8 rfl)
    have zd11 := zd9.add 1 10 w0_0 rfl
    have K12 := (((kp0.st p2 rfl).st p5 rfl).st p8 rfl)
    have A13 := (A0_0.kp K12)
    have zd14 := zd11.add 2 11 (.int .i64 (a0.Data.length : Int)) rfl
    have zd15 := zd14.add 3 12 (.pointer (some ⟨b2, 3, none⟩)) rfl
    have A16 := (BlF.st (BlF.st B2 p5 rfl) p8 rfl)
    have zd17 := zd15.add 4 13 (.int .i64 a0.Page) rfl
    have A19 := (BlF.st (BlF.st B2 p5 rfl) p8 rfl)
    have K20 := (((kp0.st p2 rfl).st p5 rfl).st p8 rfl)
    have A21 := (A0_0.kp K20)
    have A22 := (BlF.st (BlF.st B2 p5 rfl) p8 rfl)
    refine zstep 5 [some 11, some 10, some 9] tb8 zd17 (pq_cons (ld_q A22 Try.underlying3 rfl rfl rfl rfl rfl rfl rfl rfl) rfl (pq_cons (fa_q fa68_3 rfl rfl rfl rfl rfl rfl) rfl (pq_cons (ln_q A21 Try.underlying24 rfl rfl rfl rfl rfl rfl) rfl (pq_cons (ld_q A19 Try.underlying24 rfl rfl rfl rfl rfl rfl rfl rfl) rfl (pq_cons (fa_q fa68_5 rfl rfl rfl rfl rfl rfl) rfl pq_nil))))) (by kernel_rfl) rfl (fun l18 e18 zd18 => ?_)
    refine cl rfl rfl rfl rfl rfl Try.func67 rfl rfl rfl (fun r23 m23 => impl_isPage.calls a0.Page s8.w (fun b => memb [] (s8.g b) = true)  r23 m23) ?_
    rintro r23 _ w23 m23 ⟨rfl, ky23⟩
    obtain ⟨s24, rfl, p24, n24⟩ := nwx s8 w23 12 ky23
    refine zdone (L' := [2, 1, 0]) (D' := [3, 4, 5]) zd18 rfl rfl rfl (fun zd25 => ?_)
    have zd26 := zd25.add 6 15 (.bool r23) rfl
    refine ji [12] (fun (y27 : Bool) (e : Env) (w : World) => ∃ (s : St) (e0 : Env), w = s.w ∧ e = upd (upd (upd e0 1 (.pointer (some ⟨b2, 0, none⟩))) 3 (.int .i64 (a0.Data.length : Int))) 19 (.bool y27) ∧ Kp s0 s ∧ BlF s b2 68 [(.int .i64 a0.Kind), (.int .i64 a0.Lsn), (.int .i64 a0.Xid), (.int .i64 a0.Page), (.int .i64 a0.Slot), w0_0] 10) (fun Gj27 Kj27 => ?_) ?_
    ·
      rcases Bool.eq_false_or_eq_true r23 with hb27 | hb27
      ·
        rw [if_pos hb27]
        rw [hb27] at zd26
        try rw [hb27]
        have zd28 := zd26.add 7 16 (.pointer (some ⟨b2, 4, none⟩)) rfl
        have A29 := (BlF.st (BlF.st (BlF.st B2 p5 rfl) p8 rfl) p24 rfl)
        have zd30 := zd28.add 8 17 (.int .i64 a0.Slot) rfl
        have A32 := (BlF.st (BlF.st (BlF.st B2 p5 rfl) p8 rfl) p24 rfl)
        have K33 := ((((kp0.st p2 rfl).st p5 rfl).st p8 rfl).st p24 rfl)
        have A34 := (A0_0.kp K33)
        have A35 := (BlF.st (BlF.st (BlF.st B2 p5 rfl) p8 rfl) p24 rfl)
        refine zstep 9 [some 11, some 10, some 9] tb8 zd30 (pq_cons (ld_q A35 Try.underlying3 rfl rfl rfl rfl rfl rfl rfl rfl) rfl (pq_cons (fa_q fa68_4 rfl rfl rfl rfl rfl rfl) rfl (pq_cons (pu_q rfl rfl rfl rfl rfl rfl) rfl (pq_cons (ln_q A34 Try.underlying24 rfl rfl rfl rfl rfl rfl) rfl (pq_cons (ld_q A32 Try.underlying24 rfl rfl rfl rfl rfl rfl rfl rfl) rfl (pq_cons (fa_q fa68_5 rfl rfl rfl rfl rfl rfl) rfl pq_nil)))))) (by kernel_rfl) rfl (fun l31 e31 zd31 => ?_)
        refine cl rfl rfl rfl rfl rfl Try.func68 rfl rfl rfl (fun r36 m36 => impl_isSlot.calls a0.Slot s24.w (fun b => memb [] (s24.g b) = true)  r36 m36) ?_
        rintro r36 _ w36 m36 ⟨rfl, ky36⟩
        obtain ⟨s37, rfl, p37, n37⟩ := nwx s24 w36 13 ky36
        refine zdone (L' := [2, 1, 0]) (D' := [7, 8, 6, 6, 9, 3, 4, 5]) zd31 rfl rfl rfl (fun zd38 => ?_)
        have zd39 := zd38.add 10 19 (.bool r36) rfl
        have zd40 := zd39.add 11 3 (.int .i64 (a0.Data.length : Int)) rfl
        have A41 := (BlF.st (BlF.st (BlF.st (BlF.st B2 p5 rfl) p8 rfl) p24 rfl) p37 rfl)
        have K42 := (((((kp0.st p2 rfl).st p5 rfl).st p8 rfl).st p24 rfl).st p37 rfl)
        have A43 := (A0_0.kp K42)
        refine zfin [12] tb8 zd40 (pq_cons (pu_q rfl rfl rfl rfl rfl rfl) rfl (pq_cons (pu_q rfl rfl rfl rfl rfl rfl) rfl (pq_cons (ln_q A43 Try.underlying24 rfl rfl rfl rfl rfl rfl) rfl (pq_cons (ld_q A41 Try.underlying24 rfl rfl rfl rfl rfl rfl rfl rfl) rfl (pq_cons (fa_q fa68_5 rfl rfl rfl rfl rfl rfl) rfl pq_nil))))) (by kernel_rfl) (by decide) ?_
        have A44 := (BlF.st (BlF.st (BlF.st (BlF.st B2 p5 rfl) p8 rfl) p24 rfl) p37 rfl)
        have K45 := (((((kp0.st p2 rfl).st p5 rfl).st p8 rfl).st p24 rfl).st p37 rfl)
        exact Kj27 _ _ _ ⟨s37, _, rfl, (ue (ue (ue rfl rfl) rfl) rfl), K45, A44⟩
      ·
        rw [if_neg (by rw [hb27]; decide)]
        rw [hb27] at zd26
        try rw [hb27]
        have zd46 := zd26.add 7 16 undef rfl
        have zd47 := zd46.add 8 17 undef rfl
        have zd48 := zd47.add 9 18 undef rfl
        have zd49 := zd48.add 10 19 (.bool false) rfl
        have zd50 := zd49.add 11 3 (.int .i64 (a0.Data.length : Int)) rfl
        have A51 := (BlF.st (BlF.st (BlF.st B2 p5 rfl) p8 rfl) p24 rfl)
        have K52 := ((((kp0.st p2 rfl).st p5 rfl).st p8 rfl).st p24 rfl)
        have A53 := (A0_0.kp K52)
        refine zfin [12] tb8 zd50 (pq_cons (pu_q rfl rfl rfl rfl rfl rfl) rfl (pq_cons (pu_q rfl rfl rfl rfl rfl rfl) rfl (pq_cons (uw_q rfl rfl rfl rfl rfl) rfl (pq_cons (uw_q rfl rfl rfl rfl rfl) rfl (pq_cons (uw_q rfl rfl rfl rfl rfl) rfl (pq_cons (pu_q rfl rfl rfl rfl rfl rfl) rfl (pq_cons (ln_q A53 Try.underlying24 rfl rfl rfl rfl rfl rfl) rfl (pq_cons (ld_q A51 Try.underlying24 rfl rfl rfl rfl rfl rfl rfl rfl) rfl (pq_cons (fa_q fa68_5 rfl rfl rfl rfl rfl rfl) rfl pq_nil))))))))) (by kernel_rfl) (by decide) ?_
        have A54 := (BlF.st (BlF.st (BlF.st B2 p5 rfl) p8 rfl) p24 rfl)
        have K55 := ((((kp0.st p2 rfl).st p5 rfl).st p8 rfl).st p24 rfl)
        exact Kj27 _ _ _ ⟨s24, _, rfl, (ue (ue (ue rfl rfl) rfl) rfl), K55, A54⟩
    rintro y27 _ _ ⟨s56, _, rfl, rfl, Ky27, By27_b2⟩
    refine pu rfl rfl rfl rfl rfl ?_
    refine dn ?_
    refine sq ?_
    refine sr ?_
    refine fa fa68_0 rfl rfl rfl rfl rfl rfl ?_
    refine ld By27_b2 Try.underlying3 rfl rfl rfl rfl rfl rfl rfl rfl ?_
    refine dn ?_
    refine bl ?_
    refine sr ?_
    refine pu rfl rfl rfl rfl rfl ?_
    refine pu rfl rfl rfl rfl rfl ?_
    refine dn ?_
    refine cd rfl (fun h58 => ?_) (fun h58 => ?_)
    ·
      refine sr ?_
      refine fa fa68_3 rfl rfl rfl rfl rfl rfl ?_
      refine ld By27_b2 Try.underlying3 rfl rfl rfl rfl rfl rfl rfl rfl ?_
      refine cl rfl rfl rfl rfl rfl Try.func67 rfl rfl rfl (fun r59 m59 => impl_isPage.calls a0.Page s56.w (fun b => memb [] (s56.g b) = true)  r59 m59) ?_
      rintro r59 _ w59 m59 ⟨rfl, ky59⟩
      obtain ⟨s60, rfl, p60, n60⟩ := nwx s56 w59 14 ky59
      refine pu rfl rfl rfl rfl rfl ?_
      refine jy [27, 28, 29, 30] [7, 8, 9, 10, 11, 12, 13, 14, 15, 16, 17] 30 (.bool (r59 && ((a0.Data.length : Int) == (256 : Int)))) rfl (fun Kg61 => ?_) (fun j61 => ?_)
      ·
        rcases Bool.eq_false_or_eq_true r59 with hb61 | hb61
        ·
          refine sbT hb61 ?_
          refine pu rfl rfl rfl rfl rfl ?_
          refine pu rfl rfl rfl rfl rfl ?_
          refine pu rfl rfl rfl rfl rfl ?_
          exact Kg61 _ (Ag.put ((Ag.put ((Ag.put (Ag.base rfl) rfl)) rfl)) rfl) (by rw [hb61]; rfl)
        ·
          refine sbT hb61 ?_
          refine uw rfl rfl rfl rfl ?_
          refine uw rfl rfl rfl rfl ?_
          refine pu rfl rfl rfl rfl rfl ?_
          exact Kg61 _ (Ag.put ((Ag.put ((Ag.put (Ag.base rfl) rfl)) rfl)) rfl) (by rw [hb61]; rfl)
      refine pu rfl rfl rfl rfl rfl ?_
      refine jy [31, 32, 33, 34, 35] [12, 13, 14, 15, 16, 17] 35 (.bool ((r59 && ((a0.Data.length : Int) == (256 : Int))) && (a0.Xid == (0 : Int)))) rfl (fun Kg62 => ?_) (fun j62 => ?_)
      ·
        rcases Bool.eq_false_or_eq_true (r59 && ((a0.Data.length : Int) == (256 : Int))) with hb62 | hb62
        ·
          refine sbT hb62 ?_
          refine fa fa68_2 rfl rfl rfl rfl rfl rfl ?_
          have A63 := (BlF.st By27_b2 p60 rfl)
          refine ld A63 Try.underlying3 rfl rfl rfl rfl rfl rfl rfl rfl ?_
          refine pu rfl rfl rfl rfl rfl ?_
          refine pu rfl rfl rfl rfl rfl ?_
          exact Kg62 _ (Ag.put ((Ag.put ((Ag.put ((Ag.put (Ag.base rfl) rfl)) rfl)) rfl)) rfl) (by rw [hb62]; rfl)
        ·
          refine sbT hb62 ?_
          refine uw rfl rfl rfl rfl ?_
          refine uw rfl rfl rfl rfl ?_
          refine uw rfl rfl rfl rfl ?_
          refine pu rfl rfl rfl rfl rfl ?_
          exact Kg62 _ (Ag.put ((Ag.put ((Ag.put ((Ag.put (Ag.base rfl) rfl)) rfl)) rfl)) rfl) (by rw [hb62]; rfl)
      refine pu rfl rfl rfl rfl rfl ?_
      refine jy [36, 37, 38, 39, 40] [17] 40 (.bool (((r59 && ((a0.Data.length : Int) == (256 : Int))) && (a0.Xid == (0 : Int))) && (a0.Slot == (0 : Int)))) rfl (fun Kg64 => ?_) (fun j64 => ?_)
      ·
        rcases Bool.eq_false_or_eq_true ((r59 && ((a0.Data.length : Int) == (256 : Int))) && (a0.Xid == (0 : Int))) with hb64 | hb64
        ·
          refine sbT hb64 ?_
          refine fa fa68_4 rfl rfl rfl rfl rfl rfl ?_
          have A65 := (BlF.st By27_b2 p60 rfl)
          refine ld A65 Try.underlying3 rfl rfl rfl rfl rfl rfl rfl rfl ?_
          refine pu rfl rfl rfl rfl rfl ?_
          refine pu rfl rfl rfl rfl rfl ?_
          exact Kg64 _ (Ag.put ((Ag.put ((Ag.put ((Ag.put (Ag.base rfl) rfl)) rfl)) rfl)) rfl) (by rw [hb64]; rfl)
        ·
          refine sbT hb64 ?_
          refine uw rfl rfl rfl rfl ?_
          refine uw rfl rfl rfl rfl ?_
          refine uw rfl rfl rfl rfl ?_
          refine pu rfl rfl rfl rfl rfl ?_
          exact Kg64 _ (Ag.put ((Ag.put ((Ag.put ((Ag.put (Ag.base rfl) rfl)) rfl)) rfl)) rfl) (by rw [hb64]; rfl)
      refine pu rfl rfl rfl rfl rfl ?_
      refine dn ?_
      have K66 := (Ky27.st p60 rfl)
      exact re rfl Try.func53 rfl (r_t rfl r_nil) rfl ⟨_, rfl, rfl, z.ky K66⟩
    ·
      refine sr ?_
      refine pu rfl rfl rfl rfl rfl ?_
      refine pu rfl rfl rfl rfl rfl ?_
      refine dn ?_
      refine cd rfl (fun h67 => ?_) (fun h67 => ?_)
      ·
        refine sr ?_
        refine fa fa68_2 rfl rfl rfl rfl rfl rfl ?_
        refine ld By27_b2 Try.underlying3 rfl rfl rfl rfl rfl rfl rfl rfl ?_
        refine cl rfl rfl rfl rfl rfl Try.func69 rfl rfl rfl (fun r68 m68 => impl_isXid.calls a0.Xid s56.w (fun b => memb [] (s56.g b) = true)  r68 m68) ?_
        rintro r68 _ w68 m68 ⟨rfl, ky68⟩
        obtain ⟨s69, rfl, p69, n69⟩ := nwx s56 w68 15 ky68
        refine pu rfl rfl rfl rfl rfl ?_
        refine jy [46, 47, 48] [6, 7, 8, 9, 10] 48 (.bool (r68 && y27)) rfl (fun Kg70 => ?_) (fun j70 => ?_)
        ·
          rcases Bool.eq_false_or_eq_true r68 with hb70 | hb70
          ·
            refine sbT hb70 ?_
            refine pu rfl rfl rfl rfl rfl ?_
            refine pu rfl rfl rfl rfl rfl ?_
            exact Kg70 _ (Ag.put ((Ag.put (Ag.base rfl) rfl)) rfl) (by rw [hb70]; rfl)
          ·
            refine sbT hb70 ?_
            refine uw rfl rfl rfl rfl ?_
            refine pu rfl rfl rfl rfl rfl ?_
            exact Kg70 _ (Ag.put ((Ag.put (Ag.base rfl) rfl)) rfl) (by rw [hb70]; rfl)
        refine pu rfl rfl rfl rfl rfl ?_
        refine ji [10] (fun (y71 : Bool) (e : Env) (w : World) => ∃ (s : St) (e0 : Env), w = s.w ∧ e = upd e0 52 (.bool y71) ∧ Kp s0 s) (fun Gj71 Kj71 => ?_) ?_
        ·
          rcases Bool.eq_false_or_eq_true (r68 && y27) with hb71 | hb71
          ·
            refine sbT hb71 ?_
            rw [if_pos hb71]
            refine pu rfl rfl rfl rfl rfl ?_
            refine cl rfl rfl rfl rfl rfl Try.func34 rfl rfl rfl (fun r72 m72 => impl_within.calls (a0.Data.length : Int) (1 : Int) (92 : Int) s69.w (fun b => memb [] (s69.g b) = true)  r72 m72) ?_
            rintro r72 _ w72 m72 ⟨rfl, ky72⟩
            obtain ⟨s73, rfl, p73, n73⟩ := nwx s69 w72 16 ky72
            refine pu rfl rfl rfl rfl rfl ?_
            have K74 := ((Ky27.st p69 rfl).st p73 rfl)
            exact Kj71 _ _ _ ⟨s73, _, rfl, (ue rfl rfl), K74⟩
          ·
            refine sbT hb71 ?_
            rw [if_neg (by rw [hb71]; decide)]
            refine uw rfl rfl rfl rfl ?_
            refine uw rfl rfl rfl rfl ?_
            refine pu rfl rfl rfl rfl rfl ?_
            have K75 := (Ky27.st p69 rfl)
            exact Kj71 _ _ _ ⟨s69, _, rfl, (ue rfl rfl), K75⟩
        rintro y71 _ _ ⟨s76, _, rfl, rfl, Ky71⟩
        refine pu rfl rfl rfl rfl rfl ?_
        refine dn ?_
        exact re rfl Try.func53 rfl (r_t rfl r_nil) rfl ⟨_, rfl, rfl, z.ky Ky71⟩
      ·
        refine sr ?_
        refine pu rfl rfl rfl rfl rfl ?_
        refine pu rfl rfl rfl rfl rfl ?_
        refine dn ?_
        refine cd rfl (fun h77 => ?_) (fun h77 => ?_)
        ·
          refine sr ?_
          refine fa fa68_2 rfl rfl rfl rfl rfl rfl ?_
          refine ld By27_b2 Try.underlying3 rfl rfl rfl rfl rfl rfl rfl rfl ?_
          refine cl rfl rfl rfl rfl rfl Try.func69 rfl rfl rfl (fun r78 m78 => impl_isXid.calls a0.Xid s56.w (fun b => memb [] (s56.g b) = true)  r78 m78) ?_
          rintro r78 _ w78 m78 ⟨rfl, ky78⟩
          obtain ⟨s79, rfl, p79, n79⟩ := nwx s56 w78 17 ky78
          refine pu rfl rfl rfl rfl rfl ?_
          refine jy [58, 59, 60] [6, 7, 8, 9, 10] 60 (.bool (r78 && y27)) rfl (fun Kg80 => ?_) (fun j80 => ?_)
          ·
            rcases Bool.eq_false_or_eq_true r78 with hb80 | hb80
            ·
              refine sbT hb80 ?_
              refine pu rfl rfl rfl rfl rfl ?_
              refine pu rfl rfl rfl rfl rfl ?_
              exact Kg80 _ (Ag.put ((Ag.put (Ag.base rfl) rfl)) rfl) (by rw [hb80]; rfl)
            ·
              refine sbT hb80 ?_
              refine uw rfl rfl rfl rfl ?_
              refine pu rfl rfl rfl rfl rfl ?_
              exact Kg80 _ (Ag.put ((Ag.put (Ag.base rfl) rfl)) rfl) (by rw [hb80]; rfl)
          refine pu rfl rfl rfl rfl rfl ?_
          refine jy [61, 62, 63, 64] [10] 64 (.bool ((r78 && y27) && ((a0.Data.length : Int) == (0 : Int)))) rfl (fun Kg81 => ?_) (fun j81 => ?_)
          ·
            rcases Bool.eq_false_or_eq_true (r78 && y27) with hb81 | hb81
            ·
              refine sbT hb81 ?_
              refine pu rfl rfl rfl rfl rfl ?_
              refine pu rfl rfl rfl rfl rfl ?_
              refine pu rfl rfl rfl rfl rfl ?_
              exact Kg81 _ (Ag.put ((Ag.put ((Ag.put (Ag.base rfl) rfl)) rfl)) rfl) (by rw [hb81]; rfl)
            ·
              refine sbT hb81 ?_
              refine uw rfl rfl rfl rfl ?_
              refine uw rfl rfl rfl rfl ?_
              refine pu rfl rfl rfl rfl rfl ?_
              exact Kg81 _ (Ag.put ((Ag.put ((Ag.put (Ag.base rfl) rfl)) rfl)) rfl) (by rw [hb81]; rfl)
          refine pu rfl rfl rfl rfl rfl ?_
          refine dn ?_
          have K82 := (Ky27.st p79 rfl)
          exact re rfl Try.func53 rfl (r_t rfl r_nil) rfl ⟨_, rfl, rfl, z.ky K82⟩
        ·
          refine sr ?_
          refine pu rfl rfl rfl rfl rfl ?_
          refine pu rfl rfl rfl rfl rfl ?_
          refine dn ?_
          refine cd rfl (fun h83 => ?_) (fun h83 => ?_)
          ·
            refine sr ?_
            refine fa fa68_2 rfl rfl rfl rfl rfl rfl ?_
            refine ld By27_b2 Try.underlying3 rfl rfl rfl rfl rfl rfl rfl rfl ?_
            refine pu rfl rfl rfl rfl rfl ?_
            refine pu rfl rfl rfl rfl rfl ?_
            refine jy [70, 71, 72] [6, 7, 8, 9, 10] 72 (.bool ((a0.Xid == (0 : Int)) && y27)) rfl (fun Kg84 => ?_) (fun j84 => ?_)
            ·
              rcases Bool.eq_false_or_eq_true (a0.Xid == (0 : Int)) with hb84 | hb84
              ·
                refine sbT hb84 ?_
                refine pu rfl rfl rfl rfl rfl ?_
                refine pu rfl rfl rfl rfl rfl ?_
                exact Kg84 _ (Ag.put ((Ag.put (Ag.base rfl) rfl)) rfl) (by rw [hb84]; rfl)
              ·
                refine sbT hb84 ?_
                refine uw rfl rfl rfl rfl ?_
                refine pu rfl rfl rfl rfl rfl ?_
                exact Kg84 _ (Ag.put ((Ag.put (Ag.base rfl) rfl)) rfl) (by rw [hb84]; rfl)
            refine pu rfl rfl rfl rfl rfl ?_
            refine jy [73, 74, 75, 76] [10] 76 (.bool (((a0.Xid == (0 : Int)) && y27) && ((a0.Data.length : Int) == (0 : Int)))) rfl (fun Kg85 => ?_) (fun j85 => ?_)
            ·
              rcases Bool.eq_false_or_eq_true ((a0.Xid == (0 : Int)) && y27) with hb85 | hb85
              ·
                refine sbT hb85 ?_
                refine pu rfl rfl rfl rfl rfl ?_
                refine pu rfl rfl rfl rfl rfl ?_
                refine pu rfl rfl rfl rfl rfl ?_
                exact Kg85 _ (Ag.put ((Ag.put ((Ag.put (Ag.base rfl) rfl)) rfl)) rfl) (by rw [hb85]; rfl)
              ·
                refine sbT hb85 ?_
                refine uw rfl rfl rfl rfl ?_
                refine uw rfl rfl rfl rfl ?_
                refine pu rfl rfl rfl rfl rfl ?_
                exact Kg85 _ (Ag.put ((Ag.put ((Ag.put (Ag.base rfl) rfl)) rfl)) rfl) (by rw [hb85]; rfl)
            refine pu rfl rfl rfl rfl rfl ?_
            refine dn ?_
            exact re rfl Try.func53 rfl (r_t rfl r_nil) rfl ⟨_, rfl, rfl, z.ky Ky27⟩
          ·
            refine sr ?_
            refine pu rfl rfl rfl rfl rfl ?_
            refine pu rfl rfl rfl rfl rfl ?_
            refine dn ?_
            refine cd rfl (fun h86 => ?_) (fun h86 => ?_)
            ·
              refine sr ?_
              refine fa fa68_2 rfl rfl rfl rfl rfl rfl ?_
              refine ld By27_b2 Try.underlying3 rfl rfl rfl rfl rfl rfl rfl rfl ?_
              refine cl rfl rfl rfl rfl rfl Try.func69 rfl rfl rfl (fun r87 m87 => impl_isXid.calls a0.Xid s56.w (fun b => memb [] (s56.g b) = true)  r87 m87) ?_
              rintro r87 _ w87 m87 ⟨rfl, ky87⟩
              obtain ⟨s88, rfl, p88, n88⟩ := nwx s56 w87 18 ky87
              refine pu rfl rfl rfl rfl rfl ?_
              refine jy [82, 83, 84, 85, 86] [8, 9, 10, 11, 12, 13, 14, 15, 16, 17] 86 (.bool (r87 && (a0.Page == (0 : Int)))) rfl (fun Kg89 => ?_) (fun j89 => ?_)
              ·
                rcases Bool.eq_false_or_eq_true r87 with hb89 | hb89
                ·
                  refine sbT hb89 ?_
                  refine fa fa68_3 rfl rfl rfl rfl rfl rfl ?_
                  have A90 := (BlF.st By27_b2 p88 rfl)
                  refine ld A90 Try.underlying3 rfl rfl rfl rfl rfl rfl rfl rfl ?_
                  refine pu rfl rfl rfl rfl rfl ?_
                  refine pu rfl rfl rfl rfl rfl ?_
                  exact Kg89 _ (Ag.put ((Ag.put ((Ag.put ((Ag.put (Ag.base rfl) rfl)) rfl)) rfl)) rfl) (by rw [hb89]; rfl)
                ·
                  refine sbT hb89 ?_
                  refine uw rfl rfl rfl rfl ?_
                  refine uw rfl rfl rfl rfl ?_
                  refine uw rfl rfl rfl rfl ?_
                  refine pu rfl rfl rfl rfl rfl ?_
                  exact Kg89 _ (Ag.put ((Ag.put ((Ag.put ((Ag.put (Ag.base rfl) rfl)) rfl)) rfl)) rfl) (by rw [hb89]; rfl)
              refine pu rfl rfl rfl rfl rfl ?_
              refine jy [87, 88, 89, 90, 91] [13, 14, 15, 16, 17] 91 (.bool ((r87 && (a0.Page == (0 : Int))) && (a0.Slot == (0 : Int)))) rfl (fun Kg91 => ?_) (fun j91 => ?_)
              ·
                rcases Bool.eq_false_or_eq_true (r87 && (a0.Page == (0 : Int))) with hb91 | hb91
                ·
                  refine sbT hb91 ?_
                  refine fa fa68_4 rfl rfl rfl rfl rfl rfl ?_
                  have A92 := (BlF.st By27_b2 p88 rfl)
                  refine ld A92 Try.underlying3 rfl rfl rfl rfl rfl rfl rfl rfl ?_
                  refine pu rfl rfl rfl rfl rfl ?_
                  refine pu rfl rfl rfl rfl rfl ?_
                  exact Kg91 _ (Ag.put ((Ag.put ((Ag.put ((Ag.put (Ag.base rfl) rfl)) rfl)) rfl)) rfl) (by rw [hb91]; rfl)
                ·
                  refine sbT hb91 ?_
                  refine uw rfl rfl rfl rfl ?_
                  refine uw rfl rfl rfl rfl ?_
                  refine uw rfl rfl rfl rfl ?_
                  refine pu rfl rfl rfl rfl rfl ?_
                  exact Kg91 _ (Ag.put ((Ag.put ((Ag.put ((Ag.put (Ag.base rfl) rfl)) rfl)) rfl)) rfl) (by rw [hb91]; rfl)
              refine pu rfl rfl rfl rfl rfl ?_
              refine jy [92, 93, 94, 95] [17] 95 (.bool (((r87 && (a0.Page == (0 : Int))) && (a0.Slot == (0 : Int))) && ((a0.Data.length : Int) == (0 : Int)))) rfl (fun Kg93 => ?_) (fun j93 => ?_)
              ·
                rcases Bool.eq_false_or_eq_true ((r87 && (a0.Page == (0 : Int))) && (a0.Slot == (0 : Int))) with hb93 | hb93
                ·
                  refine sbT hb93 ?_
                  refine pu rfl rfl rfl rfl rfl ?_
                  refine pu rfl rfl rfl rfl rfl ?_
                  refine pu rfl rfl rfl rfl rfl ?_
                  exact Kg93 _ (Ag.put ((Ag.put ((Ag.put (Ag.base rfl) rfl)) rfl)) rfl) (by rw [hb93]; rfl)
                ·
                  refine sbT hb93 ?_
                  refine uw rfl rfl rfl rfl ?_
                  refine uw rfl rfl rfl rfl ?_
                  refine pu rfl rfl rfl rfl rfl ?_
                  exact Kg93 _ (Ag.put ((Ag.put ((Ag.put (Ag.base rfl) rfl)) rfl)) rfl) (by rw [hb93]; rfl)
              refine pu rfl rfl rfl rfl rfl ?_
              refine dn ?_
              have K94 := (Ky27.st p88 rfl)
              exact re rfl Try.func53 rfl (r_t rfl r_nil) rfl ⟨_, rfl, rfl, z.ky K94⟩
            ·
              refine sk ?_
              refine ib ?_
              refine sr ?_
              refine pu rfl rfl rfl rfl rfl ?_
              refine dn ?_
              exact re rfl Try.func53 rfl (r_t rfl r_nil) rfl ⟨_, rfl, rfl, z.ky Ky27⟩
noncomputable def slices_Clone_int_int.f (a0 : (List Int)) : Option ((List Int)) :=
  (if ([] : (List Int)).length + a0.length ≤ Lim then (some (([] : (List Int)) ++ a0)) else none)
def slices_Clone_int_int.Q (w : World) (F : Nat → Prop) (r : (List Int)) (v : Value) (w' : World) : Prop :=
  FO (Kd.sl 3 (Kd.int .i64)) w w' [v] r ∧ Ky [] w w'
set_option maxHeartbeats 4000000 in
set_option maxRecDepth 100000 in
theorem slices_Clone_int_int.calls (a0 : (List Int)) (w : World) (F : Nat → Prop) (w0_0 : Value) (h0_0 : (Kd.sl 3 (Kd.int .i64)).rd w [w0_0] a0 F) (r : (List Int)) (m : slices_Clone_int_int.f a0 = some r) :
    Calls Try.prog 70 #[w0_0] w fun en w' => ∃ v, en = .returned v ∧ slices_Clone_int_int.Q w F r v w' := by
  obtain ⟨s0, rfl, kp0, z⟩ := start0 w F
  have A0_0 := z.rd h0_0
  refine calls_of_TM (args := [w0_0]) (R := fun r en w' => ∃ v, en = .returned v ∧ slices_Clone_int_int.Q s0.w F r v w') Try.func70 Try.ntmps70 rfl rfl m ?_
  unfold slices_Clone_int_int.f
  refine sr ?_
  refine pu rfl rfl rfl rfl rfl ?_
  refine dn ?_
  refine sq ?_
  refine sr ?_
  refine mv w0_0 rfl rfl rfl rfl rfl rfl ?_
  refine nq A0_0 Try.underlying37 rfl rfl rfl rfl rfl rfl rfl (fun nb2 hn2 => ?_)
  refine dn ?_
  refine cdb rfl (fun h3 => ?_) (fun h3 => ?_)
  ·
    obtain rfl := hn2 h3
    refine mg fun _ => ?_
    refine sr ?_
    refine pu rfl rfl rfl rfl rfl ?_
    refine dn ?_
    exact re rfl Try.func70 rfl (r_t rfl r_nil) rfl ⟨_, rfl, (ow_nil 3 (Kd.int .i64) s0 10).fo kp0 rfl, z.ky kp0⟩
  ·
    refine sk ?_
    refine sr ?_
    refine lt0 (K := (Kd.int .i64)) 10 Try.underlying37 z3 rfl rfl rfl rfl rfl (fun v4 s4 p4 A4 => ?_)
    refine mv w0_0 rfl rfl rfl rfl rfl rfl ?_
    have K6 := (kp0.st p4 rfl)
    have A7 := (A0_0.kp K6)
    refine apF fl_int sl37 A4 A7 rfl rfl rfl rfl rfl rfl rfl (fun v8 s8 p8 A8 => ?_)
    refine asg v8 rfl rfl rfl rfl rfl rfl ?_
    refine dn ?_
    have K10 := (K6.st p8 rfl)
    exact re rfl Try.func70 rfl (r_t rfl r_nil) rfl ⟨_, rfl, A8.fo K10 rfl, z.ky K10⟩
noncomputable def impl_StatusSet.b0 (a1 : Int) (a2 : Int) (x17 : (List Int)) : Option ((List Int) ⊕ ((List Int) × Bool)) :=
  (if (decide ((x17.length : Int) ≤ a1)) = true then (if x17.length + ([(0 : Int)]).length ≤ Lim then (some (.inl (x17 ++ [(0 : Int)]))) else none) else ((if 0 ≤ a1 ∧ a1 < (x17.length : Int) then (some ((x17.set (a1).toNat a2), true)) else none).bind fun o => some (.inr o)))
noncomputable def impl_StatusSet.f (a0 : (List Int)) (a1 : Int) (a2 : Int) : Option ((List Int) × Bool) :=
  ((if (decide ((a0.length : Int) > (401 : Int))) = true then (some true) else ((impl_isXid.f a1).bind fun r3 => (some (!r3)))).bind fun y2 => ((if y2 = true then (some true) else ((impl_within.f a2 (0 : Int) (2 : Int)).bind fun r8 => (some (!r8)))).bind fun y7 => (if y7 = true then (some (([] : (List Int)), false)) else ((slices_Clone_int_int.f a0).bind fun r14 => (iter (impl_StatusSet.b0 a1 a2) r14)))))
def impl_StatusSet.Q (w : World) (F : Nat → Prop) (r : (List Int) × Bool) (v : Value) (w' : World) : Prop :=
  ∃ (v0 : Value), v = .tuple #[v0, (.bool r.2)] ∧ FO (Kd.sl 3 (Kd.int .i64)) w w' [v0] r.1 ∧ Ky [] w w'
set_option maxHeartbeats 4000000 in
set_option maxRecDepth 100000 in
theorem impl_StatusSet.calls (a0 : (List Int)) (a1 : Int) (a2 : Int) (w : World) (F : Nat → Prop) (w0_0 : Value) (h0_0 : (Kd.sl 3 (Kd.int .i64)).rd w [w0_0] a0 F) (r : (List Int) × Bool) (m : impl_StatusSet.f a0 a1 a2 = some r) :
    Calls Try.prog 54 #[w0_0, (.int .i64 a1), (.int .i64 a2)] w fun en w' => ∃ v, en = .returned v ∧ impl_StatusSet.Q w F r v w' := by
  obtain ⟨s0, rfl, kp0, z⟩ := start0 w F
  have A0_0 := z.rd h0_0
  refine calls_of_TM (args := [w0_0, (.int .i64 a1), (.int .i64 a2)]) (R := fun r en w' => ∃ v, en = .returned v ∧ impl_StatusSet.Q s0.w F r v w') Try.func54 Try.ntmps54 rfl rfl m ?_
  unfold impl_StatusSet.f
  refine sr ?_
  refine pu rfl rfl rfl rfl rfl ?_
  refine pu rfl rfl rfl rfl rfl ?_
  refine dn ?_
  refine sq ?_
  refine sr ?_
  refine mv w0_0 rfl rfl rfl rfl rfl rfl ?_
  refine ln A0_0 Try.underlying37 rfl rfl rfl rfl rfl rfl ?_
  refine pu rfl rfl rfl rfl rfl ?_
  refine pu rfl rfl rfl rfl rfl ?_
  refine ji [8, 9, 10, 11, 12] (fun (y2 : Bool) (e : Env) (w : World) => ∃ (s : St) (e0 : Env), w = s.w ∧ e = upd (upd (upd (upd e0 0 w0_0) 1 (.int .i64 a1)) 2 (.int .i64 a2)) 16 (.bool y2) ∧ Kp s0 s) (fun Gj2 Kj2 => ?_) ?_
  ·
    rcases Bool.eq_false_or_eq_true (decide ((a0.length : Int) > (401 : Int))) with hb2 | hb2
    ·
      refine sbT hb2 ?_
      rw [if_pos hb2]
      refine uw rfl rfl rfl rfl ?_
      refine uw rfl rfl rfl rfl ?_
      refine uw rfl rfl rfl rfl ?_
      refine pu rfl rfl rfl rfl rfl ?_
      exact Kj2 _ _ _ ⟨s0, _, rfl, (ue (ue (ue (ue rfl rfl) rfl) rfl) rfl), kp0⟩
    ·
      refine sbT hb2 ?_
      rw [if_neg (by rw [hb2]; decide)]
      refine pu rfl rfl rfl rfl rfl ?_
      refine cl rfl rfl rfl rfl rfl Try.func69 rfl rfl rfl (fun r3 m3 => impl_isXid.calls a1 s0.w (fun b => memb [] (s0.g b) = true)  r3 m3) ?_
      rintro r3 _ w3 m3 ⟨rfl, ky3⟩
      obtain ⟨s4, rfl, p4, n4⟩ := nwx s0 w3 10 ky3
      refine pu rfl rfl rfl rfl rfl ?_
      refine pu rfl rfl rfl rfl rfl ?_
      have K5 := (kp0.st p4 rfl)
      exact Kj2 _ _ _ ⟨s4, _, rfl, (ue (ue (ue (ue rfl rfl) rfl) rfl) rfl), K5⟩
  rintro y2 _ _ ⟨s6, _, rfl, rfl, Ky2⟩
  refine pu rfl rfl rfl rfl rfl ?_
  refine ji [] (fun (y7 : Bool) (e : Env) (w : World) => ∃ (s : St) (e0 : Env), w = s.w ∧ e = upd (upd (upd (upd e0 0 w0_0) 1 (.int .i64 a1)) 2 (.int .i64 a2)) 21 (.bool y7) ∧ Kp s0 s) (fun Gj7 Kj7 => ?_) ?_
  ·
    rcases Bool.eq_false_or_eq_true y2 with hb7 | hb7
    ·
      refine sbT hb7 ?_
      rw [if_pos hb7]
      refine uw rfl rfl rfl rfl ?_
      refine uw rfl rfl rfl rfl ?_
      refine uw rfl rfl rfl rfl ?_
      refine pu rfl rfl rfl rfl rfl ?_
      exact Kj7 _ _ _ ⟨s6, _, rfl, (ue (ue (ue (ue rfl rfl) rfl) rfl) rfl), Ky2⟩
    ·
      refine sbT hb7 ?_
      rw [if_neg (by rw [hb7]; decide)]
      refine pu rfl rfl rfl rfl rfl ?_
      refine cl rfl rfl rfl rfl rfl Try.func34 rfl rfl rfl (fun r8 m8 => impl_within.calls a2 (0 : Int) (2 : Int) s6.w (fun b => memb [] (s6.g b) = true)  r8 m8) ?_
      rintro r8 _ w8 m8 ⟨rfl, ky8⟩
      obtain ⟨s9, rfl, p9, n9⟩ := nwx s6 w8 11 ky8
      refine pu rfl rfl rfl rfl rfl ?_
      refine pu rfl rfl rfl rfl rfl ?_
      have K10 := (Ky2.st p9 rfl)
      exact Kj7 _ _ _ ⟨s9, _, rfl, (ue (ue (ue (ue rfl rfl) rfl) rfl) rfl), K10⟩
  rintro y7 _ _ ⟨s11, _, rfl, rfl, Ky7⟩
  refine dn ?_
  refine cd rfl (fun h12 => ?_) (fun h12 => ?_)
  ·
    refine sr ?_
    refine pu rfl rfl rfl rfl rfl ?_
    refine pu rfl rfl rfl rfl rfl ?_
    refine dn ?_
    exact re rfl Try.func54 rfl (r_t rfl (r_t rfl r_nil)) rfl ⟨_, rfl, (.slice none 0 0), rfl, (ow_nil 3 (Kd.int .i64) s11 10).fo Ky7 rfl, z.ky Ky7⟩
  ·
    refine sk ?_
    refine sr ?_
    refine mv w0_0 rfl rfl rfl rfl rfl rfl ?_
    have A13 := (A0_0.kp Ky7)
    refine cl rfl rfl rfl rfl rfl Try.func70 rfl rfl rfl (fun r14 m14 => slices_Clone_int_int.calls a0 s11.w (fun b => memb [0] (s11.g b) = true) w0_0 A13 r14 m14) ?_
    rintro r14 v14_0 w14 m14 ⟨f14_0, ky14⟩
    obtain ⟨s15, rfl, p15, n15⟩ := nwx s11 w14 12 ky14
    have A14_0 := f14_0.c n15
    refine asg v14_0 rfl rfl rfl rfl rfl rfl ?_
    refine dn ?_
    refine sq ?_
    refine bl ?_
    have K18 := (Ky7.st p15 rfl)
    refine lpI (fun (x17 : (List Int)) (e : Env) (w : World) => ∃ (s : St) (e0 : Env) (vx17_0 : Value), w = s.w ∧ e = upd (upd (upd e0 1 (.int .i64 a1)) 2 (.int .i64 a2)) 8 vx17_0 ∧ Kp s0 s ∧ OwF (Kd.sl 3 (Kd.int .i64)) s [vx17_0] x17 12) ⟨s15, _, v14_0, rfl, (ue (ue (ue rfl rfl) rfl) rfl), K18, A14_0⟩ (fun g17 ih17 => ?_)
    rintro x17 _ _ ⟨s19, _, vx17_0, rfl, rfl, Kx17, Ax17_0⟩
    unfold impl_StatusSet.b0
    refine sq ?_
    refine sr ?_
    refine mv vx17_0 rfl rfl rfl rfl rfl rfl ?_
    refine ln Ax17_0.rd Try.underlying37 rfl rfl rfl rfl rfl rfl ?_
    refine pu rfl rfl rfl rfl rfl ?_
    refine pu rfl rfl rfl rfl rfl ?_
    refine dn ?_
    refine cd rfl (fun h21 => ?_) (fun h21 => ?_)
    ·
      refine sk ?_
      refine bl ?_
      refine rg ?_
      refine mv vx17_0 rfl rfl rfl rfl rfl rfl ?_
      refine ltF (K := (Kd.int .i64)) (cells := [(.int .i64 (0 : Int))]) [(0 : Int)] 13 fl_int Try.underlying37 z3 o3 (fun w => (els_flat _ _ _)) rfl rfl rfl rfl rfl rfl rfl rfl rfl rfl (fun v22 s22 p22 A22 => ?_)
      have A24 := (Ax17_0.st p22 rfl)
      refine apF fl_int sl37 A24 A22.rd rfl rfl rfl rfl rfl rfl rfl (fun v25 s25 p25 A25 => ?_)
      refine asg v25 rfl rfl rfl rfl rfl rfl ?_
      refine dn ?_
      refine ib ?_
      have K27 := ((Kx17.st p22 rfl).st p25 rfl)
      exact lb ih17 ⟨s25, _, v25, rfl, (ue (ue (ue rfl rfl) rfl) rfl), K27, A25⟩
    ·
      refine xt rfl ?_
      refine sgb ?_
      refine sr ?_
      refine mv vx17_0 rfl rfl rfl rfl rfl rfl ?_
      refine pu rfl rfl rfl rfl rfl ?_
      refine pu rfl rfl rfl rfl rfl ?_
      refine ix Ax17_0.rd Try.underlying37 z3 rfl rfl rfl rfl rfl rfl rfl rfl (fun ad28 es28 h0_28 h1_28 he28 ce28 ia28 => ?_)
      obtain rfl := he28
      refine so (x' := a2) Ax17_0 ia28 h0_28 h1_28 cs_flat z3 rfl rfl rfl rfl rfl rfl (fun s30 p30 A30 => ?_)
      refine dn ?_
      refine sr ?_
      refine mv vx17_0 rfl rfl rfl rfl rfl rfl ?_
      refine asg vx17_0 rfl rfl rfl rfl rfl rfl ?_
      refine pu rfl rfl rfl rfl rfl ?_
      refine dn ?_
      have K32 := (Kx17.st p30 rfl)
      exact re rfl Try.func54 rfl (r_t rfl (r_t rfl r_nil)) rfl ⟨_, rfl, vx17_0, rfl, A30.fo K32 rfl, z.ky K32⟩
noncomputable def impl_StatusOf.f (a0 : (List Int)) (a1 : Int) : Option (Int) :=
  ((impl_isXid.f a1).bind fun r2 => ((if ((!r2) || (decide (a1 ≥ (a0.length : Int)))) = true then (some true) else (if 0 ≤ a1 ∧ a1 < (a0.length : Int) then ((impl_within.f (at_ a0 a1) (0 : Int) (2 : Int)).bind fun r13 => (some (!r13))) else none)).bind fun y7 => (if y7 = true then (some (0 : Int)) else (if 0 ≤ a1 ∧ a1 < (a0.length : Int) then (some (at_ a0 a1)) else none))))
def impl_StatusOf.Q (w : World) (F : Nat → Prop) (r : Int) (v : Value) (w' : World) : Prop :=
  v = (.int .i64 r) ∧ Ky [] w w'
set_option maxHeartbeats 4000000 in
set_option maxRecDepth 100000 in
theorem impl_StatusOf.calls (a0 : (List Int)) (a1 : Int) (w : World) (F : Nat → Prop) (w0_0 : Value) (h0_0 : (Kd.sl 3 (Kd.int .i64)).rd w [w0_0] a0 F) (r : Int) (m : impl_StatusOf.f a0 a1 = some r) :
    Calls Try.prog 71 #[w0_0, (.int .i64 a1)] w fun en w' => ∃ v, en = .returned v ∧ impl_StatusOf.Q w F r v w' := by
  obtain ⟨s0, rfl, kp0, z⟩ := start0 w F
  have A0_0 := z.rd h0_0
  refine calls_of_TM (args := [w0_0, (.int .i64 a1)]) (R := fun r en w' => ∃ v, en = .returned v ∧ impl_StatusOf.Q s0.w F r v w') Try.func71 Try.ntmps71 rfl rfl m ?_
  unfold impl_StatusOf.f
  refine sr ?_
  refine pu rfl rfl rfl rfl rfl ?_
  refine dn ?_
  refine sq ?_
  refine sr ?_
  refine pu rfl rfl rfl rfl rfl ?_
  refine cl rfl rfl rfl rfl rfl Try.func69 rfl rfl rfl (fun r2 m2 => impl_isXid.calls a1 s0.w (fun b => memb [] (s0.g b) = true)  r2 m2) ?_
  rintro r2 _ w2 m2 ⟨rfl, ky2⟩
  obtain ⟨s3, rfl, p3, n3⟩ := nwx s0 w2 10 ky2
  refine pu rfl rfl rfl rfl rfl ?_
  refine pu rfl rfl rfl rfl rfl ?_
  refine jy [8, 9, 10, 11, 12, 13] [9, 10, 11, 12, 13, 14, 15, 16] 13 (.bool ((!r2) || (decide (a1 ≥ (a0.length : Int))))) rfl (fun Kg4 => ?_) (fun j4 => ?_)
  ·
    rcases Bool.eq_false_or_eq_true (!r2) with hb4 | hb4
    ·
      refine sbT hb4 ?_
      refine uw rfl rfl rfl rfl ?_
      refine uw rfl rfl rfl rfl ?_
      refine uw rfl rfl rfl rfl ?_
      refine uw rfl rfl rfl rfl ?_
      refine pu rfl rfl rfl rfl rfl ?_
      exact Kg4 _ (Ag.put ((Ag.put ((Ag.put ((Ag.put ((Ag.put (Ag.base rfl) rfl)) rfl)) rfl)) rfl)) rfl) (by rw [hb4]; rfl)
    ·
      refine sbT hb4 ?_
      refine pu rfl rfl rfl rfl rfl ?_
      refine mv w0_0 rfl rfl rfl rfl rfl rfl ?_
      have K5 := (kp0.st p3 rfl)
      have A6 := (A0_0.kp K5)
      refine ln A6 Try.underlying37 rfl rfl rfl rfl rfl rfl ?_
      refine pu rfl rfl rfl rfl rfl ?_
      refine pu rfl rfl rfl rfl rfl ?_
      exact Kg4 _ (Ag.put ((Ag.put ((Ag.put ((Ag.put ((Ag.put (Ag.base rfl) rfl)) rfl)) rfl)) rfl)) rfl) (by rw [hb4]; rfl)
  refine pu rfl rfl rfl rfl rfl ?_
  refine ji [] (fun (y7 : Bool) (e : Env) (w : World) => ∃ (s : St) (e0 : Env), w = s.w ∧ e = upd (upd (upd e0 0 w0_0) 1 (.int .i64 a1)) 21 (.bool y7) ∧ Kp s0 s) (fun Gj7 Kj7 => ?_) ?_
  ·
    rcases Bool.eq_false_or_eq_true ((!r2) || (decide (a1 ≥ (a0.length : Int)))) with hb7 | hb7
    ·
      refine sbT hb7 ?_
      rw [if_pos hb7]
      refine uw rfl rfl rfl rfl ?_
      refine uw rfl rfl rfl rfl ?_
      refine uw rfl rfl rfl rfl ?_
      refine uw rfl rfl rfl rfl ?_
      refine uw rfl rfl rfl rfl ?_
      refine uw rfl rfl rfl rfl ?_
      refine pu rfl rfl rfl rfl rfl ?_
      have K8 := (kp0.st p3 rfl)
      exact Kj7 _ _ _ ⟨s3, _, rfl, (ue (ue (ue rfl rfl) rfl) rfl), K8⟩
    ·
      refine sbT hb7 ?_
      rw [if_neg (by rw [hb7]; decide)]
      refine mv w0_0 rfl rfl rfl rfl rfl rfl ?_
      refine pu rfl rfl rfl rfl rfl ?_
      have K9 := (kp0.st p3 rfl)
      have A10 := (A0_0.kp K9)
      refine ix A10 Try.underlying37 z3 rfl rfl rfl rfl rfl rfl rfl rfl (fun ad11 es11 h0_11 h1_11 he11 ce11 ia11 => ?_)
      obtain rfl := he11
      refine lc0 ce11 Try.underlying3 rfl rfl rfl rfl rfl rfl rfl rfl ?_
      refine cl rfl rfl rfl rfl rfl Try.func34 rfl rfl rfl (fun r13 m13 => impl_within.calls (at_ a0 a1) (0 : Int) (2 : Int) s3.w (fun b => memb [] (s3.g b) = true)  r13 m13) ?_
      rintro r13 _ w13 m13 ⟨rfl, ky13⟩
      obtain ⟨s14, rfl, p14, n14⟩ := nwx s3 w13 11 ky13
      refine pu rfl rfl rfl rfl rfl ?_
      refine pu rfl rfl rfl rfl rfl ?_
      have K15 := (K9.st p14 rfl)
      exact Kj7 _ _ _ ⟨s14, _, rfl, (ue (ue (ue rfl rfl) rfl) rfl), K15⟩
  rintro y7 _ _ ⟨s16, _, rfl, rfl, Ky7⟩
  refine dn ?_
  refine cd rfl (fun h17 => ?_) (fun h17 => ?_)
  ·
    refine sr ?_
    refine pu rfl rfl rfl rfl rfl ?_
    refine dn ?_
    exact re rfl Try.func71 rfl (r_t rfl r_nil) rfl ⟨_, rfl, rfl, z.ky Ky7⟩
  ·
    refine sk ?_
    refine sr ?_
    refine mv w0_0 rfl rfl rfl rfl rfl rfl ?_
    refine pu rfl rfl rfl rfl rfl ?_
    have A18 := (A0_0.kp Ky7)
    refine ix A18 Try.underlying37 z3 rfl rfl rfl rfl rfl rfl rfl rfl (fun ad19 es19 h0_19 h1_19 he19 ce19 ia19 => ?_)
    obtain rfl := he19
    refine lc0 ce19 Try.underlying3 rfl rfl rfl rfl rfl rfl rfl rfl ?_
    refine pu rfl rfl rfl rfl rfl ?_
    refine dn ?_
    exact re rfl Try.func71 rfl (r_t rfl r_nil) rfl ⟨_, rfl, rfl, z.ky Ky7⟩
noncomputable def impl_StatusSettle.b0 (a0 : (List Int)) (a1 : Int) (x8 : (List Int) × Int) : Option (((List Int) × Int) ⊕ (List Int)) :=
  (if (decide (x8.2 < a1)) = true then (if 0 ≤ x8.2 ∧ x8.2 < (x8.1.length : Int) then ((impl_StatusOf.f a0 x8.2).bind fun r19 => ((if (r19 == (1 : Int)) = true then (if 0 ≤ x8.2 ∧ x8.2 < ((x8.1.set (x8.2).toNat (2 : Int)).length : Int) then (some ((x8.1.set (x8.2).toNat (2 : Int)).set (x8.2).toNat (1 : Int))) else none) else (some (x8.1.set (x8.2).toNat (2 : Int)))).bind fun y21 => (some (.inl (y21, (IntKind.wrap .i64 (x8.2 + (1 : Int)))))))) else none) else ((some x8.1).bind fun o => some (.inr o)))
noncomputable def impl_StatusSettle.f (a0 : (List Int)) (a1 : Int) : Option ((List Int)) :=
  ((impl_within.f a1 (0 : Int) (401 : Int)).bind fun r2 => (if (!r2) = true then (some ([] : (List Int))) else (if 0 ≤ a1 ∧ a1 ≤ (Lim : Int) then (iter (impl_StatusSettle.b0 a0 a1) ((List.replicate (a1).toNat (0 : Int)), (1 : Int))) else none)))
def impl_StatusSettle.Q (w : World) (F : Nat → Prop) (r : (List Int)) (v : Value) (w' : World) : Prop :=
  FO (Kd.sl 3 (Kd.int .i64)) w w' [v] r ∧ Ky [] w w'
set_option maxHeartbeats 4000000 in
set_option maxRecDepth 100000 in
theorem impl_StatusSettle.calls (a0 : (List Int)) (a1 : Int) (w : World) (F : Nat → Prop) (w0_0 : Value) (h0_0 : (Kd.sl 3 (Kd.int .i64)).rd w [w0_0] a0 F) (r : (List Int)) (m : impl_StatusSettle.f a0 a1 = some r) :
    Calls Try.prog 55 #[w0_0, (.int .i64 a1)] w fun en w' => ∃ v, en = .returned v ∧ impl_StatusSettle.Q w F r v w' := by
  obtain ⟨s0, rfl, kp0, z⟩ := start0 w F
  have A0_0 := z.rd h0_0
  refine calls_of_TM (args := [w0_0, (.int .i64 a1)]) (R := fun r en w' => ∃ v, en = .returned v ∧ impl_StatusSettle.Q s0.w F r v w') Try.func55 Try.ntmps55 rfl rfl m ?_
  unfold impl_StatusSettle.f
  refine sr ?_
  refine pu rfl rfl rfl rfl rfl ?_
  refine dn ?_
  refine sq ?_
  refine sr ?_
  refine pu rfl rfl rfl rfl rfl ?_
  refine cl rfl rfl rfl rfl rfl Try.func34 rfl rfl rfl (fun r2 m2 => impl_within.calls a1 (0 : Int) (401 : Int) s0.w (fun b => memb [] (s0.g b) = true)  r2 m2) ?_
  rintro r2 _ w2 m2 ⟨rfl, ky2⟩
  obtain ⟨s3, rfl, p3, n3⟩ := nwx s0 w2 10 ky2
  refine pu rfl rfl rfl rfl rfl ?_
  refine dn ?_
  refine cd rfl (fun h4 => ?_) (fun h4 => ?_)
  ·
    refine sr ?_
    refine pu rfl rfl rfl rfl rfl ?_
    refine dn ?_
    have K5 := (kp0.st p3 rfl)
    exact re rfl Try.func55 rfl (r_t rfl r_nil) rfl ⟨_, rfl, (ow_nil 3 (Kd.int .i64) s3 10).fo K5 rfl, z.ky K5⟩
  ·
    refine sk ?_
    refine sr ?_
    refine pu rfl rfl rfl rfl rfl ?_
    refine mk (x0 := (0 : Int)) (K := (Kd.int .i64)) 11 sl37 o3 (fun _ => ⟨rfl, rfl⟩) rfl rfl rfl rfl rfl rfl rfl (fun v6 s6 p6 A6 => ?_)
    refine asg v6 rfl rfl rfl rfl rfl rfl ?_
    refine dn ?_
    refine sq ?_
    refine sr ?_
    refine pu rfl rfl rfl rfl rfl ?_
    refine dn ?_
    refine bl ?_
    have K9 := ((kp0.st p3 rfl).st p6 rfl)
    refine lpI (fun (x8 : (List Int) × Int) (e : Env) (w : World) => ∃ (s : St) (e0 : Env), w = s.w ∧ e = upd (upd (upd (upd e0 0 w0_0) 1 (.int .i64 a1)) 5 v6) 6 (.int .i64 x8.2) ∧ Kp s0 s ∧ OwF (Kd.sl 3 (Kd.int .i64)) s [v6] x8.1 11) ⟨s6, _, rfl, (ue (ue (ue (ue rfl rfl) rfl) rfl) rfl), K9, A6⟩ (fun g8 ih8 => ?_)
    rintro x8 _ _ ⟨s10, _, rfl, rfl, Kx8, Ax8_0⟩
    unfold impl_StatusSettle.b0
    refine sq ?_
    refine sr ?_
    refine pu rfl rfl rfl rfl rfl ?_
    refine pu rfl rfl rfl rfl rfl ?_
    refine pu rfl rfl rfl rfl rfl ?_
    refine dn ?_
    refine cd rfl (fun h12 => ?_) (fun h12 => ?_)
    ·
      refine sk ?_
      refine sq ?_
      refine bl ?_
      refine sr ?_
      refine mv v6 rfl rfl rfl rfl rfl rfl ?_
      refine pu rfl rfl rfl rfl rfl ?_
      refine ix Ax8_0.rd Try.underlying37 z3 rfl rfl rfl rfl rfl rfl rfl rfl (fun ad13 es13 h0_13 h1_13 he13 ce13 ia13 => ?_)
      obtain rfl := he13
      refine so (x' := (2 : Int)) Ax8_0 ia13 h0_13 h1_13 cs_flat z3 rfl rfl rfl rfl rfl rfl (fun s15 p15 A15 => ?_)
      refine dn ?_
      refine sr ?_
      refine mv w0_0 rfl rfl rfl rfl rfl rfl ?_
      refine pu rfl rfl rfl rfl rfl ?_
      have K17 := (Kx8.st p15 rfl)
      have A18 := (A0_0.kp K17)
      refine cl rfl rfl rfl rfl rfl Try.func71 rfl rfl rfl (fun r19 m19 => impl_StatusOf.calls a0 x8.2 s15.w (fun b => memb [0] (s15.g b) = true) w0_0 A18 r19 m19) ?_
      rintro r19 _ w19 m19 ⟨rfl, ky19⟩
      obtain ⟨s20, rfl, p20, n20⟩ := nwx s15 w19 12 ky19
      refine pu rfl rfl rfl rfl rfl ?_
      refine dn ?_
      refine jc (fun (y21 : (List Int)) (e : Env) (w : World) => ∃ (s : St) (e0 : Env), w = s.w ∧ e = upd (upd (upd (upd e0 0 w0_0) 1 (.int .i64 a1)) 5 v6) 6 (.int .i64 x8.2) ∧ Kp s0 s ∧ OwF (Kd.sl 3 (Kd.int .i64)) s [v6] y21 11) (fun Gj21 Kj21 => ?_) ?_
      ·
        refine cd rfl (fun h22 => ?_) (fun h22 => ?_)
        ·
          refine rg ?_
          refine mv v6 rfl rfl rfl rfl rfl rfl ?_
          refine pu rfl rfl rfl rfl rfl ?_
          have A23 := (A15.st p20 rfl)
          refine ix A23.rd Try.underlying37 z3 rfl rfl rfl rfl rfl rfl rfl rfl (fun ad24 es24 h0_24 h1_24 he24 ce24 ia24 => ?_)
          obtain rfl := he24
          refine so (x' := (1 : Int)) A23 ia24 h0_24 h1_24 cs_flat z3 rfl rfl rfl rfl rfl rfl (fun s26 p26 A26 => ?_)
          refine dn ?_
          have K28 := ((K17.st p20 rfl).st p26 rfl)
          exact Kj21 _ _ _ ⟨s26, _, rfl, (ue (ue (ue (ue rfl rfl) rfl) rfl) rfl), K28, A26⟩
        ·
          refine sk ?_
          have A29 := (A15.st p20 rfl)
          have K30 := (K17.st p20 rfl)
          exact Kj21 _ _ _ ⟨s20, _, rfl, (ue (ue (ue (ue rfl rfl) rfl) rfl) rfl), K30, A29⟩
      rintro y21 _ _ ⟨s31, _, rfl, rfl, Ky21, Ay21_0⟩
      refine ib ?_
      refine rg ?_
      refine pu rfl rfl rfl rfl rfl ?_
      refine pu rfl rfl rfl rfl rfl ?_
      refine pu rfl rfl rfl rfl rfl ?_
      refine dn ?_
      exact lb ih8 ⟨s31, _, rfl, (ue (ue (ue (ue rfl rfl) rfl) rfl) rfl), Ky21, Ay21_0⟩
    ·
      refine xt rfl ?_
      refine sgb ?_
      refine sr ?_
      refine mv v6 rfl rfl rfl rfl rfl rfl ?_
      refine asg v6 rfl rfl rfl rfl rfl rfl ?_
      refine dn ?_
      exact re rfl Try.func55 rfl (r_t rfl r_nil) rfl ⟨_, rfl, Ax8_0.fo Kx8 rfl, z.ky Kx8⟩
noncomputable def impl_RedoList.b0 (a1 : (List Record)) (x16 : Int × (List Int) × Int) : Option ((Int × (List Int) × Int) ⊕ ((List Int) × Int)) :=
  (if (decide (x16.2.2 < (a1.length : Int))) = true then (if 0 ≤ x16.2.2 ∧ x16.2.2 < (a1.length : Int) then ((if ((at_ a1 x16.2.2).Kind == (5 : Int)) = true then ((impl_StatusSet.f x16.2.1 ((at_ a1 x16.2.2).Xid) (1 : Int)).bind fun r33 => (some r33.1)) else (some x16.2.1)).bind fun y30 => (some (.inl ((if (IntKind.wrap .i64 ((at_ a1 x16.2.2).Xid + (1 : Int))) > x16.1 then (IntKind.wrap .i64 ((at_ a1 x16.2.2).Xid + (1 : Int))) else x16.1), y30, (IntKind.wrap .i64 (x16.2.2 + (1 : Int))))))) else none) else (((impl_StatusSettle.f x16.2.1 x16.1).bind fun r41 => (some (r41, x16.1))).bind fun o => some (.inr o)))
noncomputable def impl_RedoList.f (a0 : (List Int)) (a1 : (List Record)) (a2 : Int) : Option ((List Int) × Int) :=
  ((if (decide ((a0.length : Int) > (401 : Int))) = true then (some true) else ((impl_within.f a2 (1 : Int) (401 : Int)).bind fun r4 => (some (!r4)))).bind fun y3 => ((if y3 = true then (some true) else ((impl_areAll_impl_Record.f a1 impl_RecordOk.f).bind fun r10 => (some (!r10)))).bind fun y8 => (if y8 = true then (some (([] : (List Int)), (0 : Int))) else (iter (impl_RedoList.b0 a1) (a2, a0, (0 : Int))))))
def impl_RedoList.Q (w : World) (F : Nat → Prop) (r : (List Int) × Int) (v : Value) (w' : World) : Prop :=
  ∃ (v0 : Value), v = .tuple #[v0, (.int .i64 r.2)] ∧ FO (Kd.sl 3 (Kd.int .i64)) w w' [v0] r.1 ∧ Ky [] w w'
set_option maxHeartbeats 4000000 in
set_option maxRecDepth 100000 in
theorem impl_RedoList.calls (a0 : (List Int)) (a1 : (List Record)) (a2 : Int) (w : World) (F : Nat → Prop) (w0_0 : Value) (w1_0 : Value) (h0_0 : (Kd.sl 3 (Kd.int .i64)).rd w [w0_0] a0 F) (h1_0 : (Kd.sl 68 kd68).rd w [w1_0] a1 F) (r : (List Int) × Int) (m : impl_RedoList.f a0 a1 a2 = some r) :
    Calls Try.prog 24 #[w0_0, w1_0, (.int .i64 a2)] w fun en w' => ∃ v, en = .returned v ∧ impl_RedoList.Q w F r v w' := by
  obtain ⟨s0, rfl, kp0, z⟩ := start0 w F
  have A0_0 := z.rd h0_0
  have A1_0 := z.rd h1_0
  refine calls_of_TM (args := [w0_0, w1_0, (.int .i64 a2)]) (R := fun r en w' => ∃ v, en = .returned v ∧ impl_RedoList.Q s0.w F r v w') Try.func24 Try.ntmps24 rfl rfl m ?_
  unfold impl_RedoList.f
  refine sr ?_
  refine pu rfl rfl rfl rfl rfl ?_
  refine pu rfl rfl rfl rfl rfl ?_
  refine dn ?_
  refine sq ?_
  refine sr ?_
  refine mv w0_0 rfl rfl rfl rfl rfl rfl ?_
  refine ln A0_0 Try.underlying37 rfl rfl rfl rfl rfl rfl ?_
  refine pu rfl rfl rfl rfl rfl ?_
  refine pu rfl rfl rfl rfl rfl ?_
  refine ji [8, 9, 10, 11, 12] (fun (y3 : Bool) (e : Env) (w : World) => ∃ (s : St) (e0 : Env), w = s.w ∧ e = upd (upd (upd (upd e0 0 w0_0) 1 w1_0) 2 (.int .i64 a2)) 18 (.bool y3) ∧ Kp s0 s) (fun Gj3 Kj3 => ?_) ?_
  ·
    rcases Bool.eq_false_or_eq_true (decide ((a0.length : Int) > (401 : Int))) with hb3 | hb3
    ·
      refine sbT hb3 ?_
      rw [if_pos hb3]
      refine uw rfl rfl rfl rfl ?_
      refine uw rfl rfl rfl rfl ?_
      refine uw rfl rfl rfl rfl ?_
      refine pu rfl rfl rfl rfl rfl ?_
      exact Kj3 _ _ _ ⟨s0, _, rfl, (ue (ue (ue (ue rfl rfl) rfl) rfl) rfl), kp0⟩
    ·
      refine sbT hb3 ?_
      rw [if_neg (by rw [hb3]; decide)]
      refine pu rfl rfl rfl rfl rfl ?_
      refine cl rfl rfl rfl rfl rfl Try.func34 rfl rfl rfl (fun r4 m4 => impl_within.calls a2 (1 : Int) (401 : Int) s0.w (fun b => memb [] (s0.g b) = true)  r4 m4) ?_
      rintro r4 _ w4 m4 ⟨rfl, ky4⟩
      obtain ⟨s5, rfl, p5, n5⟩ := nwx s0 w4 10 ky4
      refine pu rfl rfl rfl rfl rfl ?_
      refine pu rfl rfl rfl rfl rfl ?_
      have K6 := (kp0.st p5 rfl)
      exact Kj3 _ _ _ ⟨s5, _, rfl, (ue (ue (ue (ue rfl rfl) rfl) rfl) rfl), K6⟩
  rintro y3 _ _ ⟨s7, _, rfl, rfl, Ky3⟩
  refine pu rfl rfl rfl rfl rfl ?_
  refine ji [] (fun (y8 : Bool) (e : Env) (w : World) => ∃ (s : St) (e0 : Env), w = s.w ∧ e = upd (upd (upd (upd e0 0 w0_0) 1 w1_0) 2 (.int .i64 a2)) 23 (.bool y8) ∧ Kp s0 s) (fun Gj8 Kj8 => ?_) ?_
  ·
    rcases Bool.eq_false_or_eq_true y3 with hb8 | hb8
    ·
      refine sbT hb8 ?_
      rw [if_pos hb8]
      refine uw rfl rfl rfl rfl ?_
      refine uw rfl rfl rfl rfl ?_
      refine uw rfl rfl rfl rfl ?_
      refine pu rfl rfl rfl rfl rfl ?_
      exact Kj8 _ _ _ ⟨s7, _, rfl, (ue (ue (ue (ue rfl rfl) rfl) rfl) rfl), Ky3⟩
    ·
      refine sbT hb8 ?_
      rw [if_neg (by rw [hb8]; decide)]
      refine mv w1_0 rfl rfl rfl rfl rfl rfl ?_
      have A9 := (A1_0.kp Ky3)
      refine cl rfl rfl rfl rfl rfl Try.func52 rfl rfl rfl (fun r10 m10 => impl_areAll_impl_Record.calls a1 impl_RecordOk.f s7.w (fun b => memb [0] (s7.g b) = true) w1_0 (.func (.func 53) #[] #[]) A9 (fun x0 u0_0 w' k h0 r m =>  ⟨53, _, _, [], [], rfl, Try.func53, rfl, rfl, (impl_RecordOk.calls x0 w' (fun _ => True) u0_0 h0 r m).mono fun en w2 hq => by obtain ⟨v, e, q⟩ := hq; exact ⟨v, e, q⟩⟩) rfl r10 m10) ?_
      rintro r10 _ w10 m10 ⟨rfl, ky10⟩
      obtain ⟨s11, rfl, p11, n11⟩ := nwx s7 w10 11 ky10
      refine pu rfl rfl rfl rfl rfl ?_
      refine pu rfl rfl rfl rfl rfl ?_
      have K12 := (Ky3.st p11 rfl)
      exact Kj8 _ _ _ ⟨s11, _, rfl, (ue (ue (ue (ue rfl rfl) rfl) rfl) rfl), K12⟩
  rintro y8 _ _ ⟨s13, _, rfl, rfl, Ky8⟩
  refine dn ?_
  refine cd rfl (fun h14 => ?_) (fun h14 => ?_)
  ·
    refine sr ?_
    refine pu rfl rfl rfl rfl rfl ?_
    refine pu rfl rfl rfl rfl rfl ?_
    refine dn ?_
    exact re rfl Try.func24 rfl (r_t rfl (r_t rfl r_nil)) rfl ⟨_, rfl, (.slice none 0 0), rfl, (ow_nil 3 (Kd.int .i64) s13 10).fo Ky8 rfl, z.ky Ky8⟩
  ·
    refine sk ?_
    refine sr ?_
    refine mv w0_0 rfl rfl rfl rfl rfl rfl ?_
    refine asg w0_0 rfl rfl rfl rfl rfl rfl ?_
    refine dn ?_
    refine sq ?_
    refine sr ?_
    refine mv w1_0 rfl rfl rfl rfl rfl rfl ?_
    have A15 := (A1_0.kp Ky8)
    refine ln A15 Try.underlying43 rfl rfl rfl rfl rfl rfl ?_
    refine pu rfl rfl rfl rfl rfl ?_
    refine dn ?_
    refine bl ?_
    have A17 := (A0_0.kp Ky8)
    refine lpI (fun (x16 : Int × (List Int) × Int) (e : Env) (w : World) => ∃ (s : St) (e0 : Env) (vx16_0 : Value), w = s.w ∧ e = upd (upd (upd (upd (upd e0 2 (.int .i64 x16.1)) 8 vx16_0) 25 w1_0) 26 (.int .i64 (a1.length : Int))) 27 (.int .i64 x16.2.2) ∧ Kp s0 s ∧ RdF (Kd.sl 3 (Kd.int .i64)) s [vx16_0] x16.2.1 [0, 13]) ⟨s13, _, w0_0, rfl, (ue (ue (ue (ue (ue rfl rfl) rfl) rfl) rfl) rfl), Ky8, (A17.sub rfl)⟩ (fun g16 ih16 => ?_)
    rintro x16 _ _ ⟨s18, _, vx16_0, rfl, rfl, Kx16, Ax16_0⟩
    unfold impl_RedoList.b0
    refine sr ?_
    refine pu rfl rfl rfl rfl rfl ?_
    refine dn ?_
    refine sq ?_
    refine cd rfl (fun h20 => ?_) (fun h20 => ?_)
    ·
      refine sk ?_
      refine sq ?_
      refine bl ?_
      refine sr ?_
      have A21 := (A1_0.kp Kx16)
      refine ix A21 Try.underlying43 z68 rfl rfl rfl rfl rfl rfl rfl rfl (fun ad22 es22 h0_22 h1_22 he22 ce22 ia22 => ?_)
      obtain ⟨v22_0, rfl, A22_0⟩ := op68 he22
      refine lca ce22 Try.underlying68 z68 rfl rfl rfl rfl rfl rfl rfl ?_
      refine al (cs := [(.int .i64 (0 : Int)), (.int .i64 (0 : Int)), (.int .i64 (0 : Int)), (.int .i64 (0 : Int)), (.int .i64 (0 : Int)), (.slice none 0 0)]) 12 rfl rfl rfl rfl rfl o68 rfl (fun b25 s25 p25 B25 => ?_)
      have A27 := (A22_0.st p25 rfl)
      refine sva (vs := [(.int .i64 ((at_ a1 x16.2.2).Kind)), (.int .i64 ((at_ a1 x16.2.2).Lsn)), (.int .i64 ((at_ a1 x16.2.2).Xid)), (.int .i64 ((at_ a1 x16.2.2).Page)), (.int .i64 ((at_ a1 x16.2.2).Slot)), v22_0]) B25 z68 rfl rfl rfl rfl rfl rfl (on_cons rfl (on_cons rfl (on_cons rfl (on_cons rfl (on_cons rfl (on_cons A27.one on_nil)))))) rfl (fun s28 p28 B28 => ?_)
      refine dn ?_
      refine sr ?_
      refine pu rfl rfl rfl rfl rfl ?_
      refine fa fa68_2 rfl rfl rfl rfl rfl rfl ?_
      refine ld B28 Try.underlying3 rfl rfl rfl rfl rfl rfl rfl rfl ?_
      refine pu rfl rfl rfl rfl rfl ?_
      refine mx rfl rfl rfl rfl rfl rfl rfl ?_
      refine pu rfl rfl rfl rfl rfl ?_
      refine dn ?_
      refine sr ?_
      refine fa fa68_0 rfl rfl rfl rfl rfl rfl ?_
      refine ld B28 Try.underlying3 rfl rfl rfl rfl rfl rfl rfl rfl ?_
      refine pu rfl rfl rfl rfl rfl ?_
      refine dn ?_
      refine jc (fun (y30 : (List Int)) (e : Env) (w : World) => ∃ (s : St) (e0 : Env) (vy30_0 : Value), w = s.w ∧ e = upd (upd (upd (upd (upd e0 2 (.int .i64 (if (IntKind.wrap .i64 ((at_ a1 x16.2.2).Xid + (1 : Int))) > x16.1 then (IntKind.wrap .i64 ((at_ a1 x16.2.2).Xid + (1 : Int))) else x16.1))) 8 vy30_0) 25 w1_0) 26 (.int .i64 (a1.length : Int))) 27 (.int .i64 x16.2.2) ∧ Kp s0 s ∧ RdF (Kd.sl 3 (Kd.int .i64)) s [vy30_0] y30 [13, 0]) (fun Gj30 Kj30 => ?_) ?_
      ·
        refine cd rfl (fun h31 => ?_) (fun h31 => ?_)
        ·
          refine rg ?_
          refine mv vx16_0 rfl rfl rfl rfl rfl rfl ?_
          refine fa fa68_2 rfl rfl rfl rfl rfl rfl ?_
          refine ld B28 Try.underlying3 rfl rfl rfl rfl rfl rfl rfl rfl ?_
          have A32 := ((Ax16_0.st p25 rfl).st p28 rfl)
          refine cl rfl rfl rfl rfl rfl Try.func54 rfl rfl rfl (fun r33 m33 => impl_StatusSet.calls x16.2.1 ((at_ a1 x16.2.2).Xid) (1 : Int) s28.w (fun b => memb [0, 13] (s28.g b) = true) vx16_0 A32 r33 m33) ?_
          rintro r33 _ w33 m33 ⟨v33_0, rfl, f33_0, ky33⟩
          obtain ⟨s34, rfl, p34, n34⟩ := nwx s28 w33 13 ky33
          have A33_0 := f33_0.c n34
          refine pu rfl rfl rfl rfl rfl ?_
          refine pu (v := v33_0) rfl rfl rfl rfl rfl ?_
          refine pu (v := (.bool r33.2)) rfl rfl rfl rfl rfl ?_
          refine asg v33_0 rfl rfl rfl rfl rfl rfl ?_
          refine dn ?_
          have K36 := (((Kx16.st p25 rfl).st p28 rfl).st p34 rfl)
          exact Kj30 _ _ _ ⟨s34, _, v33_0, rfl, (ue (ue (ue (ue (ue rfl rfl) rfl) rfl) rfl) rfl), K36, (A33_0.rd.sub rfl)⟩
        ·
          refine sk ?_
          have A37 := ((Ax16_0.st p25 rfl).st p28 rfl)
          have K38 := ((Kx16.st p25 rfl).st p28 rfl)
          exact Kj30 _ _ _ ⟨s28, _, vx16_0, rfl, (ue (ue (ue (ue (ue rfl rfl) rfl) rfl) rfl) rfl), K38, (A37.sub rfl)⟩
      rintro y30 _ _ ⟨s39, _, vy30_0, rfl, rfl, Ky30, Ay30_0⟩
      refine ib ?_
      refine rg ?_
      refine pu rfl rfl rfl rfl rfl ?_
      refine pu rfl rfl rfl rfl rfl ?_
      refine dn ?_
      exact lb ih16 ⟨s39, _, vy30_0, rfl, (ue (ue (ue (ue (ue rfl rfl) rfl) rfl) rfl) rfl), Ky30, (Ay30_0.sub rfl)⟩
    ·
      refine xt rfl ?_
      refine sgb ?_
      refine sr ?_
      refine mv vx16_0 rfl rfl rfl rfl rfl rfl ?_
      refine pu rfl rfl rfl rfl rfl ?_
      refine cl rfl rfl rfl rfl rfl Try.func55 rfl rfl rfl (fun r41 m41 => impl_StatusSettle.calls x16.2.1 x16.1 s18.w (fun b => memb [0, 13] (s18.g b) = true) vx16_0 Ax16_0 r41 m41) ?_
      rintro r41 v41_0 w41 m41 ⟨f41_0, ky41⟩
      obtain ⟨s42, rfl, p42, n42⟩ := nwx s18 w41 14 ky41
      have A41_0 := f41_0.c n42
      refine pu rfl rfl rfl rfl rfl ?_
      refine asg v41_0 rfl rfl rfl rfl rfl rfl ?_
      refine pu rfl rfl rfl rfl rfl ?_
      refine dn ?_
      have K44 := (Kx16.st p42 rfl)
      exact re rfl Try.func24 rfl (r_t rfl (r_t rfl r_nil)) rfl ⟨_, rfl, v41_0, rfl, A41_0.fo K44 rfl, z.ky K44⟩
noncomputable def laws_eqIntS.b0 (a0 : (List Int)) (a1 : (List Int)) (x4 : Int) : Option (Int ⊕ Bool) :=
  (if (decide (x4 < (a0.length : Int))) = true then (if 0 ≤ x4 ∧ x4 < (a0.length : Int) then (if 0 ≤ x4 ∧ x4 < (a1.length : Int) then (if ((at_ a0 x4) != (at_ a1 x4)) = true then (some (.inr false)) else (some (.inl (IntKind.wrap .i64 (x4 + (1 : Int)))))) else none) else none) else ((some true).bind fun o => some (.inr o)))
noncomputable def laws_eqIntS.f (a0 : (List Int)) (a1 : (List Int)) : Option (Bool) :=
  (if ((a0.length : Int) != (a1.length : Int)) = true then (some false) else (iter (laws_eqIntS.b0 a0 a1) (0 : Int)))
def laws_eqIntS.Q (w : World) (F : Nat → Prop) (r : Bool) (v : Value) (w' : World) : Prop :=
  v = (.bool r) ∧ Ky [] w w'
set_option maxHeartbeats 4000000 in
set_option maxRecDepth 100000 in
theorem laws_eqIntS.calls (a0 : (List Int)) (a1 : (List Int)) (w : World) (F : Nat → Prop) (w0_0 : Value) (w1_0 : Value) (h0_0 : (Kd.sl 3 (Kd.int .i64)).rd w [w0_0] a0 F) (h1_0 : (Kd.sl 3 (Kd.int .i64)).rd w [w1_0] a1 F) (r : Bool) (m : laws_eqIntS.f a0 a1 = some r) :
    Calls Try.prog 25 #[w0_0, w1_0] w fun en w' => ∃ v, en = .returned v ∧ laws_eqIntS.Q w F r v w' := by
  obtain ⟨s0, rfl, kp0, z⟩ := start0 w F
  have A0_0 := z.rd h0_0
  have A1_0 := z.rd h1_0
  refine calls_of_TM (args := [w0_0, w1_0]) (R := fun r en w' => ∃ v, en = .returned v ∧ laws_eqIntS.Q s0.w F r v w') Try.func25 Try.ntmps25 rfl rfl m ?_
  unfold laws_eqIntS.f
  refine sr ?_
  refine pu rfl rfl rfl rfl rfl ?_
  refine dn ?_
  refine sq ?_
  refine sr ?_
  refine mv w0_0 rfl rfl rfl rfl rfl rfl ?_
  refine ln A0_0 Try.underlying37 rfl rfl rfl rfl rfl rfl ?_
  refine mv w1_0 rfl rfl rfl rfl rfl rfl ?_
  refine ln A1_0 Try.underlying37 rfl rfl rfl rfl rfl rfl ?_
  refine pu rfl rfl rfl rfl rfl ?_
  refine dn ?_
  refine cd rfl (fun h3 => ?_) (fun h3 => ?_)
  ·
    refine sr ?_
    refine pu rfl rfl rfl rfl rfl ?_
    refine dn ?_
    exact re rfl Try.func25 rfl (r_t rfl r_nil) rfl ⟨_, rfl, rfl, z.ky kp0⟩
  ·
    refine sk ?_
    refine sq ?_
    refine sr ?_
    refine pu rfl rfl rfl rfl rfl ?_
    refine dn ?_
    refine bl ?_
    refine lpI (fun (x4 : Int) (e : Env) (w : World) => ∃ (s : St) (e0 : Env), w = s.w ∧ e = upd (upd (upd e0 0 w0_0) 1 w1_0) 5 (.int .i64 x4) ∧ Kp s0 s) ⟨s0, _, rfl, (ue (ue (ue rfl rfl) rfl) rfl), kp0⟩ (fun g4 ih4 => ?_)
    rintro x4 _ _ ⟨s5, _, rfl, rfl, Kx4⟩
    unfold laws_eqIntS.b0
    refine sq ?_
    refine sr ?_
    refine pu rfl rfl rfl rfl rfl ?_
    refine mv w0_0 rfl rfl rfl rfl rfl rfl ?_
    have A6 := (A0_0.kp Kx4)
    refine ln A6 Try.underlying37 rfl rfl rfl rfl rfl rfl ?_
    refine pu rfl rfl rfl rfl rfl ?_
    refine dn ?_
    refine cd rfl (fun h7 => ?_) (fun h7 => ?_)
    ·
      refine sk ?_
      refine sq ?_
      refine bl ?_
      refine sq ?_
      refine zdraw [[], [], [0, 1], [2], [], [], [4, 5], [6], [3, 7]] [some 17, some 18, some 19, some 20, some 21, some 22, some 23, some 24, some 25] [[0], [5], [17, 18], [19], [1], [5], [21, 22], [23], [20, 24]] [0, 1, 2, 3, 4, 5, 6, 7, 8] ⟨by kernel_rfl, by kernel_rfl, by kernel_rfl⟩ (by kernel_rfl) (fun s8 p8 l8 tb8 zd8 => ?_)
      have zd9 := zd8.add 0 17 w0_0 rfl
      have zd10 := zd9.add 1 18 (.int .i64 x4) rfl
      have K11 := (Kx4.st p8 rfl)
      have A12 := (A0_0.kp K11)
      refine mg fun hg13 => ?_
      obtain ⟨ad13, es13, he13, ce13, ia13⟩ := ix_e A12 rfl hg13.1 hg13.2
      have h0_13 := hg13.1
      have h1_13 := hg13.2
      obtain rfl := he13
      have zd15 := zd10.add 2 19 (.pointer (some ad13)) rfl
      have zd16 := zd15.add 3 20 (.int .i64 (at_ a0 x4)) rfl
      have zd17 := zd16.add 4 21 w1_0 rfl
      have zd18 := zd17.add 5 22 (.int .i64 x4) rfl
      have A19 := (A1_0.kp K11)
      refine mg fun hg20 => ?_
      obtain ⟨ad20, es20, he20, ce20, ia20⟩ := ix_e A19 rfl hg20.1 hg20.2
      have h0_20 := hg20.1
      have h1_20 := hg20.2
      obtain rfl := he20
      have zd22 := zd18.add 6 23 (.pointer (some ad20)) rfl
      have zd23 := zd22.add 7 24 (.int .i64 (at_ a1 x4)) rfl
      refine zfin [8] tb8 zd23 (pq_cons (lc0_q ce20 Try.underlying3 rfl rfl rfl rfl rfl rfl rfl rfl) rfl (pq_cons (ix_q A19 Try.underlying37 z3 hg20.1 hg20.2 ia20 rfl rfl rfl rfl rfl rfl rfl) rfl (pq_cons (pu_q rfl rfl rfl rfl rfl rfl) rfl (pq_cons (mv_q w1_0 rfl rfl rfl rfl rfl rfl) rfl (pq_cons (lc0_q ce13 Try.underlying3 rfl rfl rfl rfl rfl rfl rfl rfl) rfl (pq_cons (ix_q A12 Try.underlying37 z3 hg13.1 hg13.2 ia13 rfl rfl rfl rfl rfl rfl rfl) rfl (pq_cons (pu_q rfl rfl rfl rfl rfl rfl) rfl (pq_cons (mv_q w0_0 rfl rfl rfl rfl rfl rfl) rfl pq_nil)))))))) (by kernel_rfl) (by decide) ?_
      refine pu rfl rfl rfl rfl rfl ?_
      refine dn ?_
      refine cd rfl (fun h24 => ?_) (fun h24 => ?_)
      ·
        refine sr ?_
        refine pu rfl rfl rfl rfl rfl ?_
        refine dn ?_
        refine sgi ?_
        exact re rfl Try.func25 rfl (r_t rfl r_nil) rfl ⟨_, rfl, rfl, z.ky K11⟩
      ·
        refine sk ?_
        refine ib ?_
        refine rg ?_
        refine pu rfl rfl rfl rfl rfl ?_
        refine pu rfl rfl rfl rfl rfl ?_
        refine pu rfl rfl rfl rfl rfl ?_
        refine dn ?_
        exact lb ih4 ⟨s8, _, rfl, (ue (ue (ue rfl rfl) rfl) rfl), K11⟩
    ·
      refine xt rfl ?_
      refine sgb ?_
      refine sr ?_
      refine pu rfl rfl rfl rfl rfl ?_
      refine dn ?_
      exact re rfl Try.func25 rfl (r_t rfl r_nil) rfl ⟨_, rfl, rfl, z.ky Kx4⟩
noncomputable def laws_eqRecord.f (a0 : Record) (a1 : Record) : Option (Bool) :=
  (if (a0.Kind != a1.Kind) = true then (some false) else (if (a0.Lsn != a1.Lsn) = true then (some false) else (if (a0.Xid != a1.Xid) = true then (some false) else (if (a0.Page != a1.Page) = true then (some false) else (if (a0.Slot != a1.Slot) = true then (some false) else ((laws_eqByteS.f a0.Data a1.Data).bind fun r21 => (if (!r21) = true then (some false) else (some true))))))))
def laws_eqRecord.Q (w : World) (F : Nat → Prop) (r : Bool) (v : Value) (w' : World) : Prop :=
  v = (.bool r) ∧ Ky [] w w'
set_option maxHeartbeats 4000000 in
set_option maxRecDepth 100000 in
theorem laws_eqRecord.calls (a0 : Record) (a1 : Record) (w : World) (F : Nat → Prop) (w0_0 : Value) (w1_0 : Value) (h0_0 : (Kd.sl 5 (Kd.int .u8)).rd w [w0_0] a0.Data F) (h1_0 : (Kd.sl 5 (Kd.int .u8)).rd w [w1_0] a1.Data F) (r : Bool) (m : laws_eqRecord.f a0 a1 = some r) :
    Calls Try.prog 56 #[(.agg #[(.int .i64 a0.Kind), (.int .i64 a0.Lsn), (.int .i64 a0.Xid), (.int .i64 a0.Page), (.int .i64 a0.Slot), w0_0]), (.agg #[(.int .i64 a1.Kind), (.int .i64 a1.Lsn), (.int .i64 a1.Xid), (.int .i64 a1.Page), (.int .i64 a1.Slot), w1_0])] w fun en w' => ∃ v, en = .returned v ∧ laws_eqRecord.Q w F r v w' := by
  obtain ⟨s0, rfl, kp0, z⟩ := start0 w F
  have A0_0 := z.rd h0_0
  have A1_0 := z.rd h1_0
  refine calls_of_TM (args := [(.agg #[(.int .i64 a0.Kind), (.int .i64 a0.Lsn), (.int .i64 a0.Xid), (.int .i64 a0.Page), (.int .i64 a0.Slot), w0_0]), (.agg #[(.int .i64 a1.Kind), (.int .i64 a1.Lsn), (.int .i64 a1.Xid), (.int .i64 a1.Page), (.int .i64 a1.Slot), w1_0])]) (R := fun r en w' => ∃ v, en = .returned v ∧ laws_eqRecord.Q s0.w F r v w') Try.func56 Try.ntmps56 rfl rfl m ?_
  unfold laws_eqRecord.f
  refine sr ?_
  refine bx (cs := [(.int .i64 a0.Kind), (.int .i64 a0.Lsn), (.int .i64 a0.Xid), (.int .i64 a0.Page), (.int .i64 a0.Slot), w0_0]) 10 rfl rfl rfl rfl rfl rfl (fun b3 s3 p3 B3 => ?_)
  refine bx (cs := [(.int .i64 a1.Kind), (.int .i64 a1.Lsn), (.int .i64 a1.Xid), (.int .i64 a1.Page), (.int .i64 a1.Slot), w1_0]) 11 rfl rfl rfl rfl rfl rfl (fun b5 s5 p5 B5 => ?_)
  refine pu rfl rfl rfl rfl rfl ?_
  refine dn ?_
  refine sq ?_
  refine sr ?_
  refine fa fa68_0 rfl rfl rfl rfl rfl rfl ?_
  have A7 := (BlF.st B3 p5 rfl)
  refine ld A7 Try.underlying3 rfl rfl rfl rfl rfl rfl rfl rfl ?_
  refine fa fa68_0 rfl rfl rfl rfl rfl rfl ?_
  refine ld B5 Try.underlying3 rfl rfl rfl rfl rfl rfl rfl rfl ?_
  refine pu rfl rfl rfl rfl rfl ?_
  refine dn ?_
  refine cd rfl (fun h8 => ?_) (fun h8 => ?_)
  ·
    refine sr ?_
    refine pu rfl rfl rfl rfl rfl ?_
    refine dn ?_
    have K9 := ((kp0.st p3 rfl).st p5 rfl)
    exact re rfl Try.func56 rfl (r_t rfl r_nil) rfl ⟨_, rfl, rfl, z.ky K9⟩
  ·
    refine sk ?_
    refine sq ?_
    refine sr ?_
    refine fa fa68_1 rfl rfl rfl rfl rfl rfl ?_
    refine ld A7 Try.underlying3 rfl rfl rfl rfl rfl rfl rfl rfl ?_
    refine fa fa68_1 rfl rfl rfl rfl rfl rfl ?_
    refine ld B5 Try.underlying3 rfl rfl rfl rfl rfl rfl rfl rfl ?_
    refine pu rfl rfl rfl rfl rfl ?_
    refine dn ?_
    refine cd rfl (fun h10 => ?_) (fun h10 => ?_)
    ·
      refine sr ?_
      refine pu rfl rfl rfl rfl rfl ?_
      refine dn ?_
      have K11 := ((kp0.st p3 rfl).st p5 rfl)
      exact re rfl Try.func56 rfl (r_t rfl r_nil) rfl ⟨_, rfl, rfl, z.ky K11⟩
    ·
      refine sk ?_
      refine sq ?_
      refine sr ?_
      refine fa fa68_2 rfl rfl rfl rfl rfl rfl ?_
      refine ld A7 Try.underlying3 rfl rfl rfl rfl rfl rfl rfl rfl ?_
      refine fa fa68_2 rfl rfl rfl rfl rfl rfl ?_
      refine ld B5 Try.underlying3 rfl rfl rfl rfl rfl rfl rfl rfl ?_
      refine pu rfl rfl rfl rfl rfl ?_
      refine dn ?_
      refine cd rfl (fun h12 => ?_) (fun h12 => ?_)
      ·
        refine sr ?_
        refine pu rfl rfl rfl rfl rfl ?_
        refine dn ?_
        have K13 := ((kp0.st p3 rfl).st p5 rfl)
        exact re rfl Try.func56 rfl (r_t rfl r_nil) rfl ⟨_, rfl, rfl, z.ky K13⟩
      ·
        refine sk ?_
        refine sq ?_
        refine sr ?_
        refine fa fa68_3 rfl rfl rfl rfl rfl rfl ?_
        refine ld A7 Try.underlying3 rfl rfl rfl rfl rfl rfl rfl rfl ?_
        refine fa fa68_3 rfl rfl rfl rfl rfl rfl ?_
        refine ld B5 Try.underlying3 rfl rfl rfl rfl rfl rfl rfl rfl ?_
        refine pu rfl rfl rfl rfl rfl ?_
        refine dn ?_
        refine cd rfl (fun h14 => ?_) (fun h14 => ?_)
        ·
          refine sr ?_
          refine pu rfl rfl rfl rfl rfl ?_
          refine dn ?_
          have K15 := ((kp0.st p3 rfl).st p5 rfl)
          exact re rfl Try.func56 rfl (r_t rfl r_nil) rfl ⟨_, rfl, rfl, z.ky K15⟩
        ·
          refine sk ?_
          refine sq ?_
          refine sr ?_
          refine fa fa68_4 rfl rfl rfl rfl rfl rfl ?_
          refine ld A7 Try.underlying3 rfl rfl rfl rfl rfl rfl rfl rfl ?_
          refine fa fa68_4 rfl rfl rfl rfl rfl rfl ?_
          refine ld B5 Try.underlying3 rfl rfl rfl rfl rfl rfl rfl rfl ?_
          refine pu rfl rfl rfl rfl rfl ?_
          refine dn ?_
          refine cd rfl (fun h16 => ?_) (fun h16 => ?_)
          ·
            refine sr ?_
            refine pu rfl rfl rfl rfl rfl ?_
            refine dn ?_
            have K17 := ((kp0.st p3 rfl).st p5 rfl)
            exact re rfl Try.func56 rfl (r_t rfl r_nil) rfl ⟨_, rfl, rfl, z.ky K17⟩
          ·
            refine sk ?_
            refine sq ?_
            refine sr ?_
            refine fa fa68_5 rfl rfl rfl rfl rfl rfl ?_
            refine ld A7 Try.underlying24 rfl rfl rfl rfl rfl rfl rfl rfl ?_
            refine fa fa68_5 rfl rfl rfl rfl rfl rfl ?_
            refine ld B5 Try.underlying24 rfl rfl rfl rfl rfl rfl rfl rfl ?_
            have K18 := ((kp0.st p3 rfl).st p5 rfl)
            have A19 := (A0_0.kp K18)
            have A20 := (A1_0.kp K18)
            refine cl rfl rfl rfl rfl rfl Try.func10 rfl rfl rfl (fun r21 m21 => laws_eqByteS.calls a0.Data a1.Data s5.w (fun b => memb [0] (s5.g b) = true) w0_0 w1_0 A19 A20 r21 m21) ?_
            rintro r21 _ w21 m21 ⟨rfl, ky21⟩
            obtain ⟨s22, rfl, p22, n22⟩ := nwx s5 w21 12 ky21
            refine pu rfl rfl rfl rfl rfl ?_
            refine dn ?_
            refine cd rfl (fun h23 => ?_) (fun h23 => ?_)
            ·
              refine sr ?_
              refine pu rfl rfl rfl rfl rfl ?_
              refine dn ?_
              have K24 := (K18.st p22 rfl)
              exact re rfl Try.func56 rfl (r_t rfl r_nil) rfl ⟨_, rfl, rfl, z.ky K24⟩
            ·
              refine sk ?_
              refine sr ?_
              refine pu rfl rfl rfl rfl rfl ?_
              refine dn ?_
              have K25 := (K18.st p22 rfl)
              exact re rfl Try.func56 rfl (r_t rfl r_nil) rfl ⟨_, rfl, rfl, z.ky K25⟩
noncomputable def laws_eqRecordS.b0 (a0 : (List Record)) (a1 : (List Record)) (x4 : Int) : Option (Int ⊕ Bool) :=
  (if (decide (x4 < (a0.length : Int))) = true then (if 0 ≤ x4 ∧ x4 < (a0.length : Int) then (if 0 ≤ x4 ∧ x4 < (a1.length : Int) then ((laws_eqRecord.f (at_ a0 x4) (at_ a1 x4)).bind fun r26 => (if (!r26) = true then (some (.inr false)) else (some (.inl (IntKind.wrap .i64 (x4 + (1 : Int))))))) else none) else none) else ((some true).bind fun o => some (.inr o)))
noncomputable def laws_eqRecordS.f (a0 : (List Record)) (a1 : (List Record)) : Option (Bool) :=
  (if ((a0.length : Int) != (a1.length : Int)) = true then (some false) else (iter (laws_eqRecordS.b0 a0 a1) (0 : Int)))
def laws_eqRecordS.Q (w : World) (F : Nat → Prop) (r : Bool) (v : Value) (w' : World) : Prop :=
  v = (.bool r) ∧ Ky [] w w'
set_option maxHeartbeats 4000000 in
set_option maxRecDepth 100000 in
theorem laws_eqRecordS.calls (a0 : (List Record)) (a1 : (List Record)) (w : World) (F : Nat → Prop) (w0_0 : Value) (w1_0 : Value) (h0_0 : (Kd.sl 68 kd68).rd w [w0_0] a0 F) (h1_0 : (Kd.sl 68 kd68).rd w [w1_0] a1 F) (r : Bool) (m : laws_eqRecordS.f a0 a1 = some r) :
    Calls Try.prog 26 #[w0_0, w1_0] w fun en w' => ∃ v, en = .returned v ∧ laws_eqRecordS.Q w F r v w' := by
  obtain ⟨s0, rfl, kp0, z⟩ := start0 w F
  have A0_0 := z.rd h0_0
  have A1_0 := z.rd h1_0
  refine calls_of_TM (args := [w0_0, w1_0]) (R := fun r en w' => ∃ v, en = .returned v ∧ laws_eqRecordS.Q s0.w F r v w') Try.func26 Try.ntmps26 rfl rfl m ?_
  unfold laws_eqRecordS.f
  refine sr ?_
  refine pu rfl rfl rfl rfl rfl ?_
  refine dn ?_
  refine sq ?_
  refine sr ?_
  refine mv w0_0 rfl rfl rfl rfl rfl rfl ?_
  refine ln A0_0 Try.underlying43 rfl rfl rfl rfl rfl rfl ?_
  refine mv w1_0 rfl rfl rfl rfl rfl rfl ?_
  refine ln A1_0 Try.underlying43 rfl rfl rfl rfl rfl rfl ?_
  refine pu rfl rfl rfl rfl rfl ?_
  refine dn ?_
  refine cd rfl (fun h3 => ?_) (fun h3 => ?_)
  ·
    refine sr ?_
    refine pu rfl rfl rfl rfl rfl ?_
    refine dn ?_
    exact re rfl Try.func26 rfl (r_t rfl r_nil) rfl ⟨_, rfl, rfl, z.ky kp0⟩
  ·
    refine sk ?_
    refine sq ?_
    refine sr ?_
    refine pu rfl rfl rfl rfl rfl ?_
    refine dn ?_
    refine bl ?_
    refine lpI (fun (x4 : Int) (e : Env) (w : World) => ∃ (s : St) (e0 : Env), w = s.w ∧ e = upd (upd (upd e0 0 w0_0) 1 w1_0) 5 (.int .i64 x4) ∧ Kp s0 s) ⟨s0, _, rfl, (ue (ue (ue rfl rfl) rfl) rfl), kp0⟩ (fun g4 ih4 => ?_)
    rintro x4 _ _ ⟨s5, _, rfl, rfl, Kx4⟩
    unfold laws_eqRecordS.b0
    refine sq ?_
    refine sr ?_
    refine pu rfl rfl rfl rfl rfl ?_
    refine mv w0_0 rfl rfl rfl rfl rfl rfl ?_
    have A6 := (A0_0.kp Kx4)
    refine ln A6 Try.underlying43 rfl rfl rfl rfl rfl rfl ?_
    refine pu rfl rfl rfl rfl rfl ?_
    refine dn ?_
    refine cd rfl (fun h7 => ?_) (fun h7 => ?_)
    ·
      refine sk ?_
      refine sq ?_
      refine bl ?_
      refine sq ?_
      refine zdraw [[], [], [0, 1], [2], [], [], [4, 5], [6], [3, 7], [8]] [some 17, some 18, some 19, some 20, some 21, some 22, some 23, some 24, some 25, some 26] [[0], [5], [17, 18], [19], [1], [5], [21, 22], [23], [20, 24], [25]] [0, 1, 2, 3, 4, 5, 6, 7, 8, 9] ⟨by kernel_rfl, by kernel_rfl, by kernel_rfl⟩ (by kernel_rfl) (fun s8 p8 l8 tb8 zd8 => ?_)
      have zd9 := zd8.add 0 17 w0_0 rfl
      have zd10 := zd9.add 1 18 (.int .i64 x4) rfl
      have K11 := (Kx4.st p8 rfl)
      have A12 := (A0_0.kp K11)
      refine mg fun hg13 => ?_
      obtain ⟨ad13, es13, he13, ce13, ia13⟩ := ix_e A12 rfl hg13.1 hg13.2
      have h0_13 := hg13.1
      have h1_13 := hg13.2
      obtain ⟨v13_0, rfl, A13_0⟩ := op68 he13
      have zd16 := zd10.add 2 19 (.pointer (some ad13)) rfl
      have zd17 := zd16.add 3 20 (.agg #[(.int .i64 ((at_ a0 x4).Kind)), (.int .i64 ((at_ a0 x4).Lsn)), (.int .i64 ((at_ a0 x4).Xid)), (.int .i64 ((at_ a0 x4).Page)), (.int .i64 ((at_ a0 x4).Slot)), v13_0]) rfl
      have zd18 := zd17.add 4 21 w1_0 rfl
      have zd19 := zd18.add 5 22 (.int .i64 x4) rfl
      have A20 := (A1_0.kp K11)
      refine mg fun hg21 => ?_
      obtain ⟨ad21, es21, he21, ce21, ia21⟩ := ix_e A20 rfl hg21.1 hg21.2
      have h0_21 := hg21.1
      have h1_21 := hg21.2
      obtain ⟨v21_0, rfl, A21_0⟩ := op68 he21
      have zd24 := zd19.add 6 23 (.pointer (some ad21)) rfl
      have zd25 := zd24.add 7 24 (.agg #[(.int .i64 ((at_ a1 x4).Kind)), (.int .i64 ((at_ a1 x4).Lsn)), (.int .i64 ((at_ a1 x4).Xid)), (.int .i64 ((at_ a1 x4).Page)), (.int .i64 ((at_ a1 x4).Slot)), v21_0]) rfl
      refine zfin [8, 9] tb8 zd25 (pq_cons (lca_q ce21 Try.underlying68 z68 rfl rfl rfl rfl rfl rfl rfl) rfl (pq_cons (ix_q A20 Try.underlying43 z68 hg21.1 hg21.2 ia21 rfl rfl rfl rfl rfl rfl rfl) rfl (pq_cons (pu_q rfl rfl rfl rfl rfl rfl) rfl (pq_cons (mv_q w1_0 rfl rfl rfl rfl rfl rfl) rfl (pq_cons (lca_q ce13 Try.underlying68 z68 rfl rfl rfl rfl rfl rfl rfl) rfl (pq_cons (ix_q A12 Try.underlying43 z68 hg13.1 hg13.2 ia13 rfl rfl rfl rfl rfl rfl rfl) rfl (pq_cons (pu_q rfl rfl rfl rfl rfl rfl) rfl (pq_cons (mv_q w0_0 rfl rfl rfl rfl rfl rfl) rfl pq_nil)))))))) (by kernel_rfl) (by decide) ?_
      refine cl rfl rfl rfl rfl rfl Try.func56 rfl rfl rfl (fun r26 m26 => laws_eqRecord.calls (at_ a0 x4) (at_ a1 x4) s8.w (fun b => memb [0] (s8.g b) = true) v13_0 v21_0 A13_0 A21_0 r26 m26) ?_
      rintro r26 _ w26 m26 ⟨rfl, ky26⟩
      obtain ⟨s27, rfl, p27, n27⟩ := nwx s8 w26 10 ky26
      refine pu rfl rfl rfl rfl rfl ?_
      refine dn ?_
      refine cd rfl (fun h28 => ?_) (fun h28 => ?_)
      ·
        refine sr ?_
        refine pu rfl rfl rfl rfl rfl ?_
        refine dn ?_
        refine sgi ?_
        have K29 := (K11.st p27 rfl)
        exact re rfl Try.func26 rfl (r_t rfl r_nil) rfl ⟨_, rfl, rfl, z.ky K29⟩
      ·
        refine sk ?_
        refine ib ?_
        refine rg ?_
        refine pu rfl rfl rfl rfl rfl ?_
        refine pu rfl rfl rfl rfl rfl ?_
        refine pu rfl rfl rfl rfl rfl ?_
        refine dn ?_
        have K30 := (K11.st p27 rfl)
        exact lb ih4 ⟨s27, _, rfl, (ue (ue (ue rfl rfl) rfl) rfl), K30⟩
    ·
      refine xt rfl ?_
      refine sgb ?_
      refine sr ?_
      refine pu rfl rfl rfl rfl rfl ?_
      refine dn ?_
      exact re rfl Try.func26 rfl (r_t rfl r_nil) rfl ⟨_, rfl, rfl, z.ky Kx4⟩
noncomputable def laws_markIntS.b0  (x2 : (List Int) × Int × Int) : Option (((List Int) × Int × Int) ⊕ (Int × (List Int))) :=
  (if (decide (x2.2.2 < (x2.1.length : Int))) = true then (if 0 ≤ x2.2.2 ∧ x2.2.2 < (x2.1.length : Int) then (some (.inl ((x2.1.set (x2.2.2).toNat x2.2.1), (IntKind.wrap .i64 (x2.2.1 + (1 : Int))), (IntKind.wrap .i64 (x2.2.2 + (1 : Int)))))) else none) else ((some (x2.2.1, x2.1)).bind fun o => some (.inr o)))
noncomputable def laws_markIntS.f (a0 : (List Int)) (a1 : Int) : Option (Int × (List Int)) :=
  (iter laws_markIntS.b0 (a0, a1, (0 : Int)))
def laws_markIntS.Q (w : World) (F : Nat → Prop) (os : List Nat) (w0_0 : Value) (r : Int × (List Int)) (v : Value) (w' : World) : Prop :=
  v = (.int .i64 r.1) ∧ FW (Kd.sl 3 (Kd.int .i64)) os w w' [w0_0] r.2 ∧ Ky os w w'
set_option maxHeartbeats 4000000 in
set_option maxRecDepth 100000 in
theorem laws_markIntS.calls (a0 : (List Int)) (a1 : Int) (w : World) (F : Nat → Prop) (w0_0 : Value) (os : List Nat) (h0_0 : (Kd.sl 3 (Kd.int .i64)).ow w [w0_0] a0 os) (hn : os.Nodup) (hF : ∀ b, F b → b ∉ os) (r : Int × (List Int)) (m : laws_markIntS.f a0 a1 = some r) :
    Calls Try.prog 27 #[w0_0, (.int .i64 a1)] w fun en w' => ∃ v, en = .returned v ∧ laws_markIntS.Q w F os w0_0 r v w' := by
  obtain ⟨s0, rfl, kp0, z⟩ := start1 w F os hF
  have A0_0 := z.ow h0_0 hn
  refine calls_of_TM (args := [w0_0, (.int .i64 a1)]) (R := fun r en w' => ∃ v, en = .returned v ∧ laws_markIntS.Q s0.w F os w0_0 r v w') Try.func27 Try.ntmps27 rfl rfl m ?_
  unfold laws_markIntS.f
  refine sr ?_
  refine pu rfl rfl rfl rfl rfl ?_
  refine dn ?_
  refine sq ?_
  refine sr ?_
  refine pu rfl rfl rfl rfl rfl ?_
  refine dn ?_
  refine bl ?_
  refine lpI (fun (x2 : (List Int) × Int × Int) (e : Env) (w : World) => ∃ (s : St) (e0 : Env), w = s.w ∧ e = upd (upd (upd e0 0 w0_0) 1 (.int .i64 x2.2.1)) 5 (.int .i64 x2.2.2) ∧ Kp s0 s ∧ OwF (Kd.sl 3 (Kd.int .i64)) s [w0_0] x2.1 2) ⟨s0, _, rfl, (ue (ue (ue rfl rfl) rfl) rfl), kp0, A0_0⟩ (fun g2 ih2 => ?_)
  rintro x2 _ _ ⟨s3, _, rfl, rfl, Kx2, Ax2_0⟩
  unfold laws_markIntS.b0
  refine sq ?_
  refine sr ?_
  refine pu rfl rfl rfl rfl rfl ?_
  refine mv w0_0 rfl rfl rfl rfl rfl rfl ?_
  refine ln Ax2_0.rd Try.underlying37 rfl rfl rfl rfl rfl rfl ?_
  refine pu rfl rfl rfl rfl rfl ?_
  refine dn ?_
  refine cd rfl (fun h5 => ?_) (fun h5 => ?_)
  ·
    refine sk ?_
    refine sq ?_
    refine bl ?_
    refine sr ?_
    refine mv w0_0 rfl rfl rfl rfl rfl rfl ?_
    refine pu rfl rfl rfl rfl rfl ?_
    refine pu rfl rfl rfl rfl rfl ?_
    refine ix Ax2_0.rd Try.underlying37 z3 rfl rfl rfl rfl rfl rfl rfl rfl (fun ad6 es6 h0_6 h1_6 he6 ce6 ia6 => ?_)
    obtain rfl := he6
    refine so (x' := x2.2.1) Ax2_0 ia6 h0_6 h1_6 cs_flat z3 rfl rfl rfl rfl rfl rfl (fun s8 p8 A8 => ?_)
    refine dn ?_
    refine rg ?_
    refine pu rfl rfl rfl rfl rfl ?_
    refine pu rfl rfl rfl rfl rfl ?_
    refine pu rfl rfl rfl rfl rfl ?_
    refine dn ?_
    refine ib ?_
    refine rg ?_
    refine pu rfl rfl rfl rfl rfl ?_
    refine pu rfl rfl rfl rfl rfl ?_
    refine pu rfl rfl rfl rfl rfl ?_
    refine dn ?_
    have K10 := (Kx2.st p8 rfl)
    exact lb ih2 ⟨s8, _, rfl, (ue (ue (ue rfl rfl) rfl) rfl), K10, A8⟩
  ·
    refine xt rfl ?_
    refine sgb ?_
    refine sr ?_
    refine pu rfl rfl rfl rfl rfl ?_
    refine pu rfl rfl rfl rfl rfl ?_
    refine dn ?_
    exact re rfl Try.func27 rfl (r_t rfl r_nil) rfl ⟨_, rfl, rfl, z.fw Kx2 Ax2_0, z.ky Kx2⟩
noncomputable def laws_markRecordS.b0  (x2 : (List Record) × Int × Int) : Option (((List Record) × Int × Int) ⊕ (Int × (List Record))) :=
  (if (decide (x2.2.2 < (x2.1.length : Int))) = true then (if 0 ≤ x2.2.2 ∧ x2.2.2 < (x2.1.length : Int) then ((some (x2.1.set (x2.2.2).toNat (Record.mk x2.2.1 (at_ x2.1 x2.2.2).Lsn (at_ x2.1 x2.2.2).Xid (at_ x2.1 x2.2.2).Page (at_ x2.1 x2.2.2).Slot (at_ x2.1 x2.2.2).Data))).bind fun y11 => (if 0 ≤ x2.2.2 ∧ x2.2.2 < (y11.length : Int) then ((some (y11.set (x2.2.2).toNat (Record.mk (at_ y11 x2.2.2).Kind (IntKind.wrap .i64 (x2.2.1 + (1 : Int))) (at_ y11 x2.2.2).Xid (at_ y11 x2.2.2).Page (at_ y11 x2.2.2).Slot (at_ y11 x2.2.2).Data))).bind fun y17 => (if 0 ≤ x2.2.2 ∧ x2.2.2 < (y17.length : Int) then ((some (y17.set (x2.2.2).toNat (Record.mk (at_ y17 x2.2.2).Kind (at_ y17 x2.2.2).Lsn (IntKind.wrap .i64 ((IntKind.wrap .i64 (x2.2.1 + (1 : Int))) + (1 : Int))) (at_ y17 x2.2.2).Page (at_ y17 x2.2.2).Slot (at_ y17 x2.2.2).Data))).bind fun y23 => (if 0 ≤ x2.2.2 ∧ x2.2.2 < (y23.length : Int) then ((some (y23.set (x2.2.2).toNat (Record.mk (at_ y23 x2.2.2).Kind (at_ y23 x2.2.2).Lsn (at_ y23 x2.2.2).Xid (IntKind.wrap .i64 ((IntKind.wrap .i64 ((IntKind.wrap .i64 (x2.2.1 + (1 : Int))) + (1 : Int))) + (1 : Int))) (at_ y23 x2.2.2).Slot (at_ y23 x2.2.2).Data))).bind fun y29 => (if 0 ≤ x2.2.2 ∧ x2.2.2 < (y29.length : Int) then ((some (y29.set (x2.2.2).toNat (Record.mk (at_ y29 x2.2.2).Kind (at_ y29 x2.2.2).Lsn (at_ y29 x2.2.2).Xid (at_ y29 x2.2.2).Page (IntKind.wrap .i64 ((IntKind.wrap .i64 ((IntKind.wrap .i64 ((IntKind.wrap .i64 (x2.2.1 + (1 : Int))) + (1 : Int))) + (1 : Int))) + (1 : Int))) (at_ y29 x2.2.2).Data))).bind fun y35 => (if 0 ≤ x2.2.2 ∧ x2.2.2 < (y35.length : Int) then ((laws_markByteS.f ((at_ y35 x2.2.2).Data) (IntKind.wrap .i64 ((IntKind.wrap .i64 ((IntKind.wrap .i64 ((IntKind.wrap .i64 ((IntKind.wrap .i64 (x2.2.1 + (1 : Int))) + (1 : Int))) + (1 : Int))) + (1 : Int))) + (1 : Int)))).bind fun r39 => ((some (y35.set (x2.2.2).toNat (Record.mk (at_ y35 x2.2.2).Kind (at_ y35 x2.2.2).Lsn (at_ y35 x2.2.2).Xid (at_ y35 x2.2.2).Page (at_ y35 x2.2.2).Slot r39.2))).bind fun y42 => (some (.inl (y42, r39.1, (IntKind.wrap .i64 (x2.2.2 + (1 : Int)))))))) else none)) else none)) else none)) else none)) else none)) else none) else ((some (x2.2.1, x2.1)).bind fun o => some (.inr o)))
noncomputable def laws_markRecordS.f (a0 : (List Record)) (a1 : Int) : Option (Int × (List Record)) :=
  (iter laws_markRecordS.b0 (a0, a1, (0 : Int)))
def laws_markRecordS.Q (w : World) (F : Nat → Prop) (os : List Nat) (w0_0 : Value) (r : Int × (List Record)) (v : Value) (w' : World) : Prop :=
  v = (.int .i64 r.1) ∧ FW (Kd.sl 68 kd68) os w w' [w0_0] r.2 ∧ Ky os w w'
set_option maxHeartbeats 4000000 in
set_option maxRecDepth 100000 in
theorem laws_markRecordS.calls (a0 : (List Record)) (a1 : Int) (w : World) (F : Nat → Prop) (w0_0 : Value) (os : List Nat) (h0_0 : (Kd.sl 68 kd68).ow w [w0_0] a0 os) (hn : os.Nodup) (hF : ∀ b, F b → b ∉ os) (r : Int × (List Record)) (m : laws_markRecordS.f a0 a1 = some r) :
    Calls Try.prog 28 #[w0_0, (.int .i64 a1)] w fun en w' => ∃ v, en = .returned v ∧ laws_markRecordS.Q w F os w0_0 r v w' := by
  obtain ⟨s0, rfl, kp0, z⟩ := start1 w F os hF
  have A0_0 := z.ow h0_0 hn
  refine calls_of_TM (args := [w0_0, (.int .i64 a1)]) (R := fun r en w' => ∃ v, en = .returned v ∧ laws_markRecordS.Q s0.w F os w0_0 r v w') Try.func28 Try.ntmps28 rfl rfl m ?_
  unfold laws_markRecordS.f
  refine sr ?_
  refine pu rfl rfl rfl rfl rfl ?_
  refine dn ?_
  refine sq ?_
  refine sr ?_
  refine pu rfl rfl rfl rfl rfl ?_
  refine dn ?_
  refine bl ?_
  refine lpI (fun (x2 : (List Record) × Int × Int) (e : Env) (w : World) => ∃ (s : St) (e0 : Env), w = s.w ∧ e = upd (upd (upd e0 0 w0_0) 1 (.int .i64 x2.2.1)) 5 (.int .i64 x2.2.2) ∧ Kp s0 s ∧ OwF (Kd.sl 68 kd68) s [w0_0] x2.1 2) ⟨s0, _, rfl, (ue (ue (ue rfl rfl) rfl) rfl), kp0, A0_0⟩ (fun g2 ih2 => ?_)
  rintro x2 _ _ ⟨s3, _, rfl, rfl, Kx2, Ax2_0⟩
  unfold laws_markRecordS.b0
  refine sq ?_
  refine sr ?_
  refine pu rfl rfl rfl rfl rfl ?_
  refine mv w0_0 rfl rfl rfl rfl rfl rfl ?_
  refine ln Ax2_0.rd Try.underlying43 rfl rfl rfl rfl rfl rfl ?_
  refine pu rfl rfl rfl rfl rfl ?_
  refine dn ?_
  refine cd rfl (fun h5 => ?_) (fun h5 => ?_)
  ·
    refine sk ?_
    refine sq ?_
    refine bl ?_
    refine sr ?_
    refine mv w0_0 rfl rfl rfl rfl rfl rfl ?_
    refine pu rfl rfl rfl rfl rfl ?_
    refine pu rfl rfl rfl rfl rfl ?_
    refine ix Ax2_0.rd Try.underlying43 z68 rfl rfl rfl rfl rfl rfl rfl rfl (fun ad6 es6 h0_6 h1_6 he6 ce6 ia6 => ?_)
    obtain ⟨v6_0, rfl, A6_0⟩ := op68 he6
    refine fa fa68_0 rfl rfl rfl rfl rfl rfl ?_
    refine so (x' := (Record.mk x2.2.1 (at_ x2.1 x2.2.2).Lsn (at_ x2.1 x2.2.2).Xid (at_ x2.1 x2.2.2).Page (at_ x2.1 x2.2.2).Slot (at_ x2.1 x2.2.2).Data)) Ax2_0 ia6 h0_6 h1_6 (cs_iso (cs_left cs_flat)) z3 rfl rfl rfl rfl rfl rfl (fun s9 p9 A9 => ?_)
    refine nb (fun y11 h11 => ?_)
    have A11 : OwF (Kd.sl 68 kd68) s9 [w0_0] y11 2 := by rw [h11]; exact A9
    refine dn ?_
    refine sr ?_
    refine pu rfl rfl rfl rfl rfl ?_
    refine pu rfl rfl rfl rfl rfl ?_
    refine pu rfl rfl rfl rfl rfl ?_
    refine dn ?_
    refine sr ?_
    refine mv w0_0 rfl rfl rfl rfl rfl rfl ?_
    refine pu rfl rfl rfl rfl rfl ?_
    refine pu rfl rfl rfl rfl rfl ?_
    refine ix A11.rd Try.underlying43 z68 rfl rfl rfl rfl rfl rfl rfl rfl (fun ad12 es12 h0_12 h1_12 he12 ce12 ia12 => ?_)
    obtain ⟨v12_0, rfl, A12_0⟩ := op68 he12
    refine fa fa68_1 rfl rfl rfl rfl rfl rfl ?_
    refine so (x' := (Record.mk (at_ y11 x2.2.2).Kind (IntKind.wrap .i64 (x2.2.1 + (1 : Int))) (at_ y11 x2.2.2).Xid (at_ y11 x2.2.2).Page (at_ y11 x2.2.2).Slot (at_ y11 x2.2.2).Data)) A11 ia12 h0_12 h1_12 (cs_iso (cs_right (cs_left cs_flat))) z3 rfl rfl rfl rfl rfl rfl (fun s15 p15 A15 => ?_)
    refine nb (fun y17 h17 => ?_)
    have A17 : OwF (Kd.sl 68 kd68) s15 [w0_0] y17 2 := by rw [h17]; exact A15
    refine dn ?_
    refine sr ?_
    refine pu rfl rfl rfl rfl rfl ?_
    refine pu rfl rfl rfl rfl rfl ?_
    refine pu rfl rfl rfl rfl rfl ?_
    refine dn ?_
    refine sr ?_
    refine mv w0_0 rfl rfl rfl rfl rfl rfl ?_
    refine pu rfl rfl rfl rfl rfl ?_
    refine pu rfl rfl rfl rfl rfl ?_
    refine ix A17.rd Try.underlying43 z68 rfl rfl rfl rfl rfl rfl rfl rfl (fun ad18 es18 h0_18 h1_18 he18 ce18 ia18 => ?_)
    obtain ⟨v18_0, rfl, A18_0⟩ := op68 he18
    refine fa fa68_2 rfl rfl rfl rfl rfl rfl ?_
    refine so (x' := (Record.mk (at_ y17 x2.2.2).Kind (at_ y17 x2.2.2).Lsn (IntKind.wrap .i64 ((IntKind.wrap .i64 (x2.2.1 + (1 : Int))) + (1 : Int))) (at_ y17 x2.2.2).Page (at_ y17 x2.2.2).Slot (at_ y17 x2.2.2).Data)) A17 ia18 h0_18 h1_18 (cs_iso (cs_right (cs_right (cs_left cs_flat)))) z3 rfl rfl rfl rfl rfl rfl (fun s21 p21 A21 => ?_)
    refine nb (fun y23 h23 => ?_)
    have A23 : OwF (Kd.sl 68 kd68) s21 [w0_0] y23 2 := by rw [h23]; exact A21
    refine dn ?_
    refine sr ?_
    refine pu rfl rfl rfl rfl rfl ?_
    refine pu rfl rfl rfl rfl rfl ?_
    refine pu rfl rfl rfl rfl rfl ?_
    refine dn ?_
    refine sr ?_
    refine mv w0_0 rfl rfl rfl rfl rfl rfl ?_
    refine pu rfl rfl rfl rfl rfl ?_
    refine pu rfl rfl rfl rfl rfl ?_
    refine ix A23.rd Try.underlying43 z68 rfl rfl rfl rfl rfl rfl rfl rfl (fun ad24 es24 h0_24 h1_24 he24 ce24 ia24 => ?_)
    obtain ⟨v24_0, rfl, A24_0⟩ := op68 he24
    refine fa fa68_3 rfl rfl rfl rfl rfl rfl ?_
    refine so (x' := (Record.mk (at_ y23 x2.2.2).Kind (at_ y23 x2.2.2).Lsn (at_ y23 x2.2.2).Xid (IntKind.wrap .i64 ((IntKind.wrap .i64 ((IntKind.wrap .i64 (x2.2.1 + (1 : Int))) + (1 : Int))) + (1 : Int))) (at_ y23 x2.2.2).Slot (at_ y23 x2.2.2).Data)) A23 ia24 h0_24 h1_24 (cs_iso (cs_right (cs_right (cs_right (cs_left cs_flat))))) z3 rfl rfl rfl rfl rfl rfl (fun s27 p27 A27 => ?_)
    refine nb (fun y29 h29 => ?_)
    have A29 : OwF (Kd.sl 68 kd68) s27 [w0_0] y29 2 := by rw [h29]; exact A27
    refine dn ?_
    refine sr ?_
    refine pu rfl rfl rfl rfl rfl ?_
    refine pu rfl rfl rfl rfl rfl ?_
    refine pu rfl rfl rfl rfl rfl ?_
    refine dn ?_
    refine sr ?_
    refine mv w0_0 rfl rfl rfl rfl rfl rfl ?_
    refine pu rfl rfl rfl rfl rfl ?_
    refine pu rfl rfl rfl rfl rfl ?_
    refine ix A29.rd Try.underlying43 z68 rfl rfl rfl rfl rfl rfl rfl rfl (fun ad30 es30 h0_30 h1_30 he30 ce30 ia30 => ?_)
    obtain ⟨v30_0, rfl, A30_0⟩ := op68 he30
    refine fa fa68_4 rfl rfl rfl rfl rfl rfl ?_
    refine so (x' := (Record.mk (at_ y29 x2.2.2).Kind (at_ y29 x2.2.2).Lsn (at_ y29 x2.2.2).Xid (at_ y29 x2.2.2).Page (IntKind.wrap .i64 ((IntKind.wrap .i64 ((IntKind.wrap .i64 ((IntKind.wrap .i64 (x2.2.1 + (1 : Int))) + (1 : Int))) + (1 : Int))) + (1 : Int))) (at_ y29 x2.2.2).Data)) A29 ia30 h0_30 h1_30 (cs_iso (cs_right (cs_right (cs_right (cs_right (cs_left cs_flat)))))) z3 rfl rfl rfl rfl rfl rfl (fun s33 p33 A33 => ?_)
    refine nb (fun y35 h35 => ?_)
    have A35 : OwF (Kd.sl 68 kd68) s33 [w0_0] y35 2 := by rw [h35]; exact A33
    refine dn ?_
    refine sr ?_
    refine pu rfl rfl rfl rfl rfl ?_
    refine pu rfl rfl rfl rfl rfl ?_
    refine pu rfl rfl rfl rfl rfl ?_
    refine dn ?_
    refine rg ?_
    refine mv w0_0 rfl rfl rfl rfl rfl rfl ?_
    refine pu rfl rfl rfl rfl rfl ?_
    refine ix A35.rd Try.underlying43 z68 rfl rfl rfl rfl rfl rfl rfl rfl (fun ad36 es36 h0_36 h1_36 he36 ce36 ia36 => ?_)
    obtain ⟨v36_0, rfl, A36_0⟩ := op68 he36
    refine fa fa68_5 rfl rfl rfl rfl rfl rfl ?_
    refine lc ce36 Try.underlying24 rfl rfl rfl rfl rfl rfl rfl rfl ?_
    refine pu rfl rfl rfl rfl rfl ?_
    obtain ⟨os39, ho39, hn39, hc39, put39⟩ := focus (ln_iso (fun x : Record => (x.Kind, x.Lsn, x.Xid, x.Page, x.Slot, x.Data)) (fun x => x.Data) (fun x y => (Record.mk x.Kind x.Lsn x.Xid x.Page x.Slot y)) (ln_right (ln_right (ln_right (ln_right (ln_right ln_sl))))) (fun _ => rfl) (fun _ _ => rfl)) A35 h0_36 h1_36 ia36 ce36 rfl rfl
    refine cl rfl rfl rfl rfl rfl Try.func11 rfl rfl rfl (fun r39 m39 => laws_markByteS.calls ((at_ y35 x2.2.2).Data) (IntKind.wrap .i64 ((IntKind.wrap .i64 ((IntKind.wrap .i64 ((IntKind.wrap .i64 ((IntKind.wrap .i64 (x2.2.1 + (1 : Int))) + (1 : Int))) + (1 : Int))) + (1 : Int))) + (1 : Int))) s33.w (fun b => memb [] (s33.g b) = true) v36_0 os39 ho39 hn39 (apart_of hc39 rfl) r39 m39) ?_
    rintro r39 _ w39 m39 ⟨rfl, w39_, ky39⟩
    obtain ⟨s40, rfl, p40, A40⟩ := put39 w39 _ 10 ky39 w39_
    refine nb (fun y42 h42 => ?_)
    have A42 : OwF (Kd.sl 68 kd68) s40 [w0_0] y42 2 := by rw [h42]; exact A40
    refine pu rfl rfl rfl rfl rfl ?_
    refine dn ?_
    refine ib ?_
    refine rg ?_
    refine pu rfl rfl rfl rfl rfl ?_
    refine pu rfl rfl rfl rfl rfl ?_
    refine pu rfl rfl rfl rfl rfl ?_
    refine dn ?_
    have K43 := ((((((Kx2.st p9 rfl).st p15 rfl).st p21 rfl).st p27 rfl).st p33 rfl).st p40 rfl)
    exact lb ih2 ⟨s40, _, rfl, (ue (ue (ue rfl rfl) rfl) rfl), K43, A42⟩
  ·
    refine xt rfl ?_
    refine sgb ?_
    refine sr ?_
    refine pu rfl rfl rfl rfl rfl ?_
    refine pu rfl rfl rfl rfl rfl ?_
    refine dn ?_
    exact re rfl Try.func28 rfl (r_t rfl r_nil) rfl ⟨_, rfl, rfl, z.fw Kx2 Ax2_0, z.ky Kx2⟩
noncomputable def laws_heldIntS.b0 (a0 : (List Int)) (x2 : Int × Int) : Option ((Int × Int) ⊕ Int) :=
  (if (decide (x2.2 < (a0.length : Int))) = true then (if 0 ≤ x2.2 ∧ x2.2 < (a0.length : Int) then (if ((at_ a0 x2.2) != x2.1) = true then (some (.inr (-1 : Int))) else (some (.inl ((IntKind.wrap .i64 (x2.1 + (1 : Int))), (IntKind.wrap .i64 (x2.2 + (1 : Int))))))) else none) else ((some x2.1).bind fun o => some (.inr o)))
noncomputable def laws_heldIntS.f (a0 : (List Int)) (a1 : Int) : Option (Int) :=
  (iter (laws_heldIntS.b0 a0) (a1, (0 : Int)))
def laws_heldIntS.Q (w : World) (F : Nat → Prop) (r : Int) (v : Value) (w' : World) : Prop :=
  v = (.int .i64 r) ∧ Ky [] w w'
set_option maxHeartbeats 4000000 in
set_option maxRecDepth 100000 in
theorem laws_heldIntS.calls (a0 : (List Int)) (a1 : Int) (w : World) (F : Nat → Prop) (w0_0 : Value) (h0_0 : (Kd.sl 3 (Kd.int .i64)).rd w [w0_0] a0 F) (r : Int) (m : laws_heldIntS.f a0 a1 = some r) :
    Calls Try.prog 29 #[w0_0, (.int .i64 a1)] w fun en w' => ∃ v, en = .returned v ∧ laws_heldIntS.Q w F r v w' := by
  obtain ⟨s0, rfl, kp0, z⟩ := start0 w F
  have A0_0 := z.rd h0_0
  refine calls_of_TM (args := [w0_0, (.int .i64 a1)]) (R := fun r en w' => ∃ v, en = .returned v ∧ laws_heldIntS.Q s0.w F r v w') Try.func29 Try.ntmps29 rfl rfl m ?_
  unfold laws_heldIntS.f
  refine sr ?_
  refine pu rfl rfl rfl rfl rfl ?_
  refine dn ?_
  refine sq ?_
  refine sr ?_
  refine pu rfl rfl rfl rfl rfl ?_
  refine dn ?_
  refine bl ?_
  refine lpI (fun (x2 : Int × Int) (e : Env) (w : World) => ∃ (s : St) (e0 : Env), w = s.w ∧ e = upd (upd (upd e0 0 w0_0) 1 (.int .i64 x2.1)) 5 (.int .i64 x2.2) ∧ Kp s0 s) ⟨s0, _, rfl, (ue (ue (ue rfl rfl) rfl) rfl), kp0⟩ (fun g2 ih2 => ?_)
  rintro x2 _ _ ⟨s3, _, rfl, rfl, Kx2⟩
  unfold laws_heldIntS.b0
  refine sq ?_
  refine sr ?_
  refine pu rfl rfl rfl rfl rfl ?_
  refine mv w0_0 rfl rfl rfl rfl rfl rfl ?_
  have A4 := (A0_0.kp Kx2)
  refine ln A4 Try.underlying37 rfl rfl rfl rfl rfl rfl ?_
  refine pu rfl rfl rfl rfl rfl ?_
  refine dn ?_
  refine cd rfl (fun h5 => ?_) (fun h5 => ?_)
  ·
    refine sk ?_
    refine sq ?_
    refine bl ?_
    refine sq ?_
    refine sr ?_
    refine mv w0_0 rfl rfl rfl rfl rfl rfl ?_
    refine pu rfl rfl rfl rfl rfl ?_
    refine ix A4 Try.underlying37 z3 rfl rfl rfl rfl rfl rfl rfl rfl (fun ad6 es6 h0_6 h1_6 he6 ce6 ia6 => ?_)
    obtain rfl := he6
    refine lc0 ce6 Try.underlying3 rfl rfl rfl rfl rfl rfl rfl rfl ?_
    refine pu rfl rfl rfl rfl rfl ?_
    refine pu rfl rfl rfl rfl rfl ?_
    refine dn ?_
    refine cd rfl (fun h8 => ?_) (fun h8 => ?_)
    ·
      refine sr ?_
      refine pu rfl rfl rfl rfl rfl ?_
      refine dn ?_
      refine sgi ?_
      exact re rfl Try.func29 rfl (r_t rfl r_nil) rfl ⟨_, rfl, rfl, z.ky Kx2⟩
    ·
      refine sk ?_
      refine rg ?_
      refine pu rfl rfl rfl rfl rfl ?_
      refine pu rfl rfl rfl rfl rfl ?_
      refine pu rfl rfl rfl rfl rfl ?_
      refine dn ?_
      refine ib ?_
      refine rg ?_
      refine pu rfl rfl rfl rfl rfl ?_
      refine pu rfl rfl rfl rfl rfl ?_
      refine pu rfl rfl rfl rfl rfl ?_
      refine dn ?_
      exact lb ih2 ⟨s3, _, rfl, (ue (ue (ue rfl rfl) rfl) rfl), Kx2⟩
  ·
    refine xt rfl ?_
    refine sgb ?_
    refine sr ?_
    refine pu rfl rfl rfl rfl rfl ?_
    refine pu rfl rfl rfl rfl rfl ?_
    refine dn ?_
    exact re rfl Try.func29 rfl (r_t rfl r_nil) rfl ⟨_, rfl, rfl, z.ky Kx2⟩
noncomputable def laws_FnExactRedoList.f (a0 : (List Int)) (a1 : (List Record)) (a2 : Int) : Option (Bool) :=
  (if (decide ((a0.length : Int) > (1048576 : Int))) = true then (some true) else ((laws_szRecordS.f a1 (1048576 : Int)).bind fun r4 => (if (decide (r4 < (0 : Int))) = true then (some true) else ((laws_toIntS.f a0).bind fun r10 => ((laws_toRecordS.f a1).bind fun r15 => ((spec_RedoList.f r10 r15 a2).bind fun r19 => ((laws_toIntS.f a0).bind fun r24 => ((laws_toRecordS.f a1).bind fun r29 => ((impl_RedoList.f r24 r29 a2).bind fun r33 => ((laws_eqIntS.f r33.1 r19.1).bind fun r37 => (if ((!r37) || (r33.2 != r19.2)) = true then (some false) else ((laws_toIntS.f a0).bind fun r44 => ((laws_eqIntS.f r24 r44).bind fun r48 => (if (!r48) = true then (some false) else ((laws_toRecordS.f a1).bind fun r54 => ((laws_eqRecordS.f r29 r54).bind fun r58 => (if (!r58) = true then (some false) else ((laws_markIntS.f r24 (1 : Int)).bind fun r62 => ((laws_markRecordS.f r29 r62.1).bind fun r66 => ((if (decide (r66.1 < (0 : Int))) = true then (some true) else ((laws_eqIntS.f r33.1 r19.1).bind fun r76 => (some (!r76)))).bind fun y70 => (if (y70 || (r33.2 != r19.2)) = true then (some false) else ((laws_markIntS.f r33.1 (1 : Int)).bind fun r84 => ((laws_heldIntS.f r84.2 (1 : Int)).bind fun r87 => (if (decide (r87 < (0 : Int))) = true then (some false) else (if (r87 != r84.1) = true then (some false) else ((laws_toIntS.f a0).bind fun r95 => ((laws_toRecordS.f a1).bind fun r100 => ((impl_RedoList.f r95 r100 a2).bind fun r104 => ((laws_eqIntS.f r104.1 r19.1).bind fun r108 => (if ((!r108) || (r104.2 != r19.2)) = true then (some false) else ((laws_heldIntS.f r84.2 (1 : Int)).bind fun r114 => (if (decide (r114 < (0 : Int))) = true then (some false) else (if (r114 != r84.1) = true then (some false) else (some true))))))))))))))))))))))))))))))))))
def laws_FnExactRedoList.Q (w : World) (F : Nat → Prop) (r : Bool) (v : Value) (w' : World) : Prop :=
  v = (.bool r) ∧ Ky [] w w'
set_option maxHeartbeats 4000000 in
set_option maxRecDepth 100000 in
theorem laws_FnExactRedoList.calls (a0 : (List Int)) (a1 : (List Record)) (a2 : Int) (w : World) (F : Nat → Prop) (w0_0 : Value) (w1_0 : Value) (h0_0 : (Kd.sl 3 (Kd.int .i64)).rd w [w0_0] a0 F) (h1_0 : (Kd.sl 66 kd66).rd w [w1_0] a1 F) (r : Bool) (m : laws_FnExactRedoList.f a0 a1 a2 = some r) :
    Calls Try.prog 6 #[w0_0, w1_0, (.int .i64 a2)] w fun en w' => ∃ v, en = .returned v ∧ laws_FnExactRedoList.Q w F r v w' := by
  obtain ⟨s0, rfl, kp0, z⟩ := start0 w F
  have A0_0 := z.rd h0_0
  have A1_0 := z.rd h1_0
  refine calls_of_TM (args := [w0_0, w1_0, (.int .i64 a2)]) (R := fun r en w' => ∃ v, en = .returned v ∧ laws_FnExactRedoList.Q s0.w F r v w') Try.func6 Try.ntmps6 rfl rfl m ?_
  unfold laws_FnExactRedoList.f
  refine sr ?_
  refine pu rfl rfl rfl rfl rfl ?_
  refine dn ?_
  refine sq ?_
  refine sr ?_
  refine mv w0_0 rfl rfl rfl rfl rfl rfl ?_
  refine ln A0_0 Try.underlying37 rfl rfl rfl rfl rfl rfl ?_
  refine pu rfl rfl rfl rfl rfl ?_
  refine dn ?_
  refine cd rfl (fun h3 => ?_) (fun h3 => ?_)
  ·
    refine sr ?_
    refine pu rfl rfl rfl rfl rfl ?_
    refine dn ?_
    exact re rfl Try.func6 rfl (r_t rfl r_nil) rfl ⟨_, rfl, rfl, z.ky kp0⟩
  ·
    refine sk ?_
    refine sr ?_
    refine pu rfl rfl rfl rfl rfl ?_
    refine dn ?_
    refine sr ?_
    refine mv w1_0 rfl rfl rfl rfl rfl rfl ?_
    refine pu rfl rfl rfl rfl rfl ?_
    refine cl rfl rfl rfl rfl rfl Try.func20 rfl rfl rfl (fun r4 m4 => laws_szRecordS.calls a1 (1048576 : Int) s0.w (fun b => memb [0] (s0.g b) = true) w1_0 A1_0 r4 m4) ?_
    rintro r4 _ w4 m4 ⟨rfl, ky4⟩
    obtain ⟨s5, rfl, p5, n5⟩ := nwx s0 w4 10 ky4
    refine pu rfl rfl rfl rfl rfl ?_
    refine dn ?_
    refine sq ?_
    refine sr ?_
    refine pu rfl rfl rfl rfl rfl ?_
    refine pu rfl rfl rfl rfl rfl ?_
    refine dn ?_
    refine cd rfl (fun h6 => ?_) (fun h6 => ?_)
    ·
      refine sr ?_
      refine pu rfl rfl rfl rfl rfl ?_
      refine dn ?_
      have K7 := (kp0.st p5 rfl)
      exact re rfl Try.func6 rfl (r_t rfl r_nil) rfl ⟨_, rfl, rfl, z.ky K7⟩
    ·
      refine sk ?_
      refine sr ?_
      refine mv w0_0 rfl rfl rfl rfl rfl rfl ?_
      have K8 := (kp0.st p5 rfl)
      have A9 := (A0_0.kp K8)
      refine cl rfl rfl rfl rfl rfl Try.func22 rfl rfl rfl (fun r10 m10 => laws_toIntS.calls a0 s5.w (fun b => memb [0] (s5.g b) = true) w0_0 A9 r10 m10) ?_
      rintro r10 v10_0 w10 m10 ⟨f10_0, ky10⟩
      obtain ⟨s11, rfl, p11, n11⟩ := nwx s5 w10 11 ky10
      have A10_0 := f10_0.c n11
      refine mv w1_0 rfl rfl rfl rfl rfl rfl ?_
      have K13 := (K8.st p11 rfl)
      have A14 := (A1_0.kp K13)
      refine cl rfl rfl rfl rfl rfl Try.func23 rfl rfl rfl (fun r15 m15 => laws_toRecordS.calls a1 s11.w (fun b => memb [0] (s11.g b) = true) w1_0 A14 r15 m15) ?_
      rintro r15 v15_0 w15 m15 ⟨f15_0, ky15⟩
      obtain ⟨s16, rfl, p16, n16⟩ := nwx s11 w15 12 ky15
      have A15_0 := f15_0.c n16
      refine pu rfl rfl rfl rfl rfl ?_
      have A18 := (A10_0.st p16 rfl)
      refine cl rfl rfl rfl rfl rfl Try.func21 rfl rfl rfl (fun r19 m19 => spec_RedoList.calls r10 r15 a2 s16.w (fun b => memb [11, 12] (s16.g b) = true) v10_0 v15_0 (A18.rd.sub (D := [11, 12]) rfl) (A15_0.rd.sub (D := [11, 12]) rfl) r19 m19) ?_
      rintro r19 _ w19 m19 ⟨v19_0, rfl, f19_0, ky19⟩
      obtain ⟨s20, rfl, p20, n20⟩ := nwx s16 w19 13 ky19
      have A19_0 := f19_0.c n20
      refine pu rfl rfl rfl rfl rfl ?_
      refine pu (v := v19_0) rfl rfl rfl rfl rfl ?_
      refine pu (v := (.int .i64 r19.2)) rfl rfl rfl rfl rfl ?_
      refine asg v19_0 rfl rfl rfl rfl rfl rfl ?_
      refine pu rfl rfl rfl rfl rfl ?_
      refine dn ?_
      refine sr ?_
      refine mv w0_0 rfl rfl rfl rfl rfl rfl ?_
      have K22 := ((K13.st p16 rfl).st p20 rfl)
      have A23 := (A0_0.kp K22)
      refine cl rfl rfl rfl rfl rfl Try.func22 rfl rfl rfl (fun r24 m24 => laws_toIntS.calls a0 s20.w (fun b => memb [0] (s20.g b) = true) w0_0 A23 r24 m24) ?_
      rintro r24 v24_0 w24 m24 ⟨f24_0, ky24⟩
      obtain ⟨s25, rfl, p25, n25⟩ := nwx s20 w24 14 ky24
      have A24_0 := f24_0.c n25
      refine asg v24_0 rfl rfl rfl rfl rfl rfl ?_
      refine dn ?_
      refine sr ?_
      refine mv w1_0 rfl rfl rfl rfl rfl rfl ?_
      have K27 := (K22.st p25 rfl)
      have A28 := (A1_0.kp K27)
      refine cl rfl rfl rfl rfl rfl Try.func23 rfl rfl rfl (fun r29 m29 => laws_toRecordS.calls a1 s25.w (fun b => memb [0] (s25.g b) = true) w1_0 A28 r29 m29) ?_
      rintro r29 v29_0 w29 m29 ⟨f29_0, ky29⟩
      obtain ⟨s30, rfl, p30, n30⟩ := nwx s25 w29 15 ky29
      have A29_0 := f29_0.c n30
      refine asg v29_0 rfl rfl rfl rfl rfl rfl ?_
      refine dn ?_
      refine sr ?_
      refine mv v24_0 rfl rfl rfl rfl rfl rfl ?_
      refine mv v29_0 rfl rfl rfl rfl rfl rfl ?_
      refine pu rfl rfl rfl rfl rfl ?_
      have A32 := (A24_0.st p30 rfl)
      refine cl rfl rfl rfl rfl rfl Try.func24 rfl rfl rfl (fun r33 m33 => impl_RedoList.calls r24 r29 a2 s30.w (fun b => memb [14, 15] (s30.g b) = true) v24_0 v29_0 (A32.rd.sub (D := [14, 15]) rfl) (A29_0.rd.sub (D := [14, 15]) rfl) r33 m33) ?_
      rintro r33 _ w33 m33 ⟨v33_0, rfl, f33_0, ky33⟩
      obtain ⟨s34, rfl, p34, n34⟩ := nwx s30 w33 16 ky33
      have A33_0 := f33_0.c n34
      refine pu rfl rfl rfl rfl rfl ?_
      refine pu (v := v33_0) rfl rfl rfl rfl rfl ?_
      refine pu (v := (.int .i64 r33.2)) rfl rfl rfl rfl rfl ?_
      refine asg v33_0 rfl rfl rfl rfl rfl rfl ?_
      refine pu rfl rfl rfl rfl rfl ?_
      refine dn ?_
      refine sq ?_
      refine sr ?_
      refine mv v33_0 rfl rfl rfl rfl rfl rfl ?_
      refine mv v19_0 rfl rfl rfl rfl rfl rfl ?_
      have A36 := (((A19_0.st p25 rfl).st p30 rfl).st p34 rfl)
      refine cl rfl rfl rfl rfl rfl Try.func25 rfl rfl rfl (fun r37 m37 => laws_eqIntS.calls r33.1 r19.1 s34.w (fun b => memb [16, 13] (s34.g b) = true) v33_0 v19_0 (A33_0.rd.sub (D := [16, 13]) rfl) (A36.rd.sub (D := [16, 13]) rfl) r37 m37) ?_
      rintro r37 _ w37 m37 ⟨rfl, ky37⟩
      obtain ⟨s38, rfl, p38, n38⟩ := nwx s34 w37 17 ky37
      refine pu rfl rfl rfl rfl rfl ?_
      refine pu rfl rfl rfl rfl rfl ?_
      refine jy [51, 52, 53, 54, 55] [] 55 (.bool ((!r37) || (r33.2 != r19.2))) rfl (fun Kg39 => ?_) (fun j39 => ?_)
      ·
        rcases Bool.eq_false_or_eq_true (!r37) with hb39 | hb39
        ·
          refine sbT hb39 ?_
          refine uw rfl rfl rfl rfl ?_
          refine uw rfl rfl rfl rfl ?_
          refine uw rfl rfl rfl rfl ?_
          refine pu rfl rfl rfl rfl rfl ?_
          exact Kg39 _ (Ag.put ((Ag.put ((Ag.put ((Ag.put (Ag.base rfl) rfl)) rfl)) rfl)) rfl) (by rw [hb39]; rfl)
        ·
          refine sbT hb39 ?_
          refine pu rfl rfl rfl rfl rfl ?_
          refine pu rfl rfl rfl rfl rfl ?_
          refine pu rfl rfl rfl rfl rfl ?_
          refine pu rfl rfl rfl rfl rfl ?_
          exact Kg39 _ (Ag.put ((Ag.put ((Ag.put ((Ag.put (Ag.base rfl) rfl)) rfl)) rfl)) rfl) (by rw [hb39]; rfl)
      refine dn ?_
      refine cd rfl (fun h40 => ?_) (fun h40 => ?_)
      ·
        refine sr ?_
        refine pu rfl rfl rfl rfl rfl ?_
        refine dn ?_
        have K41 := (((K27.st p30 rfl).st p34 rfl).st p38 rfl)
        exact re rfl Try.func6 rfl (r_t rfl r_nil) rfl ⟨_, rfl, rfl, z.ky K41⟩
      ·
        refine sk ?_
        refine sq ?_
        refine sr ?_
        refine mv v24_0 rfl rfl rfl rfl rfl rfl ?_
        refine mv w0_0 rfl rfl rfl rfl rfl rfl ?_
        have K42 := (((K27.st p30 rfl).st p34 rfl).st p38 rfl)
        have A43 := (A0_0.kp K42)
        refine cl rfl rfl rfl rfl rfl Try.func22 rfl rfl rfl (fun r44 m44 => laws_toIntS.calls a0 s38.w (fun b => memb [0] (s38.g b) = true) w0_0 A43 r44 m44) ?_
        rintro r44 v44_0 w44 m44 ⟨f44_0, ky44⟩
        obtain ⟨s45, rfl, p45, n45⟩ := nwx s38 w44 18 ky44
        have A44_0 := f44_0.c n45
        have A47 := (((A32.st p34 rfl).st p38 rfl).st p45 rfl)
        refine cl rfl rfl rfl rfl rfl Try.func25 rfl rfl rfl (fun r48 m48 => laws_eqIntS.calls r24 r44 s45.w (fun b => memb [14, 18] (s45.g b) = true) v24_0 v44_0 (A47.rd.sub (D := [14, 18]) rfl) (A44_0.rd.sub (D := [14, 18]) rfl) r48 m48) ?_
        rintro r48 _ w48 m48 ⟨rfl, ky48⟩
        obtain ⟨s49, rfl, p49, n49⟩ := nwx s45 w48 19 ky48
        refine pu rfl rfl rfl rfl rfl ?_
        refine dn ?_
        refine cd rfl (fun h50 => ?_) (fun h50 => ?_)
        ·
          refine sr ?_
          refine pu rfl rfl rfl rfl rfl ?_
          refine dn ?_
          have K51 := ((K42.st p45 rfl).st p49 rfl)
          exact re rfl Try.func6 rfl (r_t rfl r_nil) rfl ⟨_, rfl, rfl, z.ky K51⟩
        ·
          refine sk ?_
          refine sq ?_
          refine sr ?_
          refine mv v29_0 rfl rfl rfl rfl rfl rfl ?_
          refine mv w1_0 rfl rfl rfl rfl rfl rfl ?_
          have K52 := ((K42.st p45 rfl).st p49 rfl)
          have A53 := (A1_0.kp K52)
          refine cl rfl rfl rfl rfl rfl Try.func23 rfl rfl rfl (fun r54 m54 => laws_toRecordS.calls a1 s49.w (fun b => memb [0] (s49.g b) = true) w1_0 A53 r54 m54) ?_
          rintro r54 v54_0 w54 m54 ⟨f54_0, ky54⟩
          obtain ⟨s55, rfl, p55, n55⟩ := nwx s49 w54 20 ky54
          have A54_0 := f54_0.c n55
          have A57 := (((((A29_0.st p34 rfl).st p38 rfl).st p45 rfl).st p49 rfl).st p55 rfl)
          refine cl rfl rfl rfl rfl rfl Try.func26 rfl rfl rfl (fun r58 m58 => laws_eqRecordS.calls r29 r54 s55.w (fun b => memb [15, 20] (s55.g b) = true) v29_0 v54_0 (A57.rd.sub (D := [15, 20]) rfl) (A54_0.rd.sub (D := [15, 20]) rfl) r58 m58) ?_
          rintro r58 _ w58 m58 ⟨rfl, ky58⟩
          obtain ⟨s59, rfl, p59, n59⟩ := nwx s55 w58 21 ky58
          refine pu rfl rfl rfl rfl rfl ?_
          refine dn ?_
          refine cd rfl (fun h60 => ?_) (fun h60 => ?_)
          ·
            refine sr ?_
            refine pu rfl rfl rfl rfl rfl ?_
            refine dn ?_
            have K61 := ((K52.st p55 rfl).st p59 rfl)
            exact re rfl Try.func6 rfl (r_t rfl r_nil) rfl ⟨_, rfl, rfl, z.ky K61⟩
          ·
            refine sk ?_
            refine sr ?_
            refine pu rfl rfl rfl rfl rfl ?_
            refine dn ?_
            refine sr ?_
            refine mv v24_0 rfl rfl rfl rfl rfl rfl ?_
            refine pu rfl rfl rfl rfl rfl ?_
            have A63 := (((A47.st p49 rfl).st p55 rfl).st p59 rfl)
            obtain ⟨os62, ho62, hn62, hc62⟩ := A63
            refine cl rfl rfl rfl rfl rfl Try.func27 rfl rfl rfl (fun r62 m62 => laws_markIntS.calls r24 (1 : Int) s59.w (fun b => memb [] (s59.g b) = true) v24_0 os62 ho62 hn62 (apart_of hc62 rfl) r62 m62) ?_
            rintro r62 _ w62 m62 ⟨rfl, w62_, ky62⟩
            obtain ⟨s64, rfl, p64, A64⟩ := nwo 22 hc62 ky62 w62_
            refine pu rfl rfl rfl rfl rfl ?_
            refine dn ?_
            refine sr ?_
            refine mv v29_0 rfl rfl rfl rfl rfl rfl ?_
            refine pu rfl rfl rfl rfl rfl ?_
            have A67 := ((A57.st p59 rfl).st p64 rfl)
            obtain ⟨os66, ho66, hn66, hc66⟩ := A67
            refine cl rfl rfl rfl rfl rfl Try.func28 rfl rfl rfl (fun r66 m66 => laws_markRecordS.calls r29 r62.1 s64.w (fun b => memb [] (s64.g b) = true) v29_0 os66 ho66 hn66 (apart_of hc66 rfl) r66 m66) ?_
            rintro r66 _ w66 m66 ⟨rfl, w66_, ky66⟩
            obtain ⟨s68, rfl, p68, A68⟩ := nwo 23 hc66 ky66 w66_
            refine pu rfl rfl rfl rfl rfl ?_
            refine dn ?_
            refine sq ?_
            refine sr ?_
            refine pu rfl rfl rfl rfl rfl ?_
            refine pu rfl rfl rfl rfl rfl ?_
            refine pu rfl rfl rfl rfl rfl ?_
            refine ji [8, 9, 10, 11, 12] (fun (y70 : Bool) (e : Env) (w : World) => ∃ (s : St) (e0 : Env), w = s.w ∧ e = upd (upd (upd (upd (upd (upd (upd (upd e0 0 w0_0) 1 w1_0) 2 (.int .i64 a2)) 8 v19_0) 9 (.int .i64 r19.2)) 12 v33_0) 13 (.int .i64 r33.2)) 79 (.bool y70) ∧ Kp s0 s ∧ OwF (Kd.sl 3 (Kd.int .i64)) s [v19_0] r19.1 13 ∧ OwF (Kd.sl 3 (Kd.int .i64)) s [v33_0] r33.1 16) (fun Gj70 Kj70 => ?_) ?_
            ·
              rcases Bool.eq_false_or_eq_true (decide (r66.1 < (0 : Int))) with hb70 | hb70
              ·
                refine sbT hb70 ?_
                rw [if_pos hb70]
                refine uw rfl rfl rfl rfl ?_
                refine uw rfl rfl rfl rfl ?_
                refine uw rfl rfl rfl rfl ?_
                refine uw rfl rfl rfl rfl ?_
                refine pu rfl rfl rfl rfl rfl ?_
                have A71 := (((((((A36.st p38 rfl).st p45 rfl).st p49 rfl).st p55 rfl).st p59 rfl).st p64 rfl).st p68 rfl)
                have A72 := (((((((A33_0.st p38 rfl).st p45 rfl).st p49 rfl).st p55 rfl).st p59 rfl).st p64 rfl).st p68 rfl)
                have K73 := ((((K52.st p55 rfl).st p59 rfl).st p64 rfl).st p68 rfl)
                exact Kj70 _ _ _ ⟨s68, _, rfl, (ue (ue (ue (ue (ue (ue (ue (ue rfl rfl) rfl) rfl) rfl) rfl) rfl) rfl) rfl), K73, A71, A72⟩
              ·
                refine sbT hb70 ?_
                rw [if_neg (by rw [hb70]; decide)]
                refine mv v33_0 rfl rfl rfl rfl rfl rfl ?_
                refine mv v19_0 rfl rfl rfl rfl rfl rfl ?_
                have A74 := (((((((A33_0.st p38 rfl).st p45 rfl).st p49 rfl).st p55 rfl).st p59 rfl).st p64 rfl).st p68 rfl)
                have A75 := (((((((A36.st p38 rfl).st p45 rfl).st p49 rfl).st p55 rfl).st p59 rfl).st p64 rfl).st p68 rfl)
                refine cl rfl rfl rfl rfl rfl Try.func25 rfl rfl rfl (fun r76 m76 => laws_eqIntS.calls r33.1 r19.1 s68.w (fun b => memb [16, 13] (s68.g b) = true) v33_0 v19_0 (A74.rd.sub (D := [16, 13]) rfl) (A75.rd.sub (D := [16, 13]) rfl) r76 m76) ?_
                rintro r76 _ w76 m76 ⟨rfl, ky76⟩
                obtain ⟨s77, rfl, p77, n77⟩ := nwx s68 w76 24 ky76
                refine pu rfl rfl rfl rfl rfl ?_
                refine pu rfl rfl rfl rfl rfl ?_
                have A78 := (A75.st p77 rfl)
                have A79 := (A74.st p77 rfl)
                have K80 := (((((K52.st p55 rfl).st p59 rfl).st p64 rfl).st p68 rfl).st p77 rfl)
                exact Kj70 _ _ _ ⟨s77, _, rfl, (ue (ue (ue (ue (ue (ue (ue (ue rfl rfl) rfl) rfl) rfl) rfl) rfl) rfl) rfl), K80, A78, A79⟩
            rintro y70 _ _ ⟨s81, _, rfl, rfl, Ky70, Cy70_21, Cy70_35⟩
            refine pu rfl rfl rfl rfl rfl ?_
            refine jy [80, 81, 82, 83, 84] [] 84 (.bool (y70 || (r33.2 != r19.2))) rfl (fun Kg82 => ?_) (fun j82 => ?_)
            ·
              rcases Bool.eq_false_or_eq_true y70 with hb82 | hb82
              ·
                refine sbT hb82 ?_
                refine uw rfl rfl rfl rfl ?_
                refine uw rfl rfl rfl rfl ?_
                refine uw rfl rfl rfl rfl ?_
                refine pu rfl rfl rfl rfl rfl ?_
                exact Kg82 _ (Ag.put ((Ag.put ((Ag.put ((Ag.put (Ag.base rfl) rfl)) rfl)) rfl)) rfl) (by rw [hb82]; rfl)
              ·
                refine sbT hb82 ?_
                refine pu rfl rfl rfl rfl rfl ?_
                refine pu rfl rfl rfl rfl rfl ?_
                refine pu rfl rfl rfl rfl rfl ?_
                refine pu rfl rfl rfl rfl rfl ?_
                exact Kg82 _ (Ag.put ((Ag.put ((Ag.put ((Ag.put (Ag.base rfl) rfl)) rfl)) rfl)) rfl) (by rw [hb82]; rfl)
            refine dn ?_
            refine cd rfl (fun h83 => ?_) (fun h83 => ?_)
            ·
              refine sr ?_
              refine pu rfl rfl rfl rfl rfl ?_
              refine dn ?_
              exact re rfl Try.func6 rfl (r_t rfl r_nil) rfl ⟨_, rfl, rfl, z.ky Ky70⟩
            ·
              refine sk ?_
              refine sr ?_
              refine pu rfl rfl rfl rfl rfl ?_
              refine dn ?_
              refine sr ?_
              refine mv v33_0 rfl rfl rfl rfl rfl rfl ?_
              refine pu rfl rfl rfl rfl rfl ?_
              obtain ⟨os84, ho84, hn84, hc84⟩ := Cy70_35
              refine cl rfl rfl rfl rfl rfl Try.func27 rfl rfl rfl (fun r84 m84 => laws_markIntS.calls r33.1 (1 : Int) s81.w (fun b => memb [] (s81.g b) = true) v33_0 os84 ho84 hn84 (apart_of hc84 rfl) r84 m84) ?_
              rintro r84 _ w84 m84 ⟨rfl, w84_, ky84⟩
              obtain ⟨s85, rfl, p85, A85⟩ := nwo 25 hc84 ky84 w84_
              refine pu rfl rfl rfl rfl rfl ?_
              refine dn ?_
              refine sr ?_
              refine pu rfl rfl rfl rfl rfl ?_
              refine dn ?_
              refine sr ?_
              refine mv v33_0 rfl rfl rfl rfl rfl rfl ?_
              refine pu rfl rfl rfl rfl rfl ?_
              refine cl rfl rfl rfl rfl rfl Try.func29 rfl rfl rfl (fun r87 m87 => laws_heldIntS.calls r84.2 (1 : Int) s85.w (fun b => memb [16] (s85.g b) = true) v33_0 A85.rd r87 m87) ?_
              rintro r87 _ w87 m87 ⟨rfl, ky87⟩
              obtain ⟨s88, rfl, p88, n88⟩ := nwx s85 w87 26 ky87
              refine pu rfl rfl rfl rfl rfl ?_
              refine dn ?_
              refine sq ?_
              refine sr ?_
              refine pu rfl rfl rfl rfl rfl ?_
              refine pu rfl rfl rfl rfl rfl ?_
              refine dn ?_
              refine cd rfl (fun h89 => ?_) (fun h89 => ?_)
              ·
                refine sr ?_
                refine pu rfl rfl rfl rfl rfl ?_
                refine dn ?_
                have K90 := ((Ky70.st p85 rfl).st p88 rfl)
                exact re rfl Try.func6 rfl (r_t rfl r_nil) rfl ⟨_, rfl, rfl, z.ky K90⟩
              ·
                refine sk ?_
                refine sq ?_
                refine sr ?_
                refine pu rfl rfl rfl rfl rfl ?_
                refine pu rfl rfl rfl rfl rfl ?_
                refine pu rfl rfl rfl rfl rfl ?_
                refine dn ?_
                refine cd rfl (fun h91 => ?_) (fun h91 => ?_)
                ·
                  refine sr ?_
                  refine pu rfl rfl rfl rfl rfl ?_
                  refine dn ?_
                  have K92 := ((Ky70.st p85 rfl).st p88 rfl)
                  exact re rfl Try.func6 rfl (r_t rfl r_nil) rfl ⟨_, rfl, rfl, z.ky K92⟩
                ·
                  refine sk ?_
                  refine sr ?_
                  refine mv w0_0 rfl rfl rfl rfl rfl rfl ?_
                  have K93 := ((Ky70.st p85 rfl).st p88 rfl)
                  have A94 := (A0_0.kp K93)
                  refine cl rfl rfl rfl rfl rfl Try.func22 rfl rfl rfl (fun r95 m95 => laws_toIntS.calls a0 s88.w (fun b => memb [0] (s88.g b) = true) w0_0 A94 r95 m95) ?_
                  rintro r95 v95_0 w95 m95 ⟨f95_0, ky95⟩
                  obtain ⟨s96, rfl, p96, n96⟩ := nwx s88 w95 27 ky95
                  have A95_0 := f95_0.c n96
                  refine mv w1_0 rfl rfl rfl rfl rfl rfl ?_
                  have K98 := (K93.st p96 rfl)
                  have A99 := (A1_0.kp K98)
                  refine cl rfl rfl rfl rfl rfl Try.func23 rfl rfl rfl (fun r100 m100 => laws_toRecordS.calls a1 s96.w (fun b => memb [0] (s96.g b) = true) w1_0 A99 r100 m100) ?_
                  rintro r100 v100_0 w100 m100 ⟨f100_0, ky100⟩
                  obtain ⟨s101, rfl, p101, n101⟩ := nwx s96 w100 28 ky100
                  have A100_0 := f100_0.c n101
                  refine pu rfl rfl rfl rfl rfl ?_
                  have A103 := (A95_0.st p101 rfl)
                  refine cl rfl rfl rfl rfl rfl Try.func24 rfl rfl rfl (fun r104 m104 => impl_RedoList.calls r95 r100 a2 s101.w (fun b => memb [27, 28] (s101.g b) = true) v95_0 v100_0 (A103.rd.sub (D := [27, 28]) rfl) (A100_0.rd.sub (D := [27, 28]) rfl) r104 m104) ?_
                  rintro r104 _ w104 m104 ⟨v104_0, rfl, f104_0, ky104⟩
                  obtain ⟨s105, rfl, p105, n105⟩ := nwx s101 w104 29 ky104
                  have A104_0 := f104_0.c n105
                  refine pu rfl rfl rfl rfl rfl ?_
                  refine pu (v := v104_0) rfl rfl rfl rfl rfl ?_
                  refine pu (v := (.int .i64 r104.2)) rfl rfl rfl rfl rfl ?_
                  refine asg v104_0 rfl rfl rfl rfl rfl rfl ?_
                  refine pu rfl rfl rfl rfl rfl ?_
                  refine dn ?_
                  refine sq ?_
                  refine sr ?_
                  refine mv v104_0 rfl rfl rfl rfl rfl rfl ?_
                  refine mv v19_0 rfl rfl rfl rfl rfl rfl ?_
                  have A107 := (((((Cy70_21.st p85 rfl).st p88 rfl).st p96 rfl).st p101 rfl).st p105 rfl)
                  refine cl rfl rfl rfl rfl rfl Try.func25 rfl rfl rfl (fun r108 m108 => laws_eqIntS.calls r104.1 r19.1 s105.w (fun b => memb [29, 13] (s105.g b) = true) v104_0 v19_0 (A104_0.rd.sub (D := [29, 13]) rfl) (A107.rd.sub (D := [29, 13]) rfl) r108 m108) ?_
                  rintro r108 _ w108 m108 ⟨rfl, ky108⟩
                  obtain ⟨s109, rfl, p109, n109⟩ := nwx s105 w108 30 ky108
                  refine pu rfl rfl rfl rfl rfl ?_
                  refine pu rfl rfl rfl rfl rfl ?_
                  refine jy [109, 110, 111, 112, 113] [] 113 (.bool ((!r108) || (r104.2 != r19.2))) rfl (fun Kg110 => ?_) (fun j110 => ?_)
                  ·
                    rcases Bool.eq_false_or_eq_true (!r108) with hb110 | hb110
                    ·
                      refine sbT hb110 ?_
                      refine uw rfl rfl rfl rfl ?_
                      refine uw rfl rfl rfl rfl ?_
                      refine uw rfl rfl rfl rfl ?_
                      refine pu rfl rfl rfl rfl rfl ?_
                      exact Kg110 _ (Ag.put ((Ag.put ((Ag.put ((Ag.put (Ag.base rfl) rfl)) rfl)) rfl)) rfl) (by rw [hb110]; rfl)
                    ·
                      refine sbT hb110 ?_
                      refine pu rfl rfl rfl rfl rfl ?_
                      refine pu rfl rfl rfl rfl rfl ?_
                      refine pu rfl rfl rfl rfl rfl ?_
                      refine pu rfl rfl rfl rfl rfl ?_
                      exact Kg110 _ (Ag.put ((Ag.put ((Ag.put ((Ag.put (Ag.base rfl) rfl)) rfl)) rfl)) rfl) (by rw [hb110]; rfl)
                  refine dn ?_
                  refine cd rfl (fun h111 => ?_) (fun h111 => ?_)
                  ·
                    refine sr ?_
                    refine pu rfl rfl rfl rfl rfl ?_
                    refine dn ?_
                    have K112 := (((K98.st p101 rfl).st p105 rfl).st p109 rfl)
                    exact re rfl Try.func6 rfl (r_t rfl r_nil) rfl ⟨_, rfl, rfl, z.ky K112⟩
                  ·
                    refine sk ?_
                    refine sr ?_
                    refine pu rfl rfl rfl rfl rfl ?_
                    refine dn ?_
                    refine sr ?_
                    refine mv v33_0 rfl rfl rfl rfl rfl rfl ?_
                    refine pu rfl rfl rfl rfl rfl ?_
                    have A113 := (((((A85.st p88 rfl).st p96 rfl).st p101 rfl).st p105 rfl).st p109 rfl)
                    refine cl rfl rfl rfl rfl rfl Try.func29 rfl rfl rfl (fun r114 m114 => laws_heldIntS.calls r84.2 (1 : Int) s109.w (fun b => memb [16] (s109.g b) = true) v33_0 A113.rd r114 m114) ?_
                    rintro r114 _ w114 m114 ⟨rfl, ky114⟩
                    obtain ⟨s115, rfl, p115, n115⟩ := nwx s109 w114 31 ky114
                    refine pu rfl rfl rfl rfl rfl ?_
                    refine dn ?_
                    refine sq ?_
                    refine sr ?_
                    refine pu rfl rfl rfl rfl rfl ?_
                    refine pu rfl rfl rfl rfl rfl ?_
                    refine dn ?_
                    refine cd rfl (fun h116 => ?_) (fun h116 => ?_)
                    ·
                      refine sr ?_
                      refine pu rfl rfl rfl rfl rfl ?_
                      refine dn ?_
                      have K117 := ((((K98.st p101 rfl).st p105 rfl).st p109 rfl).st p115 rfl)
                      exact re rfl Try.func6 rfl (r_t rfl r_nil) rfl ⟨_, rfl, rfl, z.ky K117⟩
                    ·
                      refine sk ?_
                      refine sq ?_
                      refine sr ?_
                      refine pu rfl rfl rfl rfl rfl ?_
                      refine pu rfl rfl rfl rfl rfl ?_
                      refine pu rfl rfl rfl rfl rfl ?_
                      refine dn ?_
                      refine cd rfl (fun h118 => ?_) (fun h118 => ?_)
                      ·
                        refine sr ?_
                        refine pu rfl rfl rfl rfl rfl ?_
                        refine dn ?_
                        have K119 := ((((K98.st p101 rfl).st p105 rfl).st p109 rfl).st p115 rfl)
                        exact re rfl Try.func6 rfl (r_t rfl r_nil) rfl ⟨_, rfl, rfl, z.ky K119⟩
                      ·
                        refine sk ?_
                        refine sr ?_
                        refine pu rfl rfl rfl rfl rfl ?_
                        refine dn ?_
                        have K120 := ((((K98.st p101 rfl).st p105 rfl).st p109 rfl).st p115 rfl)
                        exact re rfl Try.func6 rfl (r_t rfl r_nil) rfl ⟨_, rfl, rfl, z.ky K120⟩
end Go.Proofs.Ytndhbfkahbbkaaa
