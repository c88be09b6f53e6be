import Derived.Test.YtegicanjlefmdaaGreatP1
/- FnOrders' model is true at every input. -/
set_option linter.unusedVariables false
set_option linter.unusedSimpArgs false
namespace Go.Proofs.YtegicanjlefmdaaGreat
open Go V Ieee
theorem spec_edges (l : List Deed) (hd : ∀ d ∈ l, okDd d) (hk : DKK l = true) : spec_GraphEdges.f l = some (EDs l l.length) := by
  obtain ⟨hv, hl⟩ := dkk_v l hd hk
  unfold spec_GraphEdges.f
  rw [spec_DeedsOk l hd, hk, Option.bind_some, if_neg (by decide), spec_edges_loop l hv hl]
theorem impl_order (l : List Deed) (hd : ∀ d ∈ l, okDd d) (hk : DKK l = true) : impl_GraphOrder.f l = some (if (RES l).1.length < l.length then ([], false) else ((RES l).1, true)) := by
  obtain ⟨hv, hl⟩ := dkk_v l hd hk
  unfold impl_GraphOrder.f
  rw [impl_DeedsOk l hd, Option.bind_some, hk, if_neg (by decide), impl_ahead l hv hl, Option.bind_some, impl_taken l hl, Option.bind_some]
  by_cases h : (RES l).1.length < l.length
  · rw [if_pos (by simp; omega), if_pos h]
  · rw [if_neg (by simp; omega), if_neg h]
/-- the places of those that stand in an order -/
def PL (o : List Int) (i : Nat) (p : List Int) : Prop := ∀ q (hq : q < o.length), q < i → at_ p o[q] = (q : Int)
theorem pl_1 {o : List Int} {n i : Nat} {p : List Int} (hn : o.Nodup) (hb : ∀ x ∈ o, 0 ≤ x ∧ x < (n : Int)) (hp : p.length = n) (hi : i < o.length) (h : PL o i p) : PL o (i + 1) (p.set (o[i]).toNat (i : Int)) := by
  intro q hq hlt
  have b1 := hb _ (List.getElem_mem hi)
  have b2 := hb _ (List.getElem_mem hq)
  rw [at_eq _ _ (by simp; omega), List.getElem_set]
  by_cases e : q = i
  · subst e; rw [if_pos rfl]
  · have hne : ¬ (o[i]).toNat = (o[q]).toNat := fun e' => e (nd_inj hn hq hi (by omega))
    rw [if_neg hne, ← at_eq _ _ (by omega)]
    exact h q hq (by omega)
theorem laws_FnOrders_true (a0 : (List Int)) (h0 : (a0.length ≤ maxLen ∧ ∀ y ∈ a0, InK .u8 y)) : laws_FnOrders.f a0 = some true := by
  have key : Ok (laws_FnOrders.f a0) fun r => r = true := by
    unfold laws_FnOrders.f laws_big.f
    rw [Option.bind_some]
    refine Ok.ite (fun _ => Ok.ret rfl) fun hbig => ?_
    refine Ok.bind (DrawGraphOrder_ok a0 (by simp at hbig; omega)) fun l hd => ?_
    rw [spec_DeedsOk l hd, Option.bind_some]
    cases hk : DKK l with
    | false =>
      rw [if_pos (show (!false) = true from rfl)]
      have e : impl_GraphEdges.f l = some [] := by
        unfold impl_GraphEdges.f
        rw [impl_DeedsOk l hd, hk, Option.bind_some, if_pos (show (!false) = true from rfl)]
      rw [e, Option.bind_some, if_pos (by simp), impl_DeedsOk l hd, hk]
      exact Ok.ret rfl
    | true =>
      obtain ⟨hv, hl⟩ := dkk_v l hd hk
      have hnd : (TMS l).Nodup := by
        simp only [DKK, Bool.and_eq_true, decide_eq_true_eq] at hk
        exact hk.2
      obtain ⟨r1, r2, r3⟩ := res_inv l
      have hel : (EDs l l.length).length ≤ 10000 := by have := eds_len l hl l.length; omega
      rw [if_neg (by decide), impl_order l hd hk, Option.bind_some, impl_GraphRing l hd, Option.bind_some, spec_edges l hd hk, Option.bind_some]
      by_cases hlt : (RES l).1.length < l.length
      · rw [if_pos hlt, if_neg (by decide)]
        have R := res_ring l hlt hk
        have h2 := ri_two l r1 r3 R
        have hle := R.le
        generalize GRR l = r at R h2 hle
        refine Ok.ite (fun hc => absurd hc (by simp; omega)) fun _ => ?_
        refine Ok.iter (fun s => ∃ p : Nat, s = (p : Int) ∧ p ≤ r.length) (fun s => r.length - s.toNat) (fun s hs => ?_) _ ⟨0, rfl, by omega⟩
        obtain ⟨j, rfl, hj⟩ := hs
        unfold laws_FnOrders.b2
        refine Ok.ite (fun hc => ?_) fun _ => Ok.out (Ok.ret rfl)
        have hj : j < r.length := by simpa using hc
        obtain ⟨k, hkl, hk0, hk1⟩ := ri_edge l r1 r3 R j hj
        have ewr : IntKind.wrap .i64 ((j : Int) + 1) = ((j + 1 : Nat) : Int) := by rw [w64 (by omega) (by omega)]; simp
        have etm : ((j + 1 : Nat) : Int).tmod (r.length : Int) = (((j + 1) % r.length : Nat) : Int) := by rw [Int.tmod_eq_emod_of_nonneg (by omega)]; simp
        have hmod := Nat.mod_lt (j + 1) (show 0 < r.length by omega)
        refine Ok.iter (fun (s : Bool × Int) => ∃ p : Nat, s.2 = (p : Int) ∧ p ≤ (EDs l l.length).length ∧ (k < p → s.1 = true)) (fun s => (EDs l l.length).length - s.2.toNat) (fun s hs => ?_) _ ⟨0, rfl, by omega, fun h => by omega⟩
        obtain ⟨b, s2⟩ := s
        obtain ⟨p, hp, hpl, hb⟩ := hs
        simp only [] at hp hb
        subst hp
        unfold laws_FnOrders.b3
        simp only []
        rw [ewr, etm]
        refine Ok.ite (fun hc => ?_) fun hc => Ok.out ?_
        · have hpl : p < (EDs l l.length).length := by simpa using hc
          refine Ok.bind (P := fun y => (k ≤ p → y = true)) ?_ fun y hy => ?_
          · cases b with
            | true => exact Ok.ret fun _ => rfl
            | false =>
              rw [if_neg (by decide)]
              refine Ok.grd (by omega) (Ok.grd (by omega) (Ok.grd (by omega) ?_))
              rw [at_nat _ p hpl, at_nat r _ hmod, at_nat r j hj]
              refine Ok.bind (P := fun y => k = p → y.2.2.2 = true) (Ok.ite (fun hc => Ok.grd (by omega) (Ok.grd (by omega) (Ok.ret fun e => ?_))) fun hc => Ok.ret fun e => ?_) fun y hy => Ok.ret fun hle => ?_
              · subst e; simp [hk1]
              · subst e; simp [hk0] at hc
              · refine hy (Nat.le_antisymm hle (Nat.le_of_not_lt fun h => ?_))
                have := hb h
                cases this
          · refine Ok.ret ⟨⟨p + 1, by rw [w64 (by omega) (by omega)]; simp, by omega, fun h => hy (by omega)⟩, ?_⟩
            simp only []
            rw [w64 (by omega) (by omega)]
            omega
        · have hpe : p = (EDs l l.length).length := by simp at hc; omega
          subst hpe
          rw [hb hkl, if_neg (by decide)]
          exact Ok.ret ⟨⟨j + 1, by simp, by omega⟩, by omega⟩
      · rw [if_neg hlt, if_pos rfl]
        have hge : l.length ≤ (RES l).1.length := by omega
        have T := tp_res l
        have hfull := res_full l hge
        have hlen : (RES l).1.length = l.length := by omega
        have R : OR l (RES l).1 (RES l).2 := ⟨hv, hl, hnd, T, hlen⟩
        have hring : GRR l = [] := by
          unfold GRR
          rw [hk, if_neg (by decide), if_pos (res_all l hge)]
        rw [hring]
        generalize RES l = res at *
        obtain ⟨o, is⟩ := res
        simp only [] at *
        refine Ok.grd (by simp only [Lim]; omega) ?_
        refine Ok.iter (fun (s : List Int × Int) => ∃ p : Nat, s.2 = (p : Int) ∧ p ≤ o.length ∧ s.1.length = l.length ∧ PL o p s.1) (fun s => o.length - s.2.toNat) (fun s hs => ?_) _ ⟨0, rfl, by omega, by simp, fun q hq h => by omega⟩
        obtain ⟨pl, s2⟩ := s
        obtain ⟨p, hp, hpl, hll, hP⟩ := hs
        simp only [] at hp hll hP
        subst hp
        unfold laws_FnOrders.b0
        simp only []
        refine Ok.ite (fun hc => ?_) fun hc => Ok.out ?_
        · have hpl : p < o.length := by simpa using hc
          have hb := T.bd _ (List.getElem_mem hpl)
          rw [at_nat o p hpl]
          refine Ok.grd (by omega) (Ok.bind (P := fun y => y = false) ?_ fun y hy => ?_)
          · refine Ok.ite (fun hc => absurd hc (by simp; omega)) fun _ => Ok.grd (by omega) (Ok.ret (by simp; omega))
          · subst hy
            rw [if_neg (by decide)]
            refine Ok.grd (by omega) (Ok.grd (by omega) (Ok.ret ⟨⟨p + 1, by rw [w64 (by omega) (by omega)]; simp, by omega, by simpa using hll, pl_1 T.nd T.bd hll hpl hP⟩, ?_⟩))
            simp only []
            rw [w64 (by omega) (by omega)]
            omega
        · have hpe : p = o.length := by simp at hc; omega
          subst hpe
          refine Ok.iter (fun s => ∃ p : Nat, s = (p : Int) ∧ p ≤ (EDs l l.length).length) (fun s => (EDs l l.length).length - s.toNat) (fun s hs => ?_) _ ⟨0, rfl, by omega⟩
          obtain ⟨j, rfl, hj⟩ := hs
          unfold laws_FnOrders.b1
          simp only []
          refine Ok.ite (fun hc => ?_) fun hc => Ok.out ?_
          · have hj : j < (EDs l l.length).length := by simpa using hc
            obtain ⟨a, b, ha, hb, hab, e⟩ := mem_eds l (List.getElem_mem hj)
            rw [at_nat _ j hj, e]
            refine Ok.grd (by omega) (Ok.grd (by omega) ?_)
            simp only []
            obtain ⟨p, hp, ep⟩ := hfull b hb
            obtain ⟨q, hq, hqp, eq⟩ := T.lt ha hab hp ep
            have h1 := hP p hp hp
            have h2 := hP q hq hq
            rw [ep] at h1
            rw [eq] at h2
            rw [h1, h2]
            refine Ok.bind (P := fun y => y = ((q : Int), (p : Int))) (Ok.grd (by omega) (Ok.grd (by omega) (Ok.ret rfl))) fun y hy => ?_
            subst hy
            rw [if_neg (by simp; omega), w64 (by omega) (by omega)]
            exact Ok.ret ⟨⟨j + 1, by simp, by omega⟩, by omega⟩
          · have e1 : (((o.length : Int) == (l.length : Int)) && ((([] : List Int).length : Int) == (0 : Int))) = true := by rw [hlen]; simp
            rw [e1, if_pos rfl, impl_serial hd hk R, Option.bind_some, Option.bind_some, if_pos rfl, spec_serial hd hk R]
            exact Ok.ret rfl
  obtain ⟨r, e, rfl⟩ := key
  exact e
end Go.Proofs.YtegicanjlefmdaaGreat
