
import Derived.Test.YtcagjdngannneaaRl
set_option linter.unusedVariables false
set_option linter.unusedSimpArgs false
set_option linter.unusedSectionVars false
namespace Go.Proofs.Ytcagjdngannneaa
open Go V Ieee
def zDd (d : Deed) : Nat := (d.Reads.length + wsum zSp d.Reads) + (d.Writes.length + wsum zI d.Writes)
theorem szDeed (d : Deed) (n : Int) (hs : ok_Deed d) (h0 : 0 ≤ n) (h1 : n ≤ 1048576) : Sz (laws_szDeed.f d n) n (zDd d) := by
  unfold laws_szDeed.f zDd
  obtain ⟨r, er, hr, hr2⟩ := szSpanS d.Reads n hs.2.2.2.1.1 hs.2.2.2.1.2 h0 h1
  rw [er, Option.bind_some]
  by_cases hn : r < 0
  · rw [if_pos (by simpa using hn)]; exact ⟨-1, rfl, by omega, fun h => by omega⟩
  · rw [if_neg (by simpa using hn)]
    obtain ⟨q, eq, hq, hq2⟩ := szItemS d.Writes r hs.2.2.2.2.1 hs.2.2.2.2.2 (by omega) (by omega)
    rw [eq, Option.bind_some]
    by_cases hm : q < 0
    · rw [if_pos (by simpa using hm)]; exact ⟨-1, rfl, by omega, fun h => by omega⟩
    · rw [if_neg (by simpa using hm)]
      refine ⟨q, rfl, by omega, fun h => ?_⟩
      have := hr2 (by omega)
      have := hq2 h
      omega
theorem szDeedS (a : List Deed) (n : Int) (hl : a.length ≤ maxLen) (he : ∀ b ∈ a, ok_Deed b) (h0 : 0 ≤ n) (h1 : n ≤ 1048576) : Sz (laws_szDeedS.f a n) n (a.length + wsum zDd a) := by
  unfold laws_szDeedS.f
  have hl' := hl
  simp only [maxLen] at hl'
  refine szS_gen a n hl h0 h1 (fun k x hk x0 x1 => ?_) (fun x => ?_)
  · obtain ⟨r, er, hr, hr2⟩ := szDeed a[k] x (he _ (List.getElem_mem hk)) x0 x1
    refine ⟨r, hr, hr2, ?_⟩
    unfold laws_szDeedS.b0
    simp only []
    rw [if_pos (by simp; omega), if_pos ⟨by omega, by omega⟩, at_nat _ k hk]
    rw [er, Option.bind_some, w64 (by omega) (by omega)]
    by_cases hn : r < 0
    · rw [if_pos (by simpa using hn), if_pos hn]
    · rw [if_neg (by simpa using hn), if_neg hn]
  · unfold laws_szDeedS.b0
    simp only []
    rw [if_neg (by simp)]; rfl
def lgD (d : Deed) : Prop := zDd d ≤ 1048576
theorem toDeed (d : Deed) (h : lgD d) : laws_toDeed.f d = some d := by
  unfold lgD zDd at h
  unfold laws_toDeed.f
  rw [toSpanS _ (by omega) (lgS_of _ (by omega)), Option.bind_some, toItemS _ (by omega) (lgI_of _ (by omega))]; rfl
theorem eqDeed (d : Deed) (h : lgD d) : laws_eqDeed.f d d = some true := by
  unfold lgD zDd at h
  unfold laws_eqDeed.f
  rw [if_neg (by simp), if_neg (by simp), if_neg (by simp), eqSpanS _ (by omega) (lgS_of _ (by omega)), Option.bind_some, if_neg (by decide), eqItemS _ (by omega) (lgI_of _ (by omega))]; rfl
theorem toDeedS (a : List Deed) (h : a.length ≤ 1048576) (he : ∀ b ∈ a, lgD b) : laws_toDeedS.f a = some a := by
  unfold laws_toDeedS.f
  rw [if_pos ⟨by omega, by simp only [Lim]; omega⟩]
  refine toS_gen a _ (fun l k hk hl => ?_) (fun l => ?_)
  · unfold laws_toDeedS.b0
    simp only []
    rw [if_pos (by simp; omega), if_pos ⟨by omega, by omega⟩, at_nat _ k hk]
    rw [toDeed _ (he _ (List.getElem_mem hk)), Option.bind_some, if_pos ⟨by omega, by omega⟩, w64 (by omega) (by omega)]; rfl
  · unfold laws_toDeedS.b0
    simp only []
    rw [if_neg (by simp)]; rfl
theorem eqDeedS (a : List Deed) (h : a.length ≤ 1048576) (he : ∀ b ∈ a, lgD b) : laws_eqDeedS.f a a = some true := by
  unfold laws_eqDeedS.f
  have := eqS_gen (body := laws_eqDeedS.b0 a a) a a (fun k hk _ => by
    unfold laws_eqDeedS.b0
    rw [if_pos (by simp; omega), if_pos ⟨by omega, by omega⟩, if_pos ⟨by omega, by omega⟩, at_nat _ k hk]
    rw [eqDeed _ (he _ (List.getElem_mem hk)), w64 (by omega) (by omega)]
    simp) (by
    unfold laws_eqDeedS.b0
    rw [if_neg (by simp)]; rfl)
  rw [this]; simp
def wDd (d : Deed) : Nat := 3 + wsum wSp d.Reads + wsum wI d.Writes
theorem markDeedS (a : List Deed) (x : Int) (hl : a.length ≤ 1048576) (he : ∀ d ∈ a, lgD d) (h0 : 0 ≤ x) (h1 : x + (wsum wDd a : Int) ≤ 100000000000) : ∃ a', laws_markDeedS.f a x = some (x + (wsum wDd a : Int), a') ∧ a'.length = a.length :=
  markS1 (mb := laws_markDeedS.b0) (wt := wDd) lgD (fun _ _ => True) (fun _ => trivial) a he x h0 h1
    (fun l y k hk hla hp hy hy1 => by
      unfold lgD zDd at hp
      unfold wDd at hy1 ⊢
      obtain ⟨e1, em1, _⟩ := markSpanS (l[k]).Reads (y + 1 + 1 + 1) (by omega) (by omega) (by omega)
      obtain ⟨e2, em2, _⟩ := markItemS (l[k]).Writes (y + 1 + 1 + 1 + (wsum wSp (l[k]).Reads : Int)) (by omega) (by omega) (by omega)
      refine ⟨Deed.mk y (y + 1) (y + 1 + 1) e1 e2, ?_, trivial⟩
      unfold laws_markDeedS.b0
      simp only []
      rw [if_pos (by simp; omega), if_pos ⟨by omega, by omega⟩, Option.bind_some, if_pos ⟨by omega, by simp; omega⟩, Option.bind_some, if_pos ⟨by omega, by simp; omega⟩, Option.bind_some, if_pos ⟨by omega, by simp; omega⟩]
      simp only [Int.toNat_natCast, at_nat l k hk, List.set_set, at_set _ _ _ hk, List.length_set]
      simp only [show IntKind.wrap .i64 (y + 1) = y + 1 from w64 (by omega) (by omega), show IntKind.wrap .i64 (y + 1 + 1) = y + 1 + 1 from w64 (by omega) (by omega), show IntKind.wrap .i64 (y + 1 + 1 + 1) = y + 1 + 1 + 1 from w64 (by omega) (by omega)]
      rw [em1, Option.bind_some, Option.bind_some]
      simp only [at_set _ _ _ hk, List.set_set, List.length_set]
      rw [if_pos ⟨by omega, by omega⟩, em2, Option.bind_some, Option.bind_some, w64 (by omega) (by omega)]
      congr 3
      congr 1
      omega)
    (fun l y hla => by
      unfold laws_markDeedS.b0
      simp only []
      rw [if_neg (by simp)]; rfl)
theorem wDd_le (l : List Deed) : wsum wDd l ≤ 7 * (l.length + wsum zDd l) := wsum_le wDd zDd 7 l fun x _ => by
  have h1 := wSp_le x.Reads
  have h2 := wI_le x.Writes
  unfold wDd zDd; omega
theorem markIntS (a : List Int) (x : Int) (h0 : 0 ≤ x) (h1 : x + (a.length : Int) ≤ 100000000000) : ∃ a', laws_markIntS.f a x = some (x + (a.length : Int), a') ∧ a'.length = a.length ∧ laws_heldIntS.f a' x = some (x + (a.length : Int)) := by
  have := markS_gen (mb := laws_markIntS.b0) (hb := laws_heldIntS.b0) (wt := fun _ => 1) (fun e y n => e = y ∧ n = 1) a x h0 (by rw [wsum_one]; exact h1)
    (fun l y k hk hla hy hy1 => by
      refine ⟨y, ?_, rfl, rfl⟩
      unfold laws_markIntS.b0
      simp only []
      rw [if_pos (by simp; omega), if_pos ⟨by omega, by omega⟩, w64 (by omega) (by omega), w64 (by omega) (by omega)]; rfl)
    (fun l y hla => by
      unfold laws_markIntS.b0
      simp only []
      rw [if_neg (by simp)]; rfl)
    (fun l y k n hk hla he hy hy1 => by
      obtain ⟨e1, rfl⟩ := he
      unfold laws_heldIntS.b0
      simp only []
      rw [if_pos (by simp; omega), if_pos ⟨by omega, by omega⟩, at_nat _ k hk, e1, if_neg (by simp), w64 (by omega) (by omega), w64 (by omega) (by omega)]; rfl)
    (fun l y hla => by
      unfold laws_heldIntS.b0
      simp only []
      rw [if_neg (by simp)]; rfl)
  rw [wsum_one] at this
  exact this
theorem eqIntS (a : List Int) (h : a.length ≤ 1000000000) : laws_eqIntS.f a a = some true := by
  unfold laws_eqIntS.f
  have := eqS_gen (body := laws_eqIntS.b0 a a) a a (fun k hk _ => by
    unfold laws_eqIntS.b0
    rw [if_pos (by simp; omega), if_pos ⟨by omega, by omega⟩, if_pos ⟨by omega, by omega⟩, at_nat _ k hk, w64 (by omega) (by omega)]
    simp) (by
    unfold laws_eqIntS.b0
    rw [if_neg (by simp)]; rfl)
  rw [this]; simp
end Go.Proofs.Ytcagjdngannneaa
