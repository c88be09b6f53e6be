
import Derived.Test.YtcagjdngannneaaRn
set_option linter.unusedVariables false
set_option linter.unusedSimpArgs false
set_option linter.unusedSectionVars false
namespace Go.Proofs.Ytcagjdngannneaa
open Go V Ieee
def zT (d : Track) : Nat := (d.Reads.length + wsum zSp d.Reads) + (d.Writes.length + wsum zI d.Writes)
theorem szTrack (d : Track) (n : Int) (hs : ok_Track d) (h0 : 0 ≤ n) (h1 : n ≤ 1048576) : Sz (laws_szTrack.f d n) n (zT d) := by
  unfold laws_szTrack.f zT
  obtain ⟨r, er, hr, hr2⟩ := szSpanS d.Reads n hs.2.2.2.2.1.1 hs.2.2.2.2.1.2 h0 h1
  rw [er, Option.bind_some]
  by_cases hn : r < 0
  · rw [if_pos (by simpa using hn)]; exact ⟨-1, rfl, by omega, fun h => by omega⟩
  · rw [if_neg (by simpa using hn)]
    obtain ⟨q, eq, hq, hq2⟩ := szItemS d.Writes r hs.2.2.2.2.2.1.1 hs.2.2.2.2.2.1.2 (by omega) (by omega)
    rw [eq, Option.bind_some]
    by_cases hm : q < 0
    · rw [if_pos (by simpa using hm)]; exact ⟨-1, rfl, by omega, fun h => by omega⟩
    · rw [if_neg (by simpa using hm)]
      refine ⟨q, rfl, by omega, fun h => ?_⟩
      have := hr2 (by omega)
      have := hq2 h
      omega
theorem szTrackS (a : List Track) (n : Int) (hl : a.length ≤ maxLen) (he : ∀ b ∈ a, ok_Track b) (h0 : 0 ≤ n) (h1 : n ≤ 1048576) : Sz (laws_szTrackS.f a n) n (a.length + wsum zT a) := by
  unfold laws_szTrackS.f
  have hl' := hl
  simp only [maxLen] at hl'
  refine szS_gen a n hl h0 h1 (fun k x hk x0 x1 => ?_) (fun x => ?_)
  · obtain ⟨r, er, hr, hr2⟩ := szTrack a[k] x (he _ (List.getElem_mem hk)) x0 x1
    refine ⟨r, hr, hr2, ?_⟩
    unfold laws_szTrackS.b0
    simp only []
    rw [if_pos (by simp; omega), if_pos ⟨by omega, by omega⟩, at_nat _ k hk]
    rw [er, Option.bind_some, w64 (by omega) (by omega)]
    by_cases hn : r < 0
    · rw [if_pos (by simpa using hn), if_pos hn]
    · rw [if_neg (by simpa using hn), if_neg hn]
  · unfold laws_szTrackS.b0
    simp only []
    rw [if_neg (by simp)]; rfl
def lgT (d : Track) : Prop := zT d ≤ 1048576
theorem toTrack (d : Track) (h : lgT d) : laws_toTrack.f d = some d := by
  unfold lgT zT at h
  unfold laws_toTrack.f
  rw [toSpanS _ (by omega) (lgS_of _ (by omega)), Option.bind_some, toItemS _ (by omega) (lgI_of _ (by omega))]; rfl
theorem eqTrack (d : Track) (h : lgT d) : laws_eqTrack.f d d = some true := by
  unfold lgT zT at h
  unfold laws_eqTrack.f
  rw [if_neg (by simp), if_neg (by simp), if_neg (by simp), if_neg (by simp), eqSpanS _ (by omega) (lgS_of _ (by omega)), Option.bind_some, if_neg (by decide), eqItemS _ (by omega) (lgI_of _ (by omega)), Option.bind_some, if_neg (by decide), if_neg (by simp), if_neg (by simp)]
theorem toTrackS (a : List Track) (h : a.length ≤ 1048576) (he : ∀ b ∈ a, lgT b) : laws_toTrackS.f a = some a := by
  unfold laws_toTrackS.f
  rw [if_pos ⟨by omega, by simp only [Lim]; omega⟩]
  refine toS_gen a _ (fun l k hk hl => ?_) (fun l => ?_)
  · unfold laws_toTrackS.b0
    simp only []
    rw [if_pos (by simp; omega), if_pos ⟨by omega, by omega⟩, at_nat _ k hk]
    rw [toTrack _ (he _ (List.getElem_mem hk)), Option.bind_some, if_pos ⟨by omega, by omega⟩, w64 (by omega) (by omega)]; rfl
  · unfold laws_toTrackS.b0
    simp only []
    rw [if_neg (by simp)]; rfl
theorem eqTrackS (a : List Track) (h : a.length ≤ 1048576) (he : ∀ b ∈ a, lgT b) : laws_eqTrackS.f a a = some true := by
  unfold laws_eqTrackS.f
  have := eqS_gen (body := laws_eqTrackS.b0 a a) a a (fun k hk _ => by
    unfold laws_eqTrackS.b0
    rw [if_pos (by simp; omega), if_pos ⟨by omega, by omega⟩, if_pos ⟨by omega, by omega⟩, at_nat _ k hk]
    rw [eqTrack _ (he _ (List.getElem_mem hk)), w64 (by omega) (by omega)]
    simp) (by
    unfold laws_eqTrackS.b0
    rw [if_neg (by simp)]; rfl)
  rw [this]; simp
def wT (d : Track) : Nat := 4 + wsum wSp d.Reads + wsum wI d.Writes + 2
def HTr (e : Track) (y : Int) (n : Nat) : Prop := e.Xid = y ∧ e.Begun = y + 1 ∧ e.Ended = y + 1 + 1 ∧ e.All = ((y + 1 + 1 + 1).tmod 3 == 0) ∧ ∃ p q : Nat, n = 4 + p + q + 2 ∧ laws_heldSpanS.f e.Reads (y + 1 + 1 + 1 + 1) = some (y + 1 + 1 + 1 + 1 + (p : Int)) ∧ laws_heldItemS.f e.Writes (y + 1 + 1 + 1 + 1 + (p : Int)) = some (y + 1 + 1 + 1 + 1 + (p : Int) + (q : Int)) ∧ e.In = ((y + 1 + 1 + 1 + 1 + (p : Int) + (q : Int)).tmod 3 == 0) ∧ e.Out = ((y + 1 + 1 + 1 + 1 + (p : Int) + (q : Int) + 1).tmod 3 == 0)
theorem markTrackH (a : List Track) (x : Int) (hl : a.length ≤ 1048576) (he : ∀ d ∈ a, lgT d) (h0 : 0 ≤ x) (h1 : x + (wsum wT a : Int) ≤ 100000000000) : ∃ a', laws_markTrackS.f a x = some (x + (wsum wT a : Int), a') ∧ a'.length = a.length ∧ laws_heldTrackS.f a' x = some (x + (wsum wT a : Int)) :=
  markS_genP (mb := laws_markTrackS.b0) (hb := laws_heldTrackS.b0) (wt := wT) HTr lgT a he x h0 h1
    (fun l y k hk hla hp hy hy1 => by
      unfold lgT zT at hp
      unfold wT at hy1 ⊢
      obtain ⟨e1, em1, _, eh1⟩ := markSpanH (l[k]).Reads (y + 1 + 1 + 1 + 1) (by omega) (by omega) (by omega)
      obtain ⟨e2, em2, _, eh2⟩ := markItemH (l[k]).Writes (y + 1 + 1 + 1 + 1 + (wsum wSp (l[k]).Reads : Int)) (by omega) (by omega) (by omega)
      refine ⟨Track.mk y (y + 1) (y + 1 + 1) ((y + 1 + 1 + 1).tmod 3 == 0) e1 e2 ((y + 1 + 1 + 1 + 1 + (wsum wSp (l[k]).Reads : Int) + (wsum wI (l[k]).Writes : Int)).tmod 3 == 0) ((y + 1 + 1 + 1 + 1 + (wsum wSp (l[k]).Reads : Int) + (wsum wI (l[k]).Writes : Int) + 1).tmod 3 == 0), ?_, rfl, rfl, rfl, rfl, _, _, rfl, eh1, eh2, rfl, rfl⟩
      unfold laws_markTrackS.b0
      simp only []
      rw [if_pos (by simp; omega)]
      have hr : ∀ l' : List Track, l'.length = l.length → (0 ≤ (k : Int) ∧ (k : Int) < (l'.length : Int)) := fun l' h => by omega
      simp only [if_pos (hr _ rfl), Option.bind_some, if_pos (hr _ (List.length_set ..)), Int.toNat_natCast, at_nat l k hk, List.set_set, at_set _ _ _ hk]
      simp only [show IntKind.wrap .i64 (y + 1) = y + 1 from w64 (by omega) (by omega), show IntKind.wrap .i64 (y + 1 + 1) = y + 1 + 1 from w64 (by omega) (by omega), show IntKind.wrap .i64 (y + 1 + 1 + 1) = y + 1 + 1 + 1 from w64 (by omega) (by omega), show IntKind.wrap .i64 (y + 1 + 1 + 1 + 1) = y + 1 + 1 + 1 + 1 from w64 (by omega) (by omega)]
      rw [em1, Option.bind_some]
      simp only []
      rw [em2, Option.bind_some]
      simp only [show IntKind.wrap .i64 (y + 1 + 1 + 1 + 1 + (wsum wSp (l[k]).Reads : Int) + (wsum wI (l[k]).Writes : Int) + 1) = y + 1 + 1 + 1 + 1 + (wsum wSp (l[k]).Reads : Int) + (wsum wI (l[k]).Writes : Int) + 1 from w64 (by omega) (by omega), show IntKind.wrap .i64 (y + 1 + 1 + 1 + 1 + (wsum wSp (l[k]).Reads : Int) + (wsum wI (l[k]).Writes : Int) + 1 + 1) = y + 1 + 1 + 1 + 1 + (wsum wSp (l[k]).Reads : Int) + (wsum wI (l[k]).Writes : Int) + 1 + 1 from w64 (by omega) (by omega), show IntKind.wrap .i64 ((k : Int) + 1) = (k : Int) + 1 from w64 (by omega) (by omega)]
      congr 3
      congr 1
      omega)
    (fun l y hla => by
      unfold laws_markTrackS.b0
      simp only []
      rw [if_neg (by simp)]; rfl)
    (fun l y k n hk hla he hy hy1 => by
      obtain ⟨e1, e2, e3, e4, p, q, rfl, e5, e6, e7, e8⟩ := he
      unfold laws_heldTrackS.b0
      have hr : 0 ≤ (k : Int) ∧ (k : Int) < (l.length : Int) := by omega
      simp only [if_pos hr, at_nat _ k hk]
      rw [if_pos (by simp; omega)]
      simp only [e1, e2, e3, e4, show IntKind.wrap .i64 (y + 1) = y + 1 from w64 (by omega) (by omega), show IntKind.wrap .i64 (y + 1 + 1) = y + 1 + 1 from w64 (by omega) (by omega), show IntKind.wrap .i64 (y + 1 + 1 + 1) = y + 1 + 1 + 1 from w64 (by omega) (by omega), show IntKind.wrap .i64 (y + 1 + 1 + 1 + 1) = y + 1 + 1 + 1 + 1 from w64 (by omega) (by omega)]
      rw [if_neg (by simp), if_neg (by simp), if_neg (by simp), if_neg (by simp), e5, Option.bind_some, if_neg (by simp; omega), e6, Option.bind_some, if_neg (by simp; omega)]
      simp only [e7, e8, show IntKind.wrap .i64 (y + 1 + 1 + 1 + 1 + (p : Int) + (q : Int) + 1) = y + 1 + 1 + 1 + 1 + (p : Int) + (q : Int) + 1 from w64 (by omega) (by omega), show IntKind.wrap .i64 (y + 1 + 1 + 1 + 1 + (p : Int) + (q : Int) + 1 + 1) = y + 1 + 1 + 1 + 1 + (p : Int) + (q : Int) + 1 + 1 from w64 (by omega) (by omega), show IntKind.wrap .i64 ((k : Int) + 1) = (k : Int) + 1 from w64 (by omega) (by omega)]
      rw [if_neg (by simp), if_neg (by simp)]
      congr 3
      omega)
    (fun l y hla => by
      unfold laws_heldTrackS.b0
      simp only []
      rw [if_neg (by simp)]; rfl)
theorem wT_le (l : List Track) : wsum wT l ≤ 7 * (l.length + wsum zT l) := wsum_le wT zT 7 l fun x _ => by
  have h1 := wSp_le x.Reads
  have h2 := wI_le x.Writes
  unfold wT zT; omega
theorem wsum_bd {α : Type} (wt : α → Nat) (c : Nat) : ∀ (l : List α), (∀ x ∈ l, wt x ≤ c) → wsum wt l ≤ l.length * c
  | [], _ => by simp [wsum]
  | x :: l, h => by
    rw [wsum_cons, List.length_cons, Nat.add_mul, Nat.one_mul]
    have := wsum_bd wt c l fun y hy => h y (List.mem_cons_of_mem _ hy)
    have := h x List.mem_cons_self
    omega
end Go.Proofs.Ytcagjdngannneaa
