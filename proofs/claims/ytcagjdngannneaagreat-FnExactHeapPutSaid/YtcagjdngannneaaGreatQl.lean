
import Derived.Test.YtcagjdngannneaaGreatQk
set_option linter.unusedVariables false
set_option linter.unusedSimpArgs false
set_option linter.unusedSectionVars false
namespace Go.Proofs.YtcagjdngannneaaGreat
open Go V Ieee

noncomputable def SOK (b : List Int) : Bool := (TR b).2 || decide (b.length = 0)
noncomputable def POK (p : Page) : Bool := PG p && p.Slots.all SOK
noncomputable def HOK (h : Heap) : Bool := decide (h.Pages.length ≤ 16) && h.Pages.all POK
theorem len0 (b : List Int) : ((b.length : Int) == 0) = decide (b.length = 0) := by
  cases b with
  | nil => rfl
  | cons a l => simp; omega
theorem impl_HeapOk_1_1 (b : List Int) (hb : okB b) : impl_HeapOk_1_1.f b = some (SOK b) := by
  unfold impl_HeapOk_1_1.f SOK
  rw [impl_TupleRead b hb.2 (by have := hb.1; omega), Option.bind_some, len0]
theorem areAllB (l : List (List Int)) (hl : l.length ≤ 1048576) (f : List Int → Option Bool) (g : List Int → Bool) (h : ∀ b ∈ l, f b = some (g b)) : impl_areAll_byte.f l f = some (l.all g) := by
  unfold impl_areAll_byte.f slices_ContainsFunc_byte_byte.f slices_IndexFunc_byte_byte.f
  have hs := iter_scanG (body := slices_IndexFunc_byte_byte.b0 l (fun x0 => impl_areAll_byte_1.f x0 f)) l.length (fun k => (k : Int)) (fun k => g (at_ l (k : Int))) (fun k => (k : Int)) (-1) (fun k hk => by
    unfold slices_IndexFunc_byte_byte.b0 impl_areAll_byte_1.f
    simp only []
    rw [if_pos (by simp; omega), if_pos ⟨by omega, by omega⟩, at_nat _ k hk, h _ (List.getElem_mem hk), Option.bind_some, Option.bind_some, w64 (by omega) (by omega)]
    cases g l[k] <;> rfl) (by
    unfold slices_IndexFunc_byte_byte.b0
    simp only []
    rw [if_neg (by simp)]; rfl)
  rw [all_range l g _ (fun k hk => by rw [at_nat _ k hk])] at hs
  rcases hs with ⟨a, e⟩ | ⟨a, k, hk, e⟩
  · rw [show ((0 : Int)) = ((0 : Nat) : Int) from rfl] at *
    rw [e, a]; rfl
  · rw [show ((0 : Int)) = ((0 : Nat) : Int) from rfl] at *
    rw [e, a, Option.bind_some, Option.bind_some, decide_eq_true (by omega)]; rfl
theorem areAllP (l : List Page) (hl : l.length ≤ 1048576) (f : Page → Option Bool) (g : Page → Bool) (h : ∀ b ∈ l, f b = some (g b)) : impl_areAll_impl_Page.f l f = some (l.all g) := by
  unfold impl_areAll_impl_Page.f slices_ContainsFunc_impl_Page_impl_Page.f slices_IndexFunc_impl_Page_impl_Page.f
  have hs := iter_scanG (body := slices_IndexFunc_impl_Page_impl_Page.b0 l (fun x0 => impl_areAll_impl_Page_1.f x0 f)) l.length (fun k => (k : Int)) (fun k => g (at_ l (k : Int))) (fun k => (k : Int)) (-1) (fun k hk => by
    unfold slices_IndexFunc_impl_Page_impl_Page.b0 impl_areAll_impl_Page_1.f
    simp only []
    rw [if_pos (by simp; omega), if_pos ⟨by omega, by omega⟩, at_nat _ k hk, h _ (List.getElem_mem hk), Option.bind_some, Option.bind_some, w64 (by omega) (by omega)]
    cases g l[k] <;> rfl) (by
    unfold slices_IndexFunc_impl_Page_impl_Page.b0
    simp only []
    rw [if_neg (by simp)]; rfl)
  rw [all_range l g _ (fun k hk => by rw [at_nat _ k hk])] at hs
  rcases hs with ⟨a, e⟩ | ⟨a, k, hk, e⟩
  · rw [show ((0 : Int)) = ((0 : Nat) : Int) from rfl] at *
    rw [e, a]; rfl
  · rw [show ((0 : Int)) = ((0 : Nat) : Int) from rfl] at *
    rw [e, a, Option.bind_some, Option.bind_some, decide_eq_true (by omega)]; rfl
theorem impl_HeapOk (h : Heap) (hh : okH h) : impl_HeapOk.f h = some (HOK h) := by
  unfold impl_HeapOk.f HOK
  rw [areAllP h.Pages hh.1 _ POK (fun p hp => by
    have hp' := hh.2 p hp
    unfold impl_HeapOk_1.f POK
    rw [impl_PageUsed p hp', Option.bind_some, pu_ge, areAllB p.Slots hp'.2.1 _ SOK (fun b hb => impl_HeapOk_1_1 b (hp'.2.2 b hb))]
    cases PG p <;> cases p.Slots.all SOK <;> rfl)]
  by_cases hl : h.Pages.length ≤ 16
  · rw [if_pos (by simp; omega), decide_eq_true hl]; rfl
  · rw [if_neg (by simp; omega), decide_eq_false hl]; rfl
theorem spec_HeapOk (h : Heap) (hh : okH h) : spec_HeapOk.f h = some (HOK h) := by
  unfold spec_HeapOk.f HOK
  by_cases hl : h.Pages.length ≤ 16
  · rw [if_neg (by simp; omega), decide_eq_true hl, Bool.true_and, show ((0 : Int)) = ((0 : Nat) : Int) from rfl]
    rw [iter_scan h.Pages.length (fun k => (k : Int)) (fun k => POK (at_ h.Pages (k : Int))) false true]
    · rw [all_range h.Pages POK _ (fun k hk => by rw [at_nat _ k hk])]
      cases h.Pages.all POK <;> rfl
    · intro k hk
      have hp := hh.2 _ (List.getElem_mem hk)
      have hsl := hp.2.1
      unfold spec_HeapOk.b0
      rw [if_pos (by simp; omega), if_pos ⟨by omega, by omega⟩, at_nat _ k hk, spec_PageUsed _ hp, Option.bind_some, pu_neg]
      unfold POK
      cases hg : PG h.Pages[k] with
      | false => rfl
      | true =>
        rw [if_neg (by decide), Bool.true_and, show ((0 : Int)) = ((0 : Nat) : Int) from rfl]
        rw [iter_scan (h.Pages[k]).Slots.length (fun j => (j : Int)) (fun j => SOK (at_ (h.Pages[k]).Slots (j : Int))) (Sum.inr false) (Sum.inl ((k : Int) + 1))]
        · rw [all_range _ SOK _ (fun j hj => by rw [at_nat _ j hj])]
          cases (h.Pages[k]).Slots.all SOK <;> rfl
        · intro j hj
          have hb := hp.2.2 _ (List.getElem_mem hj)
          unfold spec_HeapOk.b1
          rw [at_nat _ k hk, if_pos (by simp; omega), if_pos ⟨by omega, by omega⟩, at_nat _ j hj, spec_TupleRead _ hb.2, Option.bind_some, if_pos ⟨by omega, by omega⟩, w64 (by omega) (by omega)]
          unfold SOK
          have e : decide ((((h.Pages[k]).Slots[j]).length : Int) > 0) = !decide (((h.Pages[k]).Slots[j]).length = 0) := by
            by_cases hz : ((h.Pages[k]).Slots[j]).length = 0
            · rw [decide_eq_true hz, decide_eq_false (by omega)]; rfl
            · rw [decide_eq_false hz, decide_eq_true (by omega)]; rfl
          rw [e]
          cases (TR (h.Pages[k]).Slots[j]).2 <;> cases decide (((h.Pages[k]).Slots[j]).length = 0) <;> rfl
        · unfold spec_HeapOk.b1
          rw [at_nat _ k hk, if_neg (by simp), w64 (by omega) (by omega)]; rfl
    · unfold spec_HeapOk.b0
      rw [if_neg (by simp)]; rfl
  · rw [if_pos (by simp; omega), decide_eq_false hl]; rfl

noncomputable def HT (h : Heap) (i j : Int) : Tuple × Bool := if rin i 0 ((h.Pages.length : Int) - 1) = true ∧ rin j 0 (((at_ h.Pages i).Slots.length : Int) - 1) = true then TR (at_ (at_ h.Pages i).Slots j) else (T0, false)
noncomputable def HA (h : Heap) (i j : Int) : Tuple × Bool := if HOK h = true then HT h i j else (T0, false)
theorem at_in {α : Type} [Inhabited α] (l : List α) (i : Int) (h : rin i 0 ((l.length : Int) - 1) = true) : 0 ≤ i ∧ i < (l.length : Int) ∧ at_ l i ∈ l := by
  have := rin_iff.1 h
  refine ⟨by omega, by omega, ?_⟩
  have e : i = ((i.toNat : Nat) : Int) := by omega
  rw [e, at_nat l i.toNat (by omega)]; exact List.getElem_mem _
theorem impl_at (h : Heap) (i j : Int) (hh : okH h) : impl_Heap_at.f h i j = some (HT h i j) := by
  unfold impl_Heap_at.f HT
  have h1 := hh.1
  rw [w64 (n := (h.Pages.length : Int) - 1) (by omega) (by omega), within_rin, Option.bind_some]
  cases hr : rin i 0 ((h.Pages.length : Int) - 1) with
  | false => rfl
  | true =>
    obtain ⟨a, b, m⟩ := at_in _ _ hr
    have hp := hh.2 _ m
    have h2 := hp.2.1
    rw [if_neg (by decide), if_pos ⟨a, b⟩, w64 (n := ((at_ h.Pages i).Slots.length : Int) - 1) (by omega) (by omega), within_rin, Option.bind_some, Option.bind_some]
    cases hs : rin j 0 (((at_ h.Pages i).Slots.length : Int) - 1) with
    | false => rfl
    | true =>
      obtain ⟨a', b', m'⟩ := at_in _ _ hs
      have hb := hp.2.2 _ m'
      rw [if_neg (by decide), if_pos ⟨a, b⟩, if_pos ⟨a', b'⟩, impl_TupleRead _ hb.2 (by have := hb.1; omega), if_pos ⟨rfl, rfl⟩]; rfl
theorem impl_HeapAt (h : Heap) (i j : Int) (hh : okH h) : impl_HeapAt.f h i j = some (HA h i j) := by
  unfold impl_HeapAt.f HA
  rw [impl_HeapOk h hh, Option.bind_some, impl_at h i j hh]
  cases HOK h <;> rfl
theorem spec_HeapAt (h : Heap) (i j : Int) (hh : okH h) : spec_HeapAt.f h i j = some (HA h i j) := by
  unfold spec_HeapAt.f HA HT
  have h1 := hh.1
  rw [spec_HeapOk h hh, Option.bind_some, w64 (n := (h.Pages.length : Int) - 1) (by omega) (by omega), in_rin, Option.bind_some]
  cases HOK h with
  | false => rfl
  | true =>
    rw [if_neg (by decide), if_pos rfl, Option.bind_some]
    cases hr : rin i 0 ((h.Pages.length : Int) - 1) with
    | false => rfl
    | true =>
      obtain ⟨a, b, m⟩ := at_in _ _ hr
      have hp := hh.2 _ m
      have h2 := hp.2.1
      rw [if_neg (by decide), if_pos ⟨a, b⟩, w64 (n := ((at_ h.Pages i).Slots.length : Int) - 1) (by omega) (by omega), in_rin, Option.bind_some, Option.bind_some]
      cases hs : rin j 0 (((at_ h.Pages i).Slots.length : Int) - 1) with
      | false => rfl
      | true =>
        obtain ⟨a', b', m'⟩ := at_in _ _ hs
        have hb := hp.2.2 _ m'
        rw [if_neg (by decide), if_pos ⟨a, b⟩, if_pos ⟨a', b'⟩, spec_TupleRead _ hb.2, if_pos ⟨rfl, rfl⟩]; rfl

theorem slots_copy (p : Page) (hp : okP p) : impl_Page_slots.f p = some p.Slots := by
  unfold impl_Page_slots.f
  have h1 := hp.2.1
  have hst : (([] : List (List Int)), (0 : Int)) = (p.Slots.take 0, ((0 : Nat) : Int)) := rfl
  have he : p.Slots = p.Slots.take p.Slots.length := by rw [List.take_length]
  rw [hst]
  conv => rhs; rw [he]
  refine iter_for p.Slots.length (fun k => (p.Slots.take k, (k : Int))) _ (fun k hk => ?_) ?_
  · have hb := (hp.2.2 _ (List.getElem_mem hk)).1
    unfold impl_Page_slots.b0
    simp only []
    rw [if_pos (by simp; omega), if_pos ⟨by omega, by omega⟩, at_nat _ k hk, cloneB _ (by omega), Option.bind_some, if_pos (by simp [Lim]; omega), w64 (by omega) (by omega), ← List.take_succ_eq_append_getElem hk]
    rfl
  · unfold impl_Page_slots.b0
    simp only []
    rw [if_neg (by simp)]; rfl
theorem spec_l7copy (p : Page) (hp : okP p) : spec_l7copy.f p = some p := by
  unfold spec_l7copy.f
  have h1 := hp.2.1
  have hst : ((0 : Int), ([] : List (List Int))) = (((0 : Nat) : Int), p.Slots.take 0) := rfl
  have he : p = Page.mk p.Lsn (p.Slots.take p.Slots.length) := by rw [List.take_length]
  rw [hst]
  conv => rhs; rw [he]
  refine iter_for p.Slots.length (fun k => ((k : Int), p.Slots.take k)) _ (fun k hk => ?_) ?_
  · have hb := (hp.2.2 _ (List.getElem_mem hk)).1
    unfold spec_l7copy.b0
    simp only []
    rw [if_pos (by simp; omega), if_pos ⟨by omega, by omega⟩, at_nat _ k hk, if_pos (by simp [Lim]; omega), if_pos (by simp [Lim]; omega), w64 (by omega) (by omega), List.nil_append, ← List.take_succ_eq_append_getElem hk]
    rfl
  · unfold spec_l7copy.b0
    simp only []
    rw [if_neg (by simp)]; rfl
theorem spec_l10copy (h : Heap) (hh : okH h) : spec_l10copy.f h = some h := by
  unfold spec_l10copy.f
  have h1 := hh.1
  have hst : ((0 : Int), ([] : List Page)) = (((0 : Nat) : Int), h.Pages.take 0) := rfl
  have he : h = Heap.mk (h.Pages.take h.Pages.length) := by rw [List.take_length]
  rw [hst]
  conv => rhs; rw [he]
  refine iter_for h.Pages.length (fun k => ((k : Int), h.Pages.take k)) _ (fun k hk => ?_) ?_
  · have hb := hh.2 _ (List.getElem_mem hk)
    unfold spec_l10copy.b0
    simp only []
    rw [if_pos (by simp; omega), if_pos ⟨by omega, by omega⟩, at_nat _ k hk, spec_l7copy _ hb, Option.bind_some, if_pos (by simp [Lim]; omega), w64 (by omega) (by omega), ← List.take_succ_eq_append_getElem hk]
    rfl
  · unfold spec_l10copy.b0
    simp only []
    rw [if_neg (by simp)]; rfl

def pad (l : List (List Int)) (i : Nat) : List (List Int) := l ++ List.replicate (i + 1 - l.length) []
theorem pad_len (l : List (List Int)) (i : Nat) : i < (pad l i).length := by simp [pad]; omega
theorem pad_id (l : List (List Int)) (i : Nat) (h : i < l.length) : pad l i = l := by
  unfold pad; rw [show i + 1 - l.length = 0 by omega]; simp
def PS (p : Page) (i : Nat) (b : List Int) (n : Int) : Page := Page.mk n ((pad p.Slots i).set i b)
def P0 : Page := Page.mk 0 []
def PP (p : Page) (i : Int) (b : List Int) (n : Int) : Page × Bool := if PG p = true ∧ rin i 0 15 = true ∧ b.length ≠ 0 ∧ rin n 1 1000000 = true ∧ PG (PS p i.toNat b n) = true then (PS p i.toNat b n, true) else (P0, false)
theorem pad_loop {O : Type} {body : List (List Int) → Option (List (List Int) ⊕ O)} (l : List (List Int)) (i : Nat) (o : O) (h : ∀ k : Nat, k ≤ i → l.length ≤ k → body (l ++ List.replicate (k - l.length) []) = some (.inl (l ++ List.replicate (k + 1 - l.length) []))) (hn : body (pad l i) = some (.inr o)) : iter body l = some o := by
  by_cases hi : i < l.length
  · rw [pad_id l i hi] at hn; exact iter_r hn
  · have e0 : l = l ++ List.replicate (l.length + 0 - l.length) [] := by simp
    conv => lhs; arg 2; rw [e0]
    refine iter_for (i + 1 - l.length) (fun k => l ++ List.replicate (l.length + k - l.length) []) o (fun k hk => ?_) ?_
    · exact h (l.length + k) (by omega) (by omega)
    · rw [show l.length + (i + 1 - l.length) - l.length = i + 1 - l.length by omega]; exact hn
theorem ps_ok (p : Page) (i : Nat) (b : List Int) (n : Int) (hp : okP p) (hb : okB b) (hn : InK .i64 n) (hi : i ≤ 15) : okP (PS p i b n) := by
  refine ⟨hn, ?_, ?_⟩
  · have := hp.2.1
    simp [PS, pad]; omega
  · intro y hy
    rcases List.mem_or_eq_of_mem_set hy with hy | rfl
    · unfold pad at hy
      rcases List.mem_append.1 hy with hy | hy
      · exact hp.2.2 y hy
      · rw [(List.mem_replicate.1 hy).2]; exact ⟨by simp, fun x hx => by cases hx⟩
    · exact hb
theorem impl_PagePut (p : Page) (i : Int) (b : List Int) (n : Int) (hp : okP p) (hb : okB b) (hn : InK .i64 n) : impl_PagePut.f p i b n = some (PP p i b n) := by
  unfold impl_PagePut.f PP
  have e1 : impl_isSlot.f i = some (rin i 0 15) := rfl
  have e2 : impl_isLsn.f n = some (rin n 1 1000000) := rfl
  rw [impl_PageUsed p hp, Option.bind_some, pu_neg, e1, e2]
  cases hg : PG p with
  | false => rw [if_neg (c := false = true ∧ _) (by simp)]; rfl
  | true =>
    cases hr : rin i 0 15 with
    | false => rw [if_neg (c := true = true ∧ false = true ∧ _) (by simp)]; rfl
    | true =>
      by_cases hl : b.length = 0
      · rw [if_neg (c := true = true ∧ true = true ∧ _) (fun h => h.2.2.1 hl), len0, decide_eq_true hl]; rfl
      · cases hs : rin n 1 1000000 with
        | false => rw [if_neg (c := true = true ∧ true = true ∧ _ ∧ false = true ∧ _) (by simp), len0, decide_eq_false hl]; rfl
        | true =>
          rw [if_neg (by decide), Option.bind_some, Option.bind_some, len0, decide_eq_false hl, if_neg (by decide), Option.bind_some, if_neg (by decide), slots_copy p hp, Option.bind_some]
          have hi := rin_iff.1 hr
          have ei : i = ((i.toNat : Nat) : Int) := by omega
          have hps := ps_ok p i.toNat b n hp hb hn (by omega)
          have hsl := hp.2.1
          refine pad_loop p.Slots i.toNat _ (fun k hk hk2 => ?_) ?_
          · unfold impl_PagePut.b0
            rw [if_pos (by simp; omega), if_pos (by simp [Lim]; omega), List.append_assoc, ← List.replicate_succ', show k - p.Slots.length + 1 = k + 1 - p.Slots.length by omega]
          · unfold impl_PagePut.b0
            have hpl := pad_len p.Slots i.toNat
            rw [if_neg (by simp; omega), cloneB b (by have := hb.1; omega), Option.bind_some, if_pos ⟨by omega, by omega⟩]
            show (((impl_PageUsed.f (PS p i.toNat b n)).bind fun r95 => (if (decide (r95 < (0 : Int))) = true then (some (P0, false)) else (some (PS p i.toNat b n, true)))).bind fun o => some (Sum.inr o)) = _
            rw [impl_PageUsed _ hps, Option.bind_some, pu_neg]
            by_cases hq : PG (PS p i.toNat b n) = true
            · rw [hq, if_neg (by decide), if_pos ⟨rfl, rfl, hl, rfl, rfl⟩]; rfl
            · rw [eq_false_of_ne_true hq, if_pos (by decide), if_neg (by simp)]; rfl
theorem pg_slot {p : Page} (h : PG p = true) : ∀ b ∈ p.Slots, b.length ≤ 92 := by
  intro b hb
  unfold PG at h
  simp only [Bool.and_eq_true, List.all_eq_true] at h
  have := h.1.1.2 b hb
  simpa using this
theorem spec_PagePut (p : Page) (i : Int) (b : List Int) (n : Int) (hp : okP p) (hb : okB b) (hn : InK .i64 n) : spec_PagePut.f p i b n = some (PP p i b n) := by
  unfold spec_PagePut.f PP
  rw [spec_PageUsed p hp, Option.bind_some, pu_neg, in_rin, in_rin]
  cases hg : PG p with
  | false => rw [if_neg (c := false = true ∧ _) (by simp)]; rfl
  | true =>
    cases hr : rin i 0 15 with
    | false => rw [if_neg (c := true = true ∧ false = true ∧ _) (by simp)]; rfl
    | true =>
      by_cases hl : b.length = 0
      · rw [if_neg (c := true = true ∧ true = true ∧ _) (fun h => h.2.2.1 hl), len0, decide_eq_true hl]; rfl
      · have hi := rin_iff.1 hr
        have hpl := pad_len p.Slots i.toNat
        by_cases h92 : b.length ≤ 92
        · have e92 : decide ((b.length : Int) > 92) = false := decide_eq_false (by omega)
          cases hs : rin n 1 1000000 with
          | false => rw [if_neg (c := true = true ∧ true = true ∧ _ ∧ false = true ∧ _) (by simp), len0, decide_eq_false hl, e92]; rfl
          | true =>
            rw [if_neg (by decide), Option.bind_some, Option.bind_some, len0, decide_eq_false hl, e92, if_neg (by decide), Option.bind_some, if_neg (by decide), spec_l7copy p hp, Option.bind_some]
            have ei : i = ((i.toNat : Nat) : Int) := by omega
            have hps := ps_ok p i.toNat b n hp hb hn (by omega)
            have hsl := hp.2.1
            refine pad_loop p.Slots i.toNat _ (fun k hk hk2 => ?_) ?_
            · unfold spec_PagePut.b0
              rw [if_pos (by simp; omega), if_pos (by simp [Lim]; omega), List.append_assoc, ← List.replicate_succ', show k - p.Slots.length + 1 = k + 1 - p.Slots.length by omega]
            · unfold spec_PagePut.b0
              rw [if_neg (by simp; omega), if_pos (by simp [Lim]; omega), if_pos ⟨by omega, by omega⟩]
              show (((spec_PageUsed.f (PS p i.toNat b n)).bind fun r95 => (if (decide (r95 < (0 : Int))) = true then (some (P0, false)) else (some (PS p i.toNat b n, true)))).bind fun o => some (Sum.inr o)) = _
              rw [spec_PageUsed _ hps, Option.bind_some, pu_neg]
              by_cases hq : PG (PS p i.toNat b n) = true
              · rw [hq, if_neg (by decide), if_pos ⟨rfl, rfl, hl, rfl, rfl⟩]; rfl
              · rw [eq_false_of_ne_true hq, if_pos (by decide), if_neg (by simp)]; rfl
        · have e92 : decide ((b.length : Int) > 92) = true := decide_eq_true (by omega)
          rw [if_neg (c := true = true ∧ true = true ∧ _) (fun h => h92 (pg_slot h.2.2.2.2 b (List.mem_set hpl b))), len0, decide_eq_false hl, e92]
          rfl
end Go.Proofs.YtcagjdngannneaaGreat
