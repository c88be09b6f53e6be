
import Derived.Test.YtcagjdngannneaaVh
import Derived.Orders
set_option linter.unusedVariables false
set_option linter.unusedSimpArgs false
namespace Go.Proofs.Ytcagjdngannneaa.V
open Go

theorem map_congr {α β : Type} (xs : Array α) (g h : α → β) (e : ∀ x ∈ xs.toList, g x = h x) : xs.map g = xs.map h := by
  apply Array.ext'
  simp only [Array.toList_map]
  exact List.map_congr_left e
theorem opt_congr {α β : Type} (x : Option α) (g h : α → β) (e : ∀ y ∈ x.toArray.toList, g y = h y) : x.map g = x.map h := by
  cases x with
  | none => rfl
  | some y => simp [e y (by simp)]
def selB (o : Oper) : Bool := match o.op with
  | .select .. => true
  | _ => false
theorem exec_congr (o : Oper) (ρ ρ' : Operand → Value) (hs : selB o = false) (h : ∀ x ∈ o.op.operands.toList, ρ x = ρ' x) : execOp ρ o = execOp ρ' o := by
  obtain ⟨dst, op, type, pos, after, guard⟩ := o
  simp only [] at h
  simp only [selB] at hs
  cases op with
  | alloc _ | ready _ | waits _ => rfl
  | move x | assign x | box _ x | load _ x | nilCheck x | unOp _ _ x | convert _ _ x | sliceToArrayPointer _ x | makeInterface _ x | makeChan _ x | fieldAddr _ x _ | field _ x _ | range _ x | next x _ | entry x | typeAssert x _ _ _ | extract x _ | panic x | recv _ x _ =>
    have := h x (by simp [Op.operands]); simp only [execOp, this]
  | pick c a b =>
    have h1 := h c (by simp [Op.operands]); have h2 := h a (by simp [Op.operands]); have h3 := h b (by simp [Op.operands]); simp only [execOp, h1, h2, h3]
  | store _ a v | binOp _ _ a v _ | makeSlice _ a v | indexAddr _ a v | index _ a v | lookup _ a v _ | mapEntry _ a v | send a v =>
    have h1 := h a (by simp [Op.operands]); have h2 := h v (by simp [Op.operands]); simp only [execOp, h1, h2]
  | mapUpdate _ a b c | entryStore _ a b c | insert _ a b c =>
    have h1 := h a (by simp [Op.operands]); have h2 := h b (by simp [Op.operands]); have h3 := h c (by simp [Op.operands]); simp only [execOp, h1, h2, h3]
  | build t ps =>
    have : (ps.map fun (i, x) => (i, ρ x)) = ps.map fun (i, x) => (i, ρ' x) := map_congr _ _ _ fun x hx => by
      have := h x.2 (by simp [Op.operands]; exact ⟨x.1, by simpa using hx⟩)
      simp [this]
    simp only [execOp, this]
  | buildSlice t l ps =>
    have : (ps.map fun (i, x) => (i, ρ x)) = ps.map fun (i, x) => (i, ρ' x) := map_congr _ _ _ fun x hx => by
      have := h x.2 (by simp [Op.operands]; exact ⟨x.1, by simpa using hx⟩)
      simp [this]
    simp only [execOp, this]
  | makeFunc fn a b =>
    have h1 : a.map ρ = a.map ρ' := map_congr _ _ _ fun x hx => h x (by simp [Op.operands]; left; simpa using hx)
    have h2 : b.map ρ = b.map ρ' := map_congr _ _ _ fun x hx => h x (by simp [Op.operands]; right; simpa using hx)
    simp only [execOp, h1, h2]
  | makeMap t r => have := opt_congr r ρ ρ' (fun y hy => h y (by simpa [Op.operands] using hy)); simp only [execOp, this]
  | slice t x lo hi mx =>
    have h0 := h x (by simp [Op.operands])
    have h1 := opt_congr lo ρ ρ' (fun y hy => h y (by simp [Op.operands] at hy ⊢; simp [hy]))
    have h2 := opt_congr hi ρ ρ' (fun y hy => h y (by simp [Op.operands] at hy ⊢; simp [hy]))
    have h3 := opt_congr mx ρ ρ' (fun y hy => h y (by simp [Op.operands] at hy ⊢; simp [hy]))
    simp only [execOp, h0, h1, h2, h3]
  | call c | go c | defer c =>
    have hargs : c.args.map ρ = c.args.map ρ' := map_congr _ _ _ fun x hx => h x (by simp [Op.operands, Call.operands]; right; simpa using hx)
    have hr : ∀ t, resolve ρ c t = resolve ρ' c t := by
      intro t
      unfold resolve
      rw [hargs]
      cases hc : c.callee with
      | builtin b => rfl
      | value f => have := h f (by simp [Op.operands, Call.operands, hc]); simp only [this]
      | invoke r n => have := h r (by simp [Op.operands, Call.operands, hc]); simp only [this]
    simp only [execOp, hr, hargs]
  | select cs b => cases hs



def tmpOf : Operand → List Nat
  | .tmp t => [t]
  | _ => []
def bnds (m : Region.Mode) (o : Oper) : List Nat := (o.after.toList.filter (Region.binds m)).map (·.on)
def eds (m : Region.Mode) (ops : Array Oper) : List (List Nat) := ops.toList.map (bnds m)
def dss (ops : Array Oper) : List (Option Nat) := ops.toList.map (·.dst)
def lk1 (ops : Array Oper) (o : Oper) : List Nat := o.op.operands.toList.flatMap tmpOf ++ (match o.guard with
  | some (g, _) => ((ops[g]?).bind (·.dst)).toList
  | none => [])
def lks (ops : Array Oper) : List (List Nat) := ops.toList.map (lk1 ops)
def allB : List Nat → (Nat → Bool) → Bool
  | [], _ => true
  | x :: xs, p => p x && allB xs p
theorem allB_out {xs : List Nat} {p : Nat → Bool} (h : allB xs p = true) : ∀ x ∈ xs, p x = true := by
  induction xs with
  | nil => simp
  | cons y ys ih =>
    simp only [allB, Bool.and_eq_true] at h
    intro x hx
    rcases List.mem_cons.1 hx with rfl | hx
    · exact h.1
    · exact ih h.2 x hx
def okR (n : Nat) (rk : Nat → Nat) : Nat → List (List Nat) → Bool
  | _, [] => true
  | i, d :: E => allB d (fun j => Nat.blt j n && Nat.blt (rk j) (rk i)) && okR n rk (i + 1) E
theorem okR_out {n : Nat} {rk : Nat → Nat} {E : List (List Nat)} {i0 : Nat} (h : okR n rk i0 E = true) : ∀ i d, E[i]? = some d → ∀ j ∈ d, j < n ∧ rk j < rk (i0 + i) := by
  induction E generalizing i0 with
  | nil => intro i d h; simp at h
  | cons d0 E ih =>
    simp only [okR, Bool.and_eq_true] at h
    intro i d hi j hj
    cases i with
    | zero =>
      simp at hi; subst hi
      have := allB_out h.1 j hj
      simp [Nat.blt] at this
      rw [Nat.add_zero]; omega
    | succ i =>
      have := ih h.2 i d (by simpa using hi) j hj
      rw [show i0 + (i + 1) = i0 + 1 + i by omega]; exact this
structure Ext (n : Nat) (E : List (List Nat)) (l : List Nat) : Prop where
  nd : l.Nodup
  all : ∀ i, i ∈ l ↔ i < n
  dep : ∀ a i b, l = a ++ i :: b → ∀ j ∈ E.getD i [], j ∈ a
theorem eds_mem {m : Region.Mode} {ops : Array Oper} {i j : Nat} : j ∈ (eds m ops).getD i [] ↔ ∃ o, ops[i]? = some o ∧ ∃ e ∈ o.after.toList, Region.binds m e = true ∧ e.on = j := by
  unfold eds bnds
  rw [List.getD_eq_getElem?_getD, List.getElem?_map, Array.getElem?_toList]
  cases h : ops[i]? with
  | none => simp
  | some o => simp [and_assoc]
theorem go_ext (m : Region.Mode) (ops : Array Oper) (rk : Nat → Nat) (hrk : okR ops.size rk 0 (eds m ops) = true) : ∀ fuel t (listed : Array Bool), listed.size = ops.size →
    ((List.range ops.size).filter fun i => !listed.getD i true).length ≤ fuel →
    (Region.linearise.go m ops fuel t listed []).Nodup ∧ (∀ i, i ∈ Region.linearise.go m ops fuel t listed [] ↔ i < ops.size ∧ listed.getD i true = false) ∧
    ∀ a i b, Region.linearise.go m ops fuel t listed [] = a ++ i :: b → ∀ j ∈ (eds m ops).getD i [], listed.getD j false = true ∨ j ∈ a := by
  intro fuel
  induction fuel with
  | zero =>
    intro t listed hs hf
    have hnil : ((List.range ops.size).filter fun i => !listed.getD i true) = [] := List.length_eq_zero_iff.1 (by omega)
    refine ⟨by simp [Region.linearise.go], fun i => ?_, by simp [Region.linearise.go]⟩
    simp only [Region.linearise.go, List.reverse_nil, List.not_mem_nil, false_iff]
    rintro ⟨h1, h2⟩
    have : i ∈ ((List.range ops.size).filter fun i => !listed.getD i true) := List.mem_filter.2 ⟨List.mem_range.2 h1, by simp [h2]⟩
    rw [hnil] at this
    cases this
  | succ fuel ih =>
    intro t listed hs hf
    simp only [Region.linearise.go]
    change (match (Region.ready m ops listed)[t % (Region.ready m ops listed).length]? with
      | some i => Region.linearise.go m ops fuel (t / (Region.ready m ops listed).length) (listed.setIfInBounds i true) [i]
      | none => [].reverse : List Nat).Nodup ∧ (∀ i, i ∈ (match (Region.ready m ops listed)[t % (Region.ready m ops listed).length]? with
      | some i => Region.linearise.go m ops fuel (t / (Region.ready m ops listed).length) (listed.setIfInBounds i true) [i]
      | none => [].reverse : List Nat) ↔ i < ops.size ∧ listed.getD i true = false) ∧
      ∀ a i b, (match (Region.ready m ops listed)[t % (Region.ready m ops listed).length]? with
      | some i => Region.linearise.go m ops fuel (t / (Region.ready m ops listed).length) (listed.setIfInBounds i true) [i]
      | none => [].reverse : List Nat) = a ++ i :: b → ∀ j ∈ (eds m ops).getD i [], listed.getD j false = true ∨ j ∈ a
    cases hi : (Region.ready m ops listed)[t % (Region.ready m ops listed).length]? with
    | none =>
      have hnil : Region.ready m ops listed = [] := by
        cases hr : Region.ready m ops listed with
        | nil => rfl
        | cons x xs =>
          rw [hr] at hi
          have hlt : t % (x :: xs).length < (x :: xs).length := Nat.mod_lt _ (by simp)
          simp at hi
          simp at hlt
          omega
      simp only [List.reverse_nil, List.not_mem_nil, false_iff]
      refine ⟨by simp, fun i => ?_, by simp⟩
      -- the least rank
      have key : ∀ r, ∀ i, rk i < r → ¬ (i < ops.size ∧ listed.getD i true = false) := by
        intro r
        induction r with
        | zero => intro i h; omega
        | succ r ihr =>
          rintro i hlt ⟨h1, h2⟩
          have hready : i ∈ Region.ready m ops listed := by
            unfold Region.ready
            refine List.mem_filter.2 ⟨List.mem_range.2 h1, ?_⟩
            obtain ⟨o, ho⟩ : ∃ o, ops[i]? = some o := ⟨_, Array.getElem?_eq_getElem h1⟩
            simp only [h2, Bool.not_false, Bool.true_and, ho, Option.map_some, Option.getD_some]
            rw [Array.all_eq_true']
            intro e he
            cases hb : Region.binds m e with
            | false => rfl
            | true =>
              simp only [Bool.not_true, Bool.false_or]
              obtain ⟨d, hd⟩ : ∃ d, (eds m ops)[i]? = some d := by
                refine ⟨bnds m o, ?_⟩
                simp [eds, ho]
              have hmem : e.on ∈ d := by
                have := (eds_mem (m := m) (ops := ops) (i := i) (j := e.on)).2 ⟨o, ho, e, by simpa using he, hb, rfl⟩
                rw [List.getD_eq_getElem?_getD, hd] at this
                exact this
              have hr := okR_out hrk i d hd e.on hmem
              rw [Nat.zero_add] at hr
              cases hl : listed.getD e.on false with
              | true => rfl
              | false =>
                exact absurd ⟨hr.1, by
                  rw [Array.getD_eq_getD_getElem?] at hl ⊢
                  rw [Array.getElem?_eq_getElem (by omega)] at hl ⊢
                  exact hl⟩ (ihr e.on (by omega))
          rw [hnil] at hready
          cases hready
      exact key (rk i + 1) i (by omega)
    | some i =>
      simp only []
      rw [linearise_go_acc, List.reverse_singleton, List.singleton_append]
      have hrd := List.mem_of_getElem? hi
      unfold Region.ready at hrd
      obtain ⟨hlt, hr⟩ := List.mem_filter.1 hrd
      have hlt := List.mem_range.1 hlt
      simp only [Bool.and_eq_true, Bool.not_eq_true'] at hr
      have hset : ∀ j d, (listed.setIfInBounds i true).getD j d = if j = i then true else listed.getD j d := by
        intro j d
        simp only [Array.getD_eq_getD_getElem?, Array.getElem?_setIfInBounds]
        by_cases hj : j = i
        · subst hj; simp [hs, hlt]
        · have : ¬ i = j := fun h => hj h.symm
          simp [hj, this]
      obtain ⟨h1, h2, h3⟩ := ih (t / (Region.ready m ops listed).length) (listed.setIfInBounds i true) (by simp [hs]) (by
        have hsub : ((List.range ops.size).filter fun j => !(listed.setIfInBounds i true).getD j true) = ((List.range ops.size).filter fun j => !listed.getD j true).filter fun j => !(j == i) := by
          rw [List.filter_filter]
          refine List.filter_congr fun j _ => ?_
          rw [hset]
          by_cases hj : j = i
          · simp [hj]
          · simp [hj]
        rw [hsub]
        have hin : i ∈ ((List.range ops.size).filter fun j => !listed.getD j true) := List.mem_filter.2 ⟨List.mem_range.2 hlt, by simp [hr.1]⟩
        have hlt2 : (((List.range ops.size).filter fun j => !listed.getD j true).filter fun j => !(j == i)).length < ((List.range ops.size).filter fun j => !listed.getD j true).length := by
          rw [← List.countP_eq_length_filter]
          refine Nat.lt_of_le_of_ne List.countP_le_length fun h => ?_
          have := List.countP_eq_length.1 h i hin
          simp at this
        omega)
      refine ⟨List.nodup_cons.2 ⟨fun h => ?_, h1⟩, fun j => ?_, fun a j b hab => ?_⟩
      · have := ((h2 i).1 h).2
        rw [hset] at this
        simp at this
      · rw [List.mem_cons, h2 j, hset]
        by_cases hj : j = i
        · subst hj; simp [hlt, hr.1]
        · simp [hj]
      · intro x hx
        cases a with
        | nil =>
          simp only [List.nil_append, List.cons.injEq] at hab
          obtain ⟨rfl, _⟩ := hab
          left
          obtain ⟨o, ho, e, he, hb, rfl⟩ := eds_mem.1 hx
          have := hr.2
          simp only [ho, Option.map_some, Option.getD_some] at this
          rw [Array.all_eq_true'] at this
          have := this e (by simpa using he)
          simpa [hb] using this
        | cons y a =>
          simp only [List.cons_append, List.cons.injEq] at hab
          obtain ⟨rfl, hab⟩ := hab
          rcases h3 a j b hab x hx with h | h
          · rw [hset] at h
            by_cases hj : x = i
            · right; rw [hj]; simp
            · rw [if_neg hj] at h; exact .inl h
          · exact .inr (by simp [h])
theorem lin_ext {m : Region.Mode} {ops : Array Oper} {rk : Nat → Nat} (hrk : okR ops.size rk 0 (eds m ops) = true) (t : Nat) : Ext ops.size (eds m ops) (Region.linearise m ops t) := by
  obtain ⟨h1, h2, h3⟩ := go_ext m ops rk hrk ops.size t (Array.replicate ops.size false) (by simp) (by
    refine Nat.le_trans (List.length_filter_le _ _) (by simp))
  refine ⟨h1, fun i => ?_, fun a i b h j hj => ?_⟩
  · refine (h2 i).trans ⟨fun h => h.1, fun h => ⟨h, ?_⟩⟩
    simp [Array.getD_eq_getD_getElem?, h]
  · rcases h3 a i b h j hj with h | h
    · simp [Array.getD_eq_getD_getElem?, Array.getElem?_replicate] at h
      split at h <;> simp at h
    · exact h
def rkOf (rs : List Nat) (i : Nat) : Nat := rs.getD i 0
def okA (ops : Array Oper) (rs : List Nat) : Bool := okR ops.size id 0 (eds .any ops) && okR ops.size id 0 (eds .text ops) && okR ops.size (rkOf rs) 0 (eds .gc ops)
theorem binds_any {m : Region.Mode} {e : Edge} (h : Region.binds .any e = true) : Region.binds m e = true := by
  unfold Region.binds at *
  split at h
  · cases h
  · cases h
  · rfl
theorem sched_ext {ops : Array Oper} {rs : List Nat} (h : okA ops rs = true) (mixed : Bool) (t : Nat) : Ext ops.size (eds .any ops) (Region.schedule mixed ops t) := by
  simp only [okA, Bool.and_eq_true] at h
  obtain ⟨⟨h1, h2⟩, h3⟩ := h
  have weak : ∀ m l, Ext ops.size (eds m ops) l → Ext ops.size (eds .any ops) l := fun m l hl => ⟨hl.nd, hl.all, fun a i b hab j hj => hl.dep a i b hab j (by
    obtain ⟨o, ho, e, he, hb, he2⟩ := eds_mem.1 hj
    exact eds_mem.2 ⟨o, ho, e, he, binds_any hb, he2⟩)⟩
  unfold Region.schedule
  split
  · exact lin_ext h1 t
  · split
    · exact weak _ _ (lin_ext h2 _)
    · exact weak _ _ (lin_ext h3 _)
end Go.Proofs.Ytcagjdngannneaa.V
