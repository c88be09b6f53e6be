
import Derived.Test.YtcagjdngannneaaVc
set_option linter.unusedVariables false
set_option linter.unusedSimpArgs false
namespace Go.Proofs.Ytcagjdngannneaa.V
open Go

structure St where
  w : World
  g : Nat → Nat
def memb : List Nat → Nat → Bool
  | [], _ => false
  | c :: C, n => Nat.beq c n || memb C n
theorem memb_iff {C : List Nat} {n : Nat} : memb C n = true ↔ n ∈ C := by
  induction C with
  | nil => simp [memb]
  | cons c C ih =>
    rw [memb, Bool.or_eq_true, ih, List.mem_cons]
    constructor
    · rintro (h | h)
      · exact .inl (Nat.eq_of_beq_eq_true h).symm
      · exact .inr h
    · rintro (h | h)
      · exact .inl (by rw [h]; exact Nat.beq_refl c)
      · exact .inr h
def dj : List Nat → List Nat → Bool
  | [], _ => true
  | c :: C, S => !memb S c && dj C S
theorem dj_out {C S : List Nat} (h : dj C S = true) {n : Nat} (hn : memb C n = true) : memb S n = false := by
  induction C with
  | nil => cases hn
  | cons c C ih =>
    simp only [dj, Bool.and_eq_true, Bool.not_eq_true'] at h
    simp only [memb, Bool.or_eq_true] at hn
    rcases hn with hn | hn
    · have := Nat.eq_of_beq_eq_true hn
      subst this; exact h.1
    · exact ih h.2 hn
def sub : List Nat → List Nat → Bool
  | [], _ => true
  | c :: C, D => memb D c && sub C D
theorem sub_out {C D : List Nat} (h : sub C D = true) {n : Nat} (hn : memb C n = true) : memb D n = true := by
  induction C with
  | nil => cases hn
  | cons c C ih =>
    simp only [sub, Bool.and_eq_true] at h
    simp only [memb, Bool.or_eq_true] at hn
    rcases hn with hn | hn
    · have := Nat.eq_of_beq_eq_true hn
      subst this; exact h.1
    · exact ih h.2 hn
theorem memb_append {S S' : List Nat} {n : Nat} (h : memb (S ++ S') n = false) : memb S n = false ∧ memb S' n = false := by
  induction S with
  | nil => exact ⟨rfl, h⟩
  | cons c S ih =>
    simp only [List.cons_append, memb, Bool.or_eq_false_iff] at h ⊢
    exact ⟨⟨h.1, (ih h.2).1⟩, (ih h.2).2⟩

structure Stp (S : List Nat) (s s' : St) : Prop where
  os : s'.w.os = s.w.os
  tape : s'.w.tape = s.w.tape
  output : s'.w.output = s.w.output
  size : s.w.heap.size ≤ s'.w.heap.size
  low : ∀ b, b < s.w.heap.size → s.g b < 40 → s'.g b = s.g b
  same : ∀ b, b < s.w.heap.size → memb S (s.g b) = false → s'.g b = s.g b ∧ s'.w.heap[b]? = s.w.heap[b]?
theorem Stp.refl (s : St) : Stp [] s s := ⟨rfl, rfl, rfl, Nat.le_refl _, fun _ _ _ => rfl, fun _ _ _ => ⟨rfl, rfl⟩⟩
def RdF {α : Type} (K : Kd α) (s : St) (cs : List Value) (x : α) (C : List Nat) : Prop := K.rd s.w cs x (fun b => memb C (s.g b) = true)
def OwF {α : Type} (K : Kd α) (s : St) (cs : List Value) (x : α) (c : Nat) : Prop := ∃ os, K.ow s.w cs x os ∧ os.Nodup ∧ ∀ b ∈ os, s.g b = c
def RwF {α : Type} (e : TypeId) (K : Kd α) (s : St) (v : Value) (xs : List α) (c : Nat) (C : List Nat) : Prop :=
  ∃ cells os, RowAt s.w e K.n v xs.length cells os ∧ (∀ b ∈ os, s.g b = c) ∧ ElsR K s.w (fun b => memb C (s.g b) = true) xs cells
def BlF (s : St) (b : Nat) (t : TypeId) (cs : List Value) (c : Nat) : Prop := s.w.heap[b]? = some (.cells cs.toArray t (0, 0)) ∧ s.g b = c
section
variable {α : Type} {K : Kd α} {s s' : St} {S C : List Nat} {c : Nat}
theorem Stp.agr (p : Stp S s s') (d : dj C S = true) : Agr s.w s'.w (fun b => b < s.w.heap.size ∧ memb C (s.g b) = true) := fun b hb hl => (p.same b hl (dj_out d hb.2)).2
theorem Stp.col (p : Stp S s s') (d : dj C S = true) {b : Nat} (hb : b < s.w.heap.size ∧ memb C (s.g b) = true) : memb C (s'.g b) = true := by rw [(p.same b hb.1 (dj_out d hb.2)).1]; exact hb.2
theorem RdF.st {cs : List Value} {x : α} (h : RdF K s cs x C) (p : Stp S s s') (d : dj C S = true) : RdF K s' cs x C :=
  K.rd_mono (K.rd_frame (K.rd_mono h fun b hb hl => ⟨hl, hb⟩) (p.agr d)) fun b hb _ => p.col d hb
theorem OwF.st {cs : List Value} {x : α} (h : OwF K s cs x c) (p : Stp S s s') (d : memb S c = false) : OwF K s' cs x c := by
  obtain ⟨os, ho, hn, hc⟩ := h
  refine ⟨os, K.ow_frame ho fun b hb hl => (p.same b hl (by rw [hc b hb]; exact d)).2, hn, fun b hb => ?_⟩
  rw [(p.same b (K.ow_lt ho b hb) (by rw [hc b hb]; exact d)).1, hc b hb]
theorem RwF.st {e : TypeId} {v : Value} {xs : List α} (h : RwF e K s v xs c C) (p : Stp S s s') (d : memb S c = false) (d' : dj C S = true) : RwF e K s' v xs c C := by
  obtain ⟨cells, os, hr, hc, he⟩ := h
  refine ⟨cells, os, hr.frame fun b hb hl => (p.same b hl (by rw [hc b hb]; exact d)).2, fun b hb => ?_, ?_⟩
  · rw [(p.same b (hr.lt b hb) (by rw [hc b hb]; exact d)).1, hc b hb]
  · exact ((he.mono fun b hb hl => ⟨hl, hb⟩).frame (p.agr d')).mono fun b hb _ => p.col d' hb
theorem BlF.st {b : Nat} {t : TypeId} {cs : List Value} (h : BlF s b t cs c) (p : Stp S s s') (d : memb S c = false) : BlF s' b t cs c := by
  have hl : b < s.w.heap.size := (Array.getElem?_eq_some_iff.1 h.1).1
  have := p.same b hl (by rw [h.2]; exact d)
  exact ⟨by rw [this.2]; exact h.1, by rw [this.1]; exact h.2⟩
theorem RdF.sub {cs : List Value} {x : α} (h : RdF K s cs x C) {D : List Nat} (d : sub C D = true) : RdF K s cs x D := K.rd_mono h fun b hb _ => sub_out d hb
theorem OwF.rd {cs : List Value} {x : α} (h : OwF K s cs x c) : RdF K s cs x [c] := by
  obtain ⟨os, ho, hn, hc⟩ := h
  exact K.rd_mono (K.ow_rd ho) fun b hb _ => by rw [hc b hb]; simp [memb]
theorem RwF.rd {e : TypeId} {v : Value} {xs : List α} (h : RwF e K s v xs c C) : RdF (Kd.sl e K) s [v] xs (c :: C) := by
  obtain ⟨cells, os, hr, hc, he⟩ := h
  obtain ⟨A, cap, rfl, hcap, hcell⟩ := hr.cells
  refine ⟨_, rfl, A, cap, cells, rfl, hcap, he.mono fun b hb _ => by simp only [memb, hb, Bool.or_true], fun hne => ?_⟩
  obtain ⟨g, rfl, ho, hcl⟩ := hcell hne
  exact ⟨_, rfl, by simp [memb, hc g (by simp [ho])], hcl⟩
theorem Stp.trans {S' : List Nat} {s'' : St} (p : Stp S s s') (q : Stp S' s' s'') : Stp (S ++ S') s s'' := by
  refine ⟨q.os.trans p.os, q.tape.trans p.tape, q.output.trans p.output, Nat.le_trans p.size q.size, fun b hb hl => ?_, fun b hb hm => ?_⟩
  · have h1 := p.low b hb hl
    rw [q.low b (Nat.lt_of_lt_of_le hb p.size) (by rw [h1]; exact hl), h1]
  · have ⟨h1, h2⟩ := memb_append hm
    have a := p.same b hb h1
    have b' := q.same b (Nat.lt_of_lt_of_le hb p.size) (by rw [a.1]; exact h2)
    exact ⟨b'.1.trans a.1, b'.2.trans a.2⟩
end


structure Ky (M : List Nat) (w w' : World) : Prop where
  os : w'.os = w.os
  tape : w'.tape = w.tape
  output : w'.output = w.output
  size : w.heap.size ≤ w'.heap.size
  same : ∀ b, b < w.heap.size → b ∉ M → w'.heap[b]? = w.heap[b]?
theorem Ky.refl (w : World) : Ky [] w w := ⟨rfl, rfl, rfl, Nat.le_refl _, fun _ _ _ => rfl⟩
theorem Ky.below {w w' : World} (h : Ky [] w w') : Go.RowKit.Below w.heap.size w w' := ⟨h.os, h.tape, h.output, h.size, fun b hb => h.same b hb (by simp)⟩
def FO {α : Type} (K : Kd α) (w w' : World) (cs : List Value) (x : α) : Prop := ∃ os, K.ow w' cs x os ∧ os.Nodup ∧ ∀ b ∈ os, w.heap.size ≤ b
def FR {α : Type} (K : Kd α) (F : Nat → Prop) (w w' : World) (cs : List Value) (x : α) : Prop := K.rd w' cs x (fun b => w.heap.size ≤ b ∨ F b)
def FW {α : Type} (K : Kd α) (os : List Nat) (w w' : World) (cs : List Value) (x : α) : Prop := ∃ os', K.ow w' cs x os' ∧ os'.Nodup ∧ ∀ b ∈ os', b ∈ os ∨ w.heap.size ≤ b


structure Kp (s0 s : St) : Prop where
  os : s.w.os = s0.w.os
  tape : s.w.tape = s0.w.tape
  output : s.w.output = s0.w.output
  size : s0.w.heap.size ≤ s.w.heap.size
  col : ∀ b, b < s0.w.heap.size → s0.g b < 40 → s.g b = s0.g b
  same : ∀ b, b < s0.w.heap.size → s0.g b < 2 → s.w.heap[b]? = s0.w.heap[b]?
theorem Kp.st {s0 s s' : St} {S : List Nat} (h : Kp s0 s) (p : Stp S s s') (d : dj [0, 1] S = true) : Kp s0 s' := by
  refine ⟨p.os.trans h.os, p.tape.trans h.tape, p.output.trans h.output, Nat.le_trans h.size p.size, fun b hb hlt => ?_, fun b hb h2 => ?_⟩
  · have := h.col b hb hlt
    rw [p.low b (Nat.lt_of_lt_of_le hb h.size) (by rw [this]; exact hlt)]
    exact this
  · have hc := h.col b hb (by omega)
    have : memb [0, 1] (s.g b) = true := by rw [hc, memb_iff]; simp; omega
    rw [(p.same b (Nat.lt_of_lt_of_le hb h.size) (dj_out d this)).2]
    exact h.same b hb h2
theorem Kp.refl (s : St) (h : ∀ b, b < s.w.heap.size → s.g b < 40) : Kp s s := ⟨rfl, rfl, rfl, Nat.le_refl _, fun b hb _ => rfl, fun _ _ _ => rfl⟩
noncomputable def st0 (w : World) (F : Nat → Prop) : St := ⟨w, fun b => open Classical in if F b then 0 else 1⟩
theorem st0_kp (w : World) (F : Nat → Prop) : Kp (st0 w F) (st0 w F) := Kp.refl _ fun b _ => by unfold st0; dsimp only; split <;> omega
theorem RdF.kp {α : Type} {K : Kd α} {s0 s : St} {cs : List Value} {x : α} (h : RdF K s0 cs x [0]) (p : Kp s0 s) : RdF K s cs x [0] := by
  refine K.rd_mono (K.rd_frame (F := fun b => b < s0.w.heap.size ∧ memb [0] (s0.g b) = true) (K.rd_mono h fun b hb hl => ⟨hl, hb⟩) fun b hb _ => p.same b hb.1 ?_) fun b hb _ => ?_
  · have := memb_iff.1 hb.2; simp at this; omega
  · have h0 := memb_iff.1 hb.2; simp at h0
    rw [p.col b hb.1 (by omega)]; exact hb.2
theorem Kp.ky {w : World} {F : Nat → Prop} {s : St} (p : Kp (st0 w F) s) : Ky [] w s.w :=
  ⟨p.os, p.tape, p.output, p.size, fun b hb _ => p.same b hb (by unfold st0; dsimp only; split <;> omega)⟩
theorem OwF.fo {α : Type} {K : Kd α} {s0 s : St} {cs : List Value} {x : α} {c : Nat} (h : OwF K s cs x c) (p : Kp s0 s) (hc : Nat.ble 40 c = true) (hz : ∀ b, s0.g b < 40) : FO K s0.w s.w cs x := by
  obtain ⟨os, ho, hn, hcol⟩ := h
  refine ⟨os, ho, hn, fun b hb => ?_⟩
  by_cases hl : b < s0.w.heap.size
  · have := p.col b hl (hz b)
    have h3 := hz b
    have h2 := hcol b hb
    have := Nat.le_of_ble_eq_true hc
    omega
  · omega
def okC : List Nat → Bool
  | [] => true
  | c :: C => (Nat.beq c 0 || Nat.ble 40 c) && okC C
theorem okC_out {C : List Nat} (h : okC C = true) {n : Nat} (hn : memb C n = true) : n = 0 ∨ 40 ≤ n := by
  induction C with
  | nil => cases hn
  | cons c C ih =>
    simp only [okC, Bool.and_eq_true, Bool.or_eq_true] at h
    simp only [memb, Bool.or_eq_true] at hn
    rcases hn with hn | hn
    · have := Nat.eq_of_beq_eq_true hn
      subst this
      rcases h.1 with h | h
      · exact .inl (Nat.eq_of_beq_eq_true h)
      · exact .inr (Nat.le_of_ble_eq_true h)
    · exact ih h.2 hn

structure Nw (s s' : St) (c : Nat) : Prop where
  old : ∀ b, b < s.w.heap.size → s'.g b = s.g b
  new : ∀ b, s.w.heap.size ≤ b → s'.g b = c
theorem nwx (s : St) (w' : World) (c : Nat) (h : Ky [] s.w w') : ∃ s' : St, s'.w = w' ∧ Stp [] s s' ∧ Nw s s' c := by
  refine ⟨⟨w', fun b => if b < s.w.heap.size then s.g b else c⟩, rfl, ⟨h.os, h.tape, h.output, h.size, fun b hb _ => ?_, fun b hb _ => ⟨?_, h.same b hb (by simp)⟩⟩, ⟨fun b hb => ?_, fun b hb => ?_⟩⟩
  · simp [hb]
  · simp [hb]
  · simp [hb]
  · have : ¬ b < s.w.heap.size := by omega
    simp [this]
theorem FO.c {α : Type} {K : Kd α} {s s' : St} {cs : List Value} {x : α} {c : Nat} (h : FO K s.w s'.w cs x) (n : Nw s s' c) : OwF K s' cs x c := by
  obtain ⟨os, ho, hn, hf⟩ := h
  exact ⟨os, ho, hn, fun b hb => n.new b (hf b hb)⟩
theorem FR.c {α : Type} {K : Kd α} {s s' : St} {cs : List Value} {x : α} {c : Nat} {C : List Nat} (h : FR K (fun b => memb C (s.g b) = true) s.w s'.w cs x) (n : Nw s s' c) : RdF K s' cs x (c :: C) := by
  refine K.rd_mono h fun b hb _ => ?_
  by_cases hl : b < s.w.heap.size
  · rcases hb with hb | hb
    · omega
    · rw [n.old b hl]; simp only [memb, hb, Bool.or_true]
  · rw [n.new b (by omega)]; simp [memb]
theorem tr2 {S0 S1 : List Nat} {s0 s1 s2 : St} (p0 : Stp S0 s0 s1) (p1 : Stp S1 s1 s2) : Stp (S0 ++ S1) s0 s2 := (p0.trans p1)
theorem tr3 {S0 S1 S2 : List Nat} {s0 s1 s2 s3 : St} (p0 : Stp S0 s0 s1) (p1 : Stp S1 s1 s2) (p2 : Stp S2 s2 s3) : Stp ((S0 ++ S1) ++ S2) s0 s3 := ((p0.trans p1).trans p2)
theorem tr4 {S0 S1 S2 S3 : List Nat} {s0 s1 s2 s3 s4 : St} (p0 : Stp S0 s0 s1) (p1 : Stp S1 s1 s2) (p2 : Stp S2 s2 s3) (p3 : Stp S3 s3 s4) : Stp (((S0 ++ S1) ++ S2) ++ S3) s0 s4 := (((p0.trans p1).trans p2).trans p3)
theorem tr5 {S0 S1 S2 S3 S4 : List Nat} {s0 s1 s2 s3 s4 s5 : St} (p0 : Stp S0 s0 s1) (p1 : Stp S1 s1 s2) (p2 : Stp S2 s2 s3) (p3 : Stp S3 s3 s4) (p4 : Stp S4 s4 s5) : Stp ((((S0 ++ S1) ++ S2) ++ S3) ++ S4) s0 s5 := ((((p0.trans p1).trans p2).trans p3).trans p4)
theorem tr6 {S0 S1 S2 S3 S4 S5 : List Nat} {s0 s1 s2 s3 s4 s5 s6 : St} (p0 : Stp S0 s0 s1) (p1 : Stp S1 s1 s2) (p2 : Stp S2 s2 s3) (p3 : Stp S3 s3 s4) (p4 : Stp S4 s4 s5) (p5 : Stp S5 s5 s6) : Stp (((((S0 ++ S1) ++ S2) ++ S3) ++ S4) ++ S5) s0 s6 := (((((p0.trans p1).trans p2).trans p3).trans p4).trans p5)
theorem tr7 {S0 S1 S2 S3 S4 S5 S6 : List Nat} {s0 s1 s2 s3 s4 s5 s6 s7 : St} (p0 : Stp S0 s0 s1) (p1 : Stp S1 s1 s2) (p2 : Stp S2 s2 s3) (p3 : Stp S3 s3 s4) (p4 : Stp S4 s4 s5) (p5 : Stp S5 s5 s6) (p6 : Stp S6 s6 s7) : Stp ((((((S0 ++ S1) ++ S2) ++ S3) ++ S4) ++ S5) ++ S6) s0 s7 := ((((((p0.trans p1).trans p2).trans p3).trans p4).trans p5).trans p6)
theorem tr8 {S0 S1 S2 S3 S4 S5 S6 S7 : List Nat} {s0 s1 s2 s3 s4 s5 s6 s7 s8 : St} (p0 : Stp S0 s0 s1) (p1 : Stp S1 s1 s2) (p2 : Stp S2 s2 s3) (p3 : Stp S3 s3 s4) (p4 : Stp S4 s4 s5) (p5 : Stp S5 s5 s6) (p6 : Stp S6 s6 s7) (p7 : Stp S7 s7 s8) : Stp (((((((S0 ++ S1) ++ S2) ++ S3) ++ S4) ++ S5) ++ S6) ++ S7) s0 s8 := (((((((p0.trans p1).trans p2).trans p3).trans p4).trans p5).trans p6).trans p7)
theorem tr9 {S0 S1 S2 S3 S4 S5 S6 S7 S8 : List Nat} {s0 s1 s2 s3 s4 s5 s6 s7 s8 s9 : St} (p0 : Stp S0 s0 s1) (p1 : Stp S1 s1 s2) (p2 : Stp S2 s2 s3) (p3 : Stp S3 s3 s4) (p4 : Stp S4 s4 s5) (p5 : Stp S5 s5 s6) (p6 : Stp S6 s6 s7) (p7 : Stp S7 s7 s8) (p8 : Stp S8 s8 s9) : Stp ((((((((S0 ++ S1) ++ S2) ++ S3) ++ S4) ++ S5) ++ S6) ++ S7) ++ S8) s0 s9 := ((((((((p0.trans p1).trans p2).trans p3).trans p4).trans p5).trans p6).trans p7).trans p8)
theorem tr10 {S0 S1 S2 S3 S4 S5 S6 S7 S8 S9 : List Nat} {s0 s1 s2 s3 s4 s5 s6 s7 s8 s9 s10 : St} (p0 : Stp S0 s0 s1) (p1 : Stp S1 s1 s2) (p2 : Stp S2 s2 s3) (p3 : Stp S3 s3 s4) (p4 : Stp S4 s4 s5) (p5 : Stp S5 s5 s6) (p6 : Stp S6 s6 s7) (p7 : Stp S7 s7 s8) (p8 : Stp S8 s8 s9) (p9 : Stp S9 s9 s10) : Stp (((((((((S0 ++ S1) ++ S2) ++ S3) ++ S4) ++ S5) ++ S6) ++ S7) ++ S8) ++ S9) s0 s10 := (((((((((p0.trans p1).trans p2).trans p3).trans p4).trans p5).trans p6).trans p7).trans p8).trans p9)
theorem tr11 {S0 S1 S2 S3 S4 S5 S6 S7 S8 S9 S10 : List Nat} {s0 s1 s2 s3 s4 s5 s6 s7 s8 s9 s10 s11 : St} (p0 : Stp S0 s0 s1) (p1 : Stp S1 s1 s2) (p2 : Stp S2 s2 s3) (p3 : Stp S3 s3 s4) (p4 : Stp S4 s4 s5) (p5 : Stp S5 s5 s6) (p6 : Stp S6 s6 s7) (p7 : Stp S7 s7 s8) (p8 : Stp S8 s8 s9) (p9 : Stp S9 s9 s10) (p10 : Stp S10 s10 s11) : Stp ((((((((((S0 ++ S1) ++ S2) ++ S3) ++ S4) ++ S5) ++ S6) ++ S7) ++ S8) ++ S9) ++ S10) s0 s11 := ((((((((((p0.trans p1).trans p2).trans p3).trans p4).trans p5).trans p6).trans p7).trans p8).trans p9).trans p10)
end Go.Proofs.Ytcagjdngannneaa.V
