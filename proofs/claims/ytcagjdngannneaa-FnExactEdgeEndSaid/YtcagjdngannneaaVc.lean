
import Derived.Test.YtcagjdngannneaaVb
import Derived.Test.YtcagjdngannneaaV0
import Derived.OwnWalk
set_option linter.unusedVariables false
set_option linter.unusedSimpArgs false
namespace Go.Proofs.Ytcagjdngannneaa.V
open Go

def Agr (w w' : World) (F : Nat → Prop) : Prop := ∀ b, F b → b < w.heap.size → w'.heap[b]? = w.heap[b]?
theorem Agr.cell {w w' : World} {F : Nat → Prop} (h : Agr w w' F) {a : Addr} {v : Value} (hF : F a.block) (hc : w.cell? a = some v) : w'.cell? a = some v := by
  rw [World.cell?_of_block (h a.block hF (World.block_lt_of_cell? w a hc))]
  exact hc

structure Kd (α : Type) where
  n : Nat
  rd : World → List Value → α → (Nat → Prop) → Prop
  ow : World → List Value → α → List Nat → Prop
  rd_len : ∀ {w cs x F}, rd w cs x F → cs.length = n
  rd_one : ∀ {w cs x F}, rd w cs x F → ∀ v ∈ cs, v.oneCell' = true
  rd_frame : ∀ {w w' cs x F}, rd w cs x F → Agr w w' F → rd w' cs x F
  rd_mono : ∀ {w cs x F F'}, rd w cs x F → (∀ b, F b → b < w.heap.size → F' b) → rd w cs x F'
  ow_frame : ∀ {w w' cs x os}, ow w cs x os → Agr w w' (· ∈ os) → ow w' cs x os
  ow_lt : ∀ {w cs x os}, ow w cs x os → ∀ b ∈ os, b < w.heap.size
  ow_rd : ∀ {w cs x os}, ow w cs x os → rd w cs x (· ∈ os)

def Kd.flat {α : Type} (val : α → Value) (h : ∀ x, (val x).oneCell' = true) : Kd α where
  n := 1
  rd := fun _ cs x _ => cs = [val x]
  ow := fun _ cs x os => cs = [val x] ∧ os = []
  rd_len := fun h => by simp [h]
  rd_one := fun {w cs x F} hr v hv => by subst hr; simp at hv; subst hv; exact h x
  rd_frame := fun h _ => h
  rd_mono := fun h _ => h
  ow_frame := fun h _ => h
  ow_lt := fun h b hb => by rw [h.2] at hb; cases hb
  ow_rd := fun h => h.1
def Kd.int (k : IntKind) : Kd Int := Kd.flat (fun x => .int k x) (fun _ => rfl)
def Kd.bool : Kd Bool := Kd.flat (fun x => .bool x) (fun _ => rfl)
def FL (v : Value) (x : Nat) : Prop := ∃ b, v = .float .f64 b ∧ cn b = x
theorem FL.one {v : Value} {x : Nat} (h : FL v x) : v.oneCell' = true := by obtain ⟨b, rfl, _⟩ := h; rfl
theorem fl_c {b x : Nat} (h : cn b = x) : FL (.float .f64 b) x := ⟨b, rfl, h⟩
def Kd.flt : Kd Nat where
  n := 1
  rd := fun _ cs x _ => ∃ v, cs = [v] ∧ FL v x
  ow := fun _ cs x os => (∃ v, cs = [v] ∧ FL v x) ∧ os = []
  rd_len := fun ⟨v, h, _⟩ => by simp [h]
  rd_one := fun {w cs x F} ⟨v, e, hr⟩ u hu => by subst e; simp at hu; subst hu; exact hr.one
  rd_frame := fun h _ => h
  rd_mono := fun h _ => h
  ow_frame := fun h _ => h
  ow_lt := fun h b hb => by rw [h.2] at hb; cases hb
  ow_rd := fun h => h.1
theorem fl_rd {v : Value} {x : Nat} (h : FL v x) {w : World} {F : Nat → Prop} : Kd.flt.rd w [v] x F := ⟨v, rfl, h⟩
theorem fl_of {v : Value} {x : Nat} {w : World} {F : Nat → Prop} (h : Kd.flt.rd w [v] x F) : FL v x := by
  obtain ⟨u, e, h⟩ := h
  obtain rfl : v = u := by simpa using e
  exact h
def Kd.str : Kd ByteArray := Kd.flat (fun x => .string x) (fun _ => rfl)

def Kd.pair {α β : Type} (A : Kd α) (B : Kd β) : Kd (α × β) where
  n := A.n + B.n
  rd := fun w cs x F => ∃ c1 c2, cs = c1 ++ c2 ∧ A.rd w c1 x.1 F ∧ B.rd w c2 x.2 F
  ow := fun w cs x os => ∃ c1 c2 o1 o2, cs = c1 ++ c2 ∧ os = o1 ++ o2 ∧ A.ow w c1 x.1 o1 ∧ B.ow w c2 x.2 o2
  rd_len := fun ⟨c1, c2, e, h1, h2⟩ => by subst e; simp [A.rd_len h1, B.rd_len h2]
  rd_one := fun ⟨c1, c2, e, h1, h2⟩ v hv => by
    subst e
    rcases List.mem_append.1 hv with hv | hv
    · exact A.rd_one h1 v hv
    · exact B.rd_one h2 v hv
  rd_frame := fun ⟨c1, c2, e, h1, h2⟩ h => ⟨c1, c2, e, A.rd_frame h1 h, B.rd_frame h2 h⟩
  rd_mono := fun ⟨c1, c2, e, h1, h2⟩ h => ⟨c1, c2, e, A.rd_mono h1 h, B.rd_mono h2 h⟩
  ow_frame := fun ⟨c1, c2, o1, o2, e, e', h1, h2⟩ h => ⟨c1, c2, o1, o2, e, e', A.ow_frame h1 fun b hb => h b (by subst e'; exact List.mem_append_left _ hb), B.ow_frame h2 fun b hb => h b (by subst e'; exact List.mem_append_right _ hb)⟩
  ow_lt := fun ⟨c1, c2, o1, o2, e, e', h1, h2⟩ b hb => by
    subst e'
    rcases List.mem_append.1 hb with hb | hb
    · exact A.ow_lt h1 b hb
    · exact B.ow_lt h2 b hb
  ow_rd := fun ⟨c1, c2, o1, o2, e, e', h1, h2⟩ => ⟨c1, c2, e, A.rd_mono (A.ow_rd h1) fun b hb _ => by subst e'; exact List.mem_append_left _ hb, B.rd_mono (B.ow_rd h2) fun b hb _ => by subst e'; exact List.mem_append_right _ hb⟩

def Kd.iso {α β : Type} (A : Kd α) (g : β → α) : Kd β where
  n := A.n
  rd := fun w cs x F => A.rd w cs (g x) F
  ow := fun w cs x os => A.ow w cs (g x) os
  rd_len := A.rd_len
  rd_one := A.rd_one
  rd_frame := A.rd_frame
  rd_mono := A.rd_mono
  ow_frame := A.ow_frame
  ow_lt := A.ow_lt
  ow_rd := A.ow_rd

theorem dropA (c1 c2 : List Value) (n : Nat) : (c1 ++ c2).drop (c1.length + n) = c2.drop n := by
  rw [List.drop_append, List.drop_eq_nil_of_le (by omega)]; simp
theorem takeA (c1 c2 : List Value) (n : Nat) : (c1 ++ c2).take (c1.length + n) = c1 ++ c2.take n := by
  rw [List.take_append, List.take_of_length_le (by omega)]; simp

def ElsR {α : Type} (K : Kd α) (w : World) (F : Nat → Prop) : List α → List Value → Prop
  | [], cs => cs = []
  | x :: xs, cs => ∃ c1 c2, cs = c1 ++ c2 ∧ K.rd w c1 x F ∧ ElsR K w F xs c2
def ElsO {α : Type} (K : Kd α) (w : World) : List α → List Value → List Nat → Prop
  | [], cs, os => cs = [] ∧ os = []
  | x :: xs, cs, os => ∃ c1 c2 o1 o2, cs = c1 ++ c2 ∧ os = o1 ++ o2 ∧ K.ow w c1 x o1 ∧ ElsO K w xs c2 o2
section
variable {α : Type} {K : Kd α} {w w' : World} {F F' : Nat → Prop}
theorem ElsR.len : ∀ {xs : List α} {cs : List Value}, ElsR K w F xs cs → cs.length = xs.length * K.n
  | [], cs, h => by simp [ElsR] at h; simp [h]
  | x :: xs, cs, ⟨c1, c2, e, h1, h2⟩ => by subst e; simp [K.rd_len h1, ElsR.len h2, Nat.add_mul, Nat.add_comm]
theorem ElsR.one : ∀ {xs : List α} {cs : List Value}, ElsR K w F xs cs → ∀ v ∈ cs, v.oneCell' = true
  | [], cs, h, v, hv => by simp [ElsR] at h; subst h; cases hv
  | x :: xs, cs, ⟨c1, c2, e, h1, h2⟩, v, hv => by
    subst e
    rcases List.mem_append.1 hv with hv | hv
    · exact K.rd_one h1 v hv
    · exact ElsR.one h2 v hv
theorem ElsR.frame : ∀ {xs : List α} {cs : List Value}, ElsR K w F xs cs → Agr w w' F → ElsR K w' F xs cs
  | [], cs, h, _ => h
  | x :: xs, cs, ⟨c1, c2, e, h1, h2⟩, h => ⟨c1, c2, e, K.rd_frame h1 h, ElsR.frame h2 h⟩
theorem ElsR.mono : ∀ {xs : List α} {cs : List Value}, ElsR K w F xs cs → (∀ b, F b → b < w.heap.size → F' b) → ElsR K w F' xs cs
  | [], cs, h, _ => h
  | x :: xs, cs, ⟨c1, c2, e, h1, h2⟩, h => ⟨c1, c2, e, K.rd_mono h1 h, ElsR.mono h2 h⟩
theorem ElsR.append : ∀ {xs ys : List α} {cs ds : List Value}, ElsR K w F xs cs → ElsR K w F ys ds → ElsR K w F (xs ++ ys) (cs ++ ds)
  | [], ys, cs, ds, h, h' => by simp [ElsR] at h; subst h; exact h'
  | x :: xs, ys, cs, ds, ⟨c1, c2, e, h1, h2⟩, h' => ⟨c1, c2 ++ ds, by subst e; simp, h1, ElsR.append h2 h'⟩
theorem ElsR.at_ : ∀ {xs : List α} {cs : List Value}, ElsR K w F xs cs → ∀ i (hi : i < xs.length), K.rd w ((cs.drop (i * K.n)).take K.n) xs[i] F
  | x :: xs, cs, ⟨c1, c2, e, h1, h2⟩, 0, _ => by
    subst e
    have := K.rd_len h1
    simp [← this]; exact h1
  | x :: xs, cs, ⟨c1, c2, e, h1, h2⟩, i + 1, hi => by
    subst e
    have hl := K.rd_len h1
    have := ElsR.at_ h2 i (by simpa using hi)
    have e2 : (i + 1) * K.n = c1.length + i * K.n := by rw [hl, Nat.add_mul]; omega
    rw [e2, dropA]
    simpa using this
theorem ElsR.drop : ∀ {xs : List α} {cs : List Value}, ElsR K w F xs cs → ∀ i, ElsR K w F (xs.drop i) (cs.drop (i * K.n))
  | [], cs, h, i => by simp [ElsR] at h; subst h; simp [ElsR]
  | x :: xs, cs, h, 0 => by simpa using h
  | x :: xs, cs, ⟨c1, c2, e, h1, h2⟩, i + 1 => by
    subst e
    have hl := K.rd_len h1
    have := ElsR.drop h2 i
    have e2 : (i + 1) * K.n = c1.length + i * K.n := by rw [hl, Nat.add_mul]; omega
    rw [e2, dropA]
    simpa using this
theorem ElsR.take : ∀ {xs : List α} {cs : List Value}, ElsR K w F xs cs → ∀ i, ElsR K w F (xs.take i) (cs.take (i * K.n))
  | [], cs, h, i => by simp [ElsR] at h; subst h; simp [ElsR]
  | x :: xs, cs, h, 0 => by simp [ElsR]
  | x :: xs, cs, ⟨c1, c2, e, h1, h2⟩, i + 1 => by
    subst e
    have hl := K.rd_len h1
    have := ElsR.take h2 i
    have e2 : (i + 1) * K.n = c1.length + i * K.n := by rw [hl, Nat.add_mul]; omega
    rw [e2, takeA]
    exact ⟨c1, c2.take (i * K.n), rfl, h1, this⟩
theorem ElsO.len : ∀ {xs : List α} {cs : List Value} {os : List Nat}, ElsO K w xs cs os → cs.length = xs.length * K.n
  | [], cs, os, h => by simp [ElsO] at h; simp [h.1]
  | x :: xs, cs, os, ⟨c1, c2, o1, o2, e, e', h1, h2⟩ => by subst e; simp [K.rd_len (K.ow_rd h1), ElsO.len h2, Nat.add_mul, Nat.add_comm]
theorem ElsO.frame : ∀ {xs : List α} {cs : List Value} {os : List Nat}, ElsO K w xs cs os → Agr w w' (· ∈ os) → ElsO K w' xs cs os
  | [], cs, os, h, _ => h
  | x :: xs, cs, os, ⟨c1, c2, o1, o2, e, e', h1, h2⟩, h => ⟨c1, c2, o1, o2, e, e', K.ow_frame h1 fun b hb => h b (by subst e'; exact List.mem_append_left _ hb), ElsO.frame h2 fun b hb => h b (by subst e'; exact List.mem_append_right _ hb)⟩
theorem ElsO.lt : ∀ {xs : List α} {cs : List Value} {os : List Nat}, ElsO K w xs cs os → ∀ b ∈ os, b < w.heap.size
  | [], cs, os, h, b, hb => by rw [h.2] at hb; cases hb
  | x :: xs, cs, os, ⟨c1, c2, o1, o2, e, e', h1, h2⟩, b, hb => by
    subst e'
    rcases List.mem_append.1 hb with hb | hb
    · exact K.ow_lt h1 b hb
    · exact ElsO.lt h2 b hb
theorem ElsO.rd : ∀ {xs : List α} {cs : List Value} {os : List Nat}, ElsO K w xs cs os → ElsR K w (· ∈ os) xs cs
  | [], cs, os, h => h.1
  | x :: xs, cs, os, ⟨c1, c2, o1, o2, e, e', h1, h2⟩ => ⟨c1, c2, e, K.rd_mono (K.ow_rd h1) fun b hb _ => by subst e'; exact List.mem_append_left _ hb, ElsR.mono (ElsO.rd h2) fun b hb _ => by subst e'; exact List.mem_append_right _ hb⟩
theorem ElsO.append : ∀ {xs ys : List α} {cs ds : List Value} {os ps : List Nat}, ElsO K w xs cs os → ElsO K w ys ds ps → ElsO K w (xs ++ ys) (cs ++ ds) (os ++ ps)
  | [], ys, cs, ds, os, ps, h, h' => by simp [ElsO] at h; obtain ⟨rfl, rfl⟩ := h; exact h'
  | x :: xs, ys, cs, ds, os, ps, ⟨c1, c2, o1, o2, e, e', h1, h2⟩, h' => ⟨c1, c2 ++ ds, o1, o2 ++ ps, by subst e; simp, by subst e'; simp, h1, ElsO.append h2 h'⟩
theorem ElsO.at_ : ∀ {xs : List α} {cs : List Value} {os : List Nat}, ElsO K w xs cs os → ∀ i (hi : i < xs.length),
    ∃ o1 o2 o3, os = o1 ++ o2 ++ o3 ∧ K.ow w ((cs.drop (i * K.n)).take K.n) xs[i] o2 ∧
      ∀ (w' : World) (c' : List Value) (y : α) (o' : List Nat), K.ow w' c' y o' → Agr w w' (· ∈ o1 ++ o3) → ElsO K w' (xs.set i y) (cs.take (i * K.n) ++ c' ++ cs.drop ((i + 1) * K.n)) (o1 ++ o' ++ o3)
  | x :: xs, cs, os, ⟨c1, c2, o1, o2, e, e', h1, h2⟩, 0, _ => by
    subst e
    have hl := K.rd_len (K.ow_rd h1)
    refine ⟨[], o1, o2, by simp [e'], by simp [← hl]; exact h1, fun w' c' y o' hy ha => ?_⟩
    refine ⟨c', c2, o', o2, ?_, by simp, hy, ElsO.frame h2 fun b hb => ha b (by simp [hb])⟩
    simp [← hl]
  | x :: xs, cs, os, ⟨c1, c2, o1, o2, e, e', h1, h2⟩, i + 1, hi => by
    subst e
    have hl := K.rd_len (K.ow_rd h1)
    obtain ⟨p1, p2, p3, ep, hp, hset⟩ := ElsO.at_ h2 i (by simpa using hi)
    have e2 : (i + 1) * K.n = c1.length + i * K.n := by rw [hl, Nat.add_mul]; omega
    have e3 : (i + 1 + 1) * K.n = c1.length + (i + 1) * K.n := by rw [hl, Nat.add_mul (i + 1)]; omega
    refine ⟨o1 ++ p1, p2, p3, by rw [e', ep]; simp, ?_, fun w' c' y o' hy ha => ?_⟩
    · rw [e2, dropA]; simpa using hp
    · refine ⟨c1, c2.take (i * K.n) ++ c' ++ c2.drop ((i + 1) * K.n), o1, p1 ++ o' ++ p3, ?_, by simp, K.ow_frame h1 fun b hb => ha b (by simp [hb]), hset w' c' y o' hy fun b hb => ha b (by simp at hb ⊢; rcases hb with hb | hb <;> simp [hb])⟩
      rw [e3, dropA, show List.take ((i + 1) * K.n) (c1 ++ c2) = c1 ++ c2.take (i * K.n) by rw [e2, takeA]]
      simp
theorem ElsO.take : ∀ {xs : List α} {cs : List Value} {os : List Nat}, ElsO K w xs cs os → ∀ i, ∃ o1 o2, os = o1 ++ o2 ∧ ElsO K w (xs.take i) (cs.take (i * K.n)) o1 ∧ ElsO K w (xs.drop i) (cs.drop (i * K.n)) o2
  | [], cs, os, h, i => by obtain ⟨rfl, rfl⟩ := h; exact ⟨[], [], rfl, by simp [ElsO], by simp [ElsO]⟩
  | x :: xs, cs, os, h, 0 => ⟨[], os, rfl, by simp [ElsO], by simpa using h⟩
  | x :: xs, cs, os, ⟨c1, c2, o1, o2, e, e', h1, h2⟩, i + 1 => by
    subst e
    have hl := K.rd_len (K.ow_rd h1)
    obtain ⟨p1, p2, ep, ht, hd⟩ := ElsO.take h2 i
    have e2 : (i + 1) * K.n = c1.length + i * K.n := by rw [hl, Nat.add_mul]; omega
    refine ⟨o1 ++ p1, p2, by rw [e', ep]; simp, ⟨c1, c2.take (i * K.n), o1, p1, ?_, rfl, h1, ht⟩, ?_⟩
    · rw [e2, takeA]
    · rw [e2, dropA]; simpa using hd
end

def RowAt (w : World) (e : TypeId) (size : Nat) (v : Value) (n : Nat) (cells : List Value) (os : List Nat) : Prop :=
  cells.length = n * size ∧ ((v = .slice none 0 0 ∧ n = 0 ∧ os = []) ∨
   ∃ g cap cur, v = .slice (some ⟨g, 0, none⟩) n cap ∧ w.heap[g]? = some (.cells cur e (0, 0)) ∧ n ≤ cap ∧ cap ≤ maxLen ∧ cur.size = cap * size ∧ cur.toList.take (n * size) = cells ∧ os = [g])
theorem RowAt.frame {w w' : World} {e : TypeId} {size : Nat} {v : Value} {n : Nat} {cells : List Value} {os : List Nat} (h : RowAt w e size v n cells os) (ha : Agr w w' (· ∈ os)) : RowAt w' e size v n cells os := by
  refine ⟨h.1, ?_⟩
  rcases h.2 with h | ⟨g, cap, cur, e1, e2, e3, e4, e5, e6, e7⟩
  · exact .inl h
  · exact .inr ⟨g, cap, cur, e1, by rw [ha g (by simp [e7]) (Array.getElem?_eq_some_iff.1 e2).1]; exact e2, e3, e4, e5, e6, e7⟩
theorem RowAt.lt {w : World} {e : TypeId} {size : Nat} {v : Value} {n : Nat} {cells : List Value} {os : List Nat} (h : RowAt w e size v n cells os) : ∀ b ∈ os, b < w.heap.size := by
  intro b hb
  rcases h.2 with h | ⟨g, cap, cur, e1, e2, e3, e4, e5, e6, e7⟩
  · rw [h.2.2] at hb; cases hb
  · rw [e7] at hb; simp at hb; subst hb; exact (Array.getElem?_eq_some_iff.1 e2).1
theorem RowAt.owns {w : World} {e : TypeId} {size : Nat} {v : Value} {n : Nat} {cells : List Value} {os : List Nat} (h : RowAt w e size v n cells os) : w.ownsRow 0 e size v n cells := by
  refine ⟨h.1, ?_⟩
  rcases h.2 with h | ⟨g, cap, cur, e1, e2, e3, e4, e5, e6, e7⟩
  · exact .inl ⟨h.1, h.2.1⟩
  · exact .inr ⟨g, cap, cur, e1, Nat.zero_le _, e2, e3, e4, e5, e6⟩
def Value.blk : Value → List Nat
  | .slice (some a) _ _ => [a.block]
  | _ => []
theorem RowAt.of_owns {w : World} {b : Nat} {e : TypeId} {size : Nat} {v : Value} {n : Nat} {cells : List Value} (h : w.ownsRow b e size v n cells) : RowAt w e size v n cells (Value.blk v) := by
  refine ⟨h.1, ?_⟩
  rcases h.2 with ⟨h, h'⟩ | ⟨g, cap, cur, e1, e2, e3, e4, e5, e6, e7⟩
  · exact .inl ⟨h, h', by rw [h]; rfl⟩
  · exact .inr ⟨g, cap, cur, e1, e3, e4, e5, e6, e7, by rw [e1]; rfl⟩

def slRd {α : Type} (K : Kd α) (w : World) (v : Value) (xs : List α) (F : Nat → Prop) : Prop :=
  ∃ A cap cells, v = .slice A xs.length cap ∧ xs.length ≤ cap ∧ ElsR K w F xs cells ∧ (cells ≠ [] → ∃ ad, A = some ad ∧ F ad.block ∧ ∀ j u, cells[j]? = some u → w.cell? (ad.add j) = some u)
theorem add_block (a : Addr) (n : Nat) : (a.add n).block = a.block := by unfold Addr.add; split <;> rfl
theorem Addr.add_add' (a : Addr) (i j : Nat) : (a.add i).add j = a.add (i + j) := by
  unfold Addr.add
  by_cases hi : i = 0
  · simp [hi]
  · by_cases hj : j = 0
    · simp [hj]
    · rw [if_neg hi, if_neg hj, if_neg (by omega)]; simp [Nat.add_assoc]
theorem slRd.frame {α : Type} {K : Kd α} {w w' : World} {v : Value} {xs : List α} {F : Nat → Prop} (h : slRd K w v xs F) (ha : Agr w w' F) : slRd K w' v xs F := by
  obtain ⟨A, cap, cells, e, hc, he, hb⟩ := h
  refine ⟨A, cap, cells, e, hc, he.frame ha, fun hne => ?_⟩
  obtain ⟨ad, e1, hF, hcell⟩ := hb hne
  exact ⟨ad, e1, hF, fun j u hj => ha.cell (by rw [add_block]; exact hF) (hcell j u hj)⟩
theorem slRd.mono {α : Type} {K : Kd α} {w : World} {v : Value} {xs : List α} {F F' : Nat → Prop} (h : slRd K w v xs F) (hm : ∀ b, F b → b < w.heap.size → F' b) : slRd K w v xs F' := by
  obtain ⟨A, cap, cells, e, hc, he, hb⟩ := h
  refine ⟨A, cap, cells, e, hc, he.mono hm, fun hne => ?_⟩
  obtain ⟨ad, e1, hF, hcell⟩ := hb hne
  refine ⟨ad, e1, hm _ hF ?_, hcell⟩
  obtain ⟨u, us, rfl⟩ := List.exists_cons_of_ne_nil hne
  have := World.block_lt_of_cell? w (ad.add 0) (hcell 0 u rfl)
  rwa [add_block] at this
def slOw {α : Type} (e : TypeId) (K : Kd α) (w : World) (v : Value) (xs : List α) (os : List Nat) : Prop :=
  ∃ cells o1 o2, os = o1 ++ o2 ∧ RowAt w e K.n v xs.length cells o1 ∧ ElsO K w xs cells o2
theorem RowAt.cells {w : World} {e : TypeId} {size : Nat} {v : Value} {n : Nat} {cells : List Value} {os : List Nat} (h : RowAt w e size v n cells os) :
    ∃ A cap, v = .slice A n cap ∧ n ≤ cap ∧ (cells ≠ [] → ∃ g, A = some ⟨g, 0, none⟩ ∧ os = [g] ∧ ∀ j u, cells[j]? = some u → w.cell? ((⟨g, 0, none⟩ : Addr).add j) = some u) := by
  rcases h.2 with ⟨rfl, rfl, _⟩ | ⟨g, cap, cur, rfl, e2, e3, e4, e5, e6, e7⟩
  · refine ⟨none, 0, rfl, Nat.le_refl _, fun hne => ?_⟩
    have := h.1
    simp at this
    exact absurd this hne
  · refine ⟨_, cap, rfl, e3, fun hne => ⟨g, rfl, e7, fun j u hj => ?_⟩⟩
    exact (RowAt.owns h).cells (g := g) rfl j u hj
theorem slOw.rd {α : Type} {e : TypeId} {K : Kd α} {w : World} {v : Value} {xs : List α} {os : List Nat} (h : slOw e K w v xs os) : slRd K w v xs (· ∈ os) := by
  obtain ⟨cells, o1, o2, rfl, hrow, hels⟩ := h
  obtain ⟨A, cap, rfl, hc, hcell⟩ := hrow.cells
  refine ⟨A, cap, cells, rfl, hc, hels.rd.mono fun b hb _ => List.mem_append_right _ hb, fun hne => ?_⟩
  obtain ⟨g, rfl, rfl, hcl⟩ := hcell hne
  exact ⟨_, rfl, by simp, hcl⟩

def Kd.sl {α : Type} (e : TypeId) (K : Kd α) : Kd (List α) where
  n := 1
  rd := fun w cs xs F => ∃ v, cs = [v] ∧ slRd K w v xs F
  ow := fun w cs xs os => ∃ v, cs = [v] ∧ slOw e K w v xs os
  rd_len := fun ⟨v, e, _⟩ => by simp [e]
  rd_one := fun ⟨v, e, A, cap, cells, e', _⟩ u hu => by subst e; simp at hu; subst hu; subst e'; rfl
  rd_frame := fun ⟨v, e, h⟩ ha => ⟨v, e, h.frame ha⟩
  rd_mono := fun ⟨v, e, h⟩ hm => ⟨v, e, h.mono hm⟩
  ow_frame := fun ⟨v, e, cells, o1, o2, e', h1, h2⟩ ha => ⟨v, e, cells, o1, o2, e', h1.frame fun b hb => ha b (by subst e'; exact List.mem_append_left _ hb), h2.frame fun b hb => ha b (by subst e'; exact List.mem_append_right _ hb)⟩
  ow_lt := fun ⟨v, e, cells, o1, o2, e', h1, h2⟩ b hb => by
    subst e'
    rcases List.mem_append.1 hb with hb | hb
    · exact h1.lt b hb
    · exact h2.lt b hb
  ow_rd := fun ⟨v, e, h⟩ => ⟨v, e, h.rd⟩
end Go.Proofs.Ytcagjdngannneaa.V
