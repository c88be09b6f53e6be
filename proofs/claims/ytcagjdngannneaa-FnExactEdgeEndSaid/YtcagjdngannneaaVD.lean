
import Derived.Test.YtcagjdngannneaaVC
set_option linter.unusedVariables false
set_option linter.unusedSimpArgs false
set_option linter.unusedSectionVars false
namespace Go.Proofs.Ytcagjdngannneaa.V
open Go

section
variable {α : Type} [Inhabited α]
theorem wr64 {n : Int} (h0 : -9223372036854775808 ≤ n) (h1 : n ≤ 9223372036854775807) : IntKind.i64.wrap n = n := by
  rw [IntKind.wrap_i64]; omega
theorem at_n (xs : List α) (k : Nat) (h : k < xs.length) : at_ xs (k : Int) = xs[k] := by rw [at_eq xs _ (by simpa using h)]; simp
theorem it_l {S O : Type} {body : S → Option (S ⊕ O)} {s s' : S} (h : body s = some (.inl s')) : iter body s = iter body s' := by rw [iter_eq, h]; rfl
theorem it_r {S O : Type} {body : S → Option (S ⊕ O)} {s : S} {o : O} (h : body s = some (.inr o)) : iter body s = some o := by rw [iter_eq, h]; rfl
noncomputable def ixB (a0 : List α) (a1 : α → Option Bool) (x2 : Int) : Option (Int ⊕ Int) :=
  (if (decide (x2 < (a0.length : Int))) = true then (if 0 ≤ x2 ∧ x2 < (a0.length : Int) then ((a1 (at_ a0 x2)).bind fun r8 => (if r8 = true then (some (Sum.inr x2)) else (some (Sum.inl (IntKind.wrap .i64 (x2 + (1 : Int))))))) else none) else ((some (-1 : Int)).bind fun o => some (Sum.inr o)))
noncomputable def dfB (z : α) (a1 : α → Option Bool) (x7 : List α × Int × Int) : Option ((List α × Int × Int) ⊕ List α) :=
  (if (decide (x7.2.2 < (x7.1.length : Int))) = true then (if 0 ≤ x7.2.2 ∧ x7.2.2 < (x7.1.length : Int) then ((a1 (at_ x7.1 x7.2.2)).bind fun r20 => ((if (!r20) = true then (if 0 ≤ x7.2.1 ∧ x7.2.1 < (x7.1.length : Int) then (some ((x7.1.set (x7.2.1).toNat (at_ x7.1 x7.2.2)), (IntKind.wrap .i64 (x7.2.1 + (1 : Int))))) else none) else (some (x7.1, x7.2.1))).bind fun y22 => (some (Sum.inl (y22.1, y22.2, (IntKind.wrap .i64 (x7.2.2 + (1 : Int)))))))) else none) else ((if 0 ≤ x7.2.1 ∧ x7.2.1 ≤ (x7.1.length : Int) then (if 0 ≤ x7.2.1 ∧ x7.2.1 ≤ ((x7.1.take (x7.2.1).toNat ++ List.replicate (x7.1.length - (x7.2.1).toNat) z).length : Int) then (some ((x7.1.take (x7.2.1).toNat ++ List.replicate (x7.1.length - (x7.2.1).toNat) z).take (x7.2.1).toNat)) else none) else none).bind fun o => some (Sum.inr o)))
noncomputable def dfM (z : α) (a0 : List α) (a1 : α → Option Bool) : Option (List α) := ((iter (ixB a0 a1) (0 : Int)).bind fun r2 => (if (r2 == (-1 : Int)) = true then (some a0) else (iter (dfB z a1) (a0, r2, (IntKind.wrap .i64 (r2 + (1 : Int)))))))
theorem ix_some (a0 : List α) (a1 : α → Option Bool) (g : α → Bool) (hl : a0.length ≤ maxLen) (h : ∀ x ∈ a0, a1 x = some (g x)) : ∃ r, iter (ixB a0 a1) (0 : Int) = some r ∧ ((r = -1 ∧ ∀ x ∈ a0, g x = false) ∨ ∃ (k : Nat) (hk : k < a0.length), r = (k : Int) ∧ g a0[k] = true ∧ ∀ x ∈ a0.take k, g x = false) := by
  have hl' := hl
  simp only [maxLen] at hl'
  have key : ∀ (m k : Nat), k + m = a0.length → (∀ x ∈ a0.take k, g x = false) → ∃ r, iter (ixB a0 a1) (k : Int) = some r ∧ ((r = -1 ∧ ∀ x ∈ a0, g x = false) ∨ ∃ (k : Nat) (hk : k < a0.length), r = (k : Int) ∧ g a0[k] = true ∧ ∀ x ∈ a0.take k, g x = false) := by
    intro m
    induction m with
    | zero =>
      intro k hk hb
      have : k = a0.length := by omega
      subst this
      refine ⟨-1, it_r ?_, .inl ⟨rfl, by simpa using hb⟩⟩
      unfold ixB
      rw [if_neg (by simp)]; rfl
    | succ m ih =>
      intro k hk hb
      have hk1 : k < a0.length := by omega
      have hx := h _ (List.getElem_mem hk1)
      cases hg : g a0[k] with
      | true =>
        refine ⟨(k : Int), it_r ?_, .inr ⟨k, hk1, rfl, hg, hb⟩⟩
        unfold ixB
        rw [if_pos (by simp; omega), if_pos ⟨by omega, by omega⟩, at_n _ k hk1, hx, Option.bind_some, hg, if_pos rfl]
      | false =>
        obtain ⟨r, hr, hq⟩ := ih (k + 1) (by omega) (fun x hx' => by
          rw [List.take_succ_eq_append_getElem hk1] at hx'
          rcases List.mem_append.1 hx' with h1 | h1
          · exact hb x h1
          · simp at h1; rw [h1]; exact hg)
        refine ⟨r, ?_, hq⟩
        rw [← hr]
        refine it_l ?_
        unfold ixB
        rw [if_pos (by simp; omega), if_pos ⟨by omega, by omega⟩, at_n _ k hk1, hx, Option.bind_some, hg, if_neg (by decide), wr64 (by omega) (by omega)]; rfl
  exact key a0.length 0 (by omega) (by simp)
theorem dfM_eq (z : α) (a0 : List α) (a1 : α → Option Bool) (g : α → Bool) (hl : a0.length ≤ maxLen) (h : ∀ x ∈ a0, a1 x = some (g x)) : dfM z a0 a1 = some (a0.filter fun x => !g x) := by
  have hl' := hl
  simp only [maxLen] at hl'
  obtain ⟨r, hr, hq⟩ := ix_some a0 a1 g hl h
  unfold dfM
  rw [hr, Option.bind_some]
  rcases hq with ⟨rfl, hall⟩ | ⟨k0, hk0, rfl, hgk, hb⟩
  · rw [if_pos (by decide), List.filter_eq_self.2 fun x hx => by rw [hall x hx]; rfl]
  · rw [if_neg (by simp), wr64 (by omega) (by omega)]
    -- behind j elements of the row, those that stay lie ahead
    have key : ∀ (m j : Nat) (l : List α) (i : Nat), j + m = a0.length → l.length = a0.length → i ≤ j → (∀ q, j ≤ q → l[q]? = a0[q]?) → l.take i = (a0.take j).filter (fun x => !g x) → iter (dfB z a1) (l, (i : Int), (j : Int)) = some (a0.filter fun x => !g x) := by
      intro m
      induction m with
      | zero =>
        intro j l i hj hll hij hrest htk
        have : j = a0.length := by omega
        subst this
        refine it_r ?_
        unfold dfB
        simp only []
        rw [if_neg (by rw [hll]; simp), if_pos ⟨by omega, by omega⟩, if_pos ⟨by omega, by simp; omega⟩, Option.bind_some, Int.toNat_natCast]
        rw [List.take_append_of_le_length (by rw [List.length_take]; omega), List.take_take, Nat.min_self, htk, List.take_length]
      | succ m ih =>
        intro j l i hj hll hij hrest htk
        have hj1 : j < a0.length := by omega
        have hlj : l[j]'(by omega) = a0[j] := by
          have := hrest j (Nat.le_refl _)
          rw [List.getElem?_eq_getElem (by omega), List.getElem?_eq_getElem hj1] at this
          exact Option.some.inj this
        have hx := h _ (List.getElem_mem hj1)
        have hbody : dfB z a1 (l, (i : Int), (j : Int)) = if g a0[j] = true then some (.inl (l, (i : Int), ((j + 1 : Nat) : Int))) else some (.inl (l.set i a0[j], ((i + 1 : Nat) : Int), ((j + 1 : Nat) : Int))) := by
          unfold dfB
          simp only []
          rw [if_pos (by rw [hll]; simp; omega), if_pos ⟨by omega, by omega⟩, at_n l j (by omega), hlj, hx, Option.bind_some]
          cases hg : g a0[j] with
          | true => rw [if_neg (by decide), Option.bind_some, if_pos rfl, wr64 (by omega) (by omega)]; rfl
          | false =>
            rw [if_pos (by decide), if_pos ⟨by omega, by omega⟩, Option.bind_some, if_neg (by decide), wr64 (by omega) (by omega), wr64 (by omega) (by omega)]; rfl
        cases hg : g a0[j] with
        | true =>
          rw [hg, if_pos rfl] at hbody
          rw [it_l hbody]
          refine ih (j + 1) l i (by omega) hll (by omega) (fun q hq => hrest q (by omega)) ?_
          rw [htk, List.take_succ_eq_append_getElem hj1, List.filter_append]
          simp [hg]
        | false =>
          rw [hg, if_neg (by decide)] at hbody
          rw [it_l hbody]
          refine ih (j + 1) (l.set i a0[j]) (i + 1) (by omega) (by rw [List.length_set]; exact hll) (by omega) (fun q hq => by rw [List.getElem?_set_ne (by omega)]; exact hrest q (by omega)) ?_
          rw [List.take_succ_eq_append_getElem (by rw [List.length_set]; omega), List.take_set_of_le (Nat.le_refl _), htk, List.take_succ_eq_append_getElem hj1, List.filter_append]
          simp [hg]
    refine key (a0.length - (k0 + 1)) (k0 + 1) a0 k0 (by omega) rfl (by omega) (fun _ _ => rfl) ?_
    rw [List.take_succ_eq_append_getElem hk0, List.filter_append, List.filter_eq_self.2 fun x hx => by rw [hb x hx]; rfl]
    simp [hgk]
noncomputable def dlM (z : α) (a0 : List α) (a1 : Int) (a2 : Int) : Option (List α) :=
  (if 0 ≤ a1 ∧ a1 ≤ a2 ∧ a2 ≤ (a0.length : Int) ∧ (a0.length : Int) ≤ (a0.length : Int) then (if (a1 == a2) = true then (some a0) else (if 0 ≤ a1 ∧ a1 ≤ (a0.length : Int) then (if 0 ≤ a2 ∧ a2 ≤ (a0.length : Int) then (if (a0.take (a1).toNat).length + (a0.drop (a2).toNat).length ≤ a0.length ∧ (a0.take (a1).toNat).length + (a0.drop (a2).toNat).length ≤ Lim then (if 0 ≤ (((a0.take (a1).toNat) ++ (a0.drop (a2).toNat)).length : Int) ∧ (((a0.take (a1).toNat) ++ (a0.drop (a2).toNat)).length : Int) = (((a0.take (a1).toNat) ++ (a0.drop (a2).toNat)).length : Int) ∧ (((a0.take (a1).toNat) ++ (a0.drop (a2).toNat)).length : Int) ≤ (a0.length : Int) ∧ (a0.length : Int) ≤ (a0.length : Int) then (some (((a0.take (a1).toNat) ++ (a0.drop (a2).toNat)).take ((((a0.take (a1).toNat) ++ (a0.drop (a2).toNat)).length : Int)).toNat ++ List.replicate (((a0.take (a1).toNat) ++ (a0.drop (a2).toNat)).length - ((((a0.take (a1).toNat) ++ (a0.drop (a2).toNat)).length : Int)).toNat) z)) else none) else none) else none) else none)) else none)
def dlF {β : Type} (a0 : List β) (a1 a2 : Int) : Option (List β) := if 0 ≤ a1 ∧ a1 ≤ a2 ∧ a2 ≤ (a0.length : Int) ∧ a0.length ≤ Lim then some (a0.take a1.toNat ++ a0.drop a2.toNat) else none
theorem dlM_eq (z : α) (a0 : List α) (a1 a2 : Int) (h0 : 0 ≤ a1) (h1 : a1 ≤ a2) (h2 : a2 ≤ (a0.length : Int)) (hl : a0.length ≤ Lim) : dlM z a0 a1 a2 = some (a0.take a1.toNat ++ a0.drop a2.toNat) := by
  unfold dlM
  rw [if_pos ⟨h0, h1, h2, Int.le_refl _⟩]
  by_cases h : a1 = a2
  · subst h
    rw [if_pos (by simp), List.take_append_drop]
  · have hlen : (a0.take a1.toNat ++ a0.drop a2.toNat).length ≤ a0.length := by simp; omega
    rw [if_neg (by simpa using h), if_pos ⟨h0, by omega⟩, if_pos ⟨by omega, h2⟩, if_pos (by rw [← List.length_append]; omega), if_pos ⟨by omega, rfl, by omega, Int.le_refl _⟩, Int.toNat_natCast, List.take_length, Nat.sub_self, List.replicate_zero, List.append_nil]
end

section
variable {β : Type} [Inhabited β] {K : Kd β} {te : TypeId}
def PkB (K : Kd β) (s : St) (ps : List (Pk β × List Nat)) (c : Nat) : Prop := (∀ p ∈ ps, K.ow s.w p.1.cs p.1.x p.2) ∧ ((ps.map (·.2)).flatten).Nodup ∧ ∀ b ∈ (ps.map (·.2)).flatten, s.g b = c
theorem mem_fl {ps : List (Pk β × List Nat)} {p : Pk β × List Nat} (h : p ∈ ps) {b : Nat} (hb : b ∈ p.2) : b ∈ (ps.map (·.2)).flatten := List.mem_flatten.2 ⟨p.2, List.mem_map.2 ⟨p, h, rfl⟩, hb⟩
theorem PkB.st {s s' : St} {S : List Nat} {ps : List (Pk β × List Nat)} {c : Nat} (h : PkB K s ps c) (p : Stp S s s') (d : memb S c = false) : PkB K s' ps c := by
  refine ⟨fun q hq => K.ow_frame (h.1 q hq) fun b hb hl => (p.same b hl (by rw [h.2.2 b (mem_fl hq hb)]; exact d)).2, h.2.1, fun b hb => ?_⟩
  obtain ⟨l, hl, hbl⟩ := List.mem_flatten.1 hb
  obtain ⟨q, hq, rfl⟩ := List.mem_map.1 hl
  rw [(p.same b (K.ow_lt (h.1 q hq) b hbl) (by rw [h.2.2 b hb]; exact d)).1, h.2.2 b hb]
theorem pk_split {s : St} {v : Value} {xs : List β} {c : Nat} (c2 : Nat) (hO : OwF (Kd.sl te K) s [v] xs c) (h40 : Nat.ble 40 c = true) :
    ∃ (s' : St) (ps : List (Pk β × List Nat)), s.w = s'.w ∧ Stp [c] s s' ∧ ps.map (fun p => p.1.x) = xs ∧ RwF te K s' v xs c [c2] ∧ OwF (Kd.sl te (Kd.pk β K.n)) s' [v] (ps.map (·.1)) c ∧ PkB K s' ps c2 := by
  have h40' := Nat.le_of_ble_eq_true h40
  obtain ⟨os, ⟨v1, e1, cells, o1, o2, rfl, hR, hE⟩, hnd, hcol⟩ := hO
  obtain rfl : v = v1 := by simpa using e1
  obtain ⟨ps, hx, ho, hcs, hp⟩ := pk_of hE
  have hn := List.nodup_append.1 hnd
  refine ⟨⟨s.w, fun b => open Classical in if b ∈ o2 then c2 else s.g b⟩, ps, rfl, ⟨rfl, rfl, rfl, Nat.le_refl _, fun b hb hl => ?_, fun b hb hm => ⟨?_, rfl⟩⟩, hx, ⟨cells, o1, hR, fun b hb => ?_, hE.rd.mono fun b hb _ => ?_⟩, ⟨o1 ++ [], ⟨v, rfl, cells, o1, [], rfl, ?_, ?_⟩, by simpa using hn.1, fun b hb => ?_⟩, hp, by rw [ho]; exact hn.2.1, fun b hb => ?_⟩
  · have : b ∉ o2 := fun h => by have := hcol b (List.mem_append_right _ h); omega
    simp [this]
  · have : b ∉ o2 := fun h => by rw [hcol b (List.mem_append_right _ h)] at hm; simp [memb] at hm
    simp [this]
  · have : b ∉ o2 := fun h => hn.2.2 b hb b h rfl
    simp only [if_neg this]
    exact hcol b (List.mem_append_left _ hb)
  · simp [memb, hb]
  · have : (ps.map (·.1)).length = xs.length := by rw [← hx]; simp
    rw [this]; exact hR
  · rw [← hcs]; exact pk_els s.w ps hp
  · rw [List.append_nil] at hb
    have : b ∉ o2 := fun h => hn.2.2 b hb b h rfl
    simp only [if_neg this]
    exact hcol b (List.mem_append_left _ hb)
  · rw [ho] at hb
    simp [hb]
theorem pk_join {s : St} {v : Value} {ps qs : List (Pk β × List Nat)} {c c2 : Nat} (hO : OwF (Kd.sl te (Kd.pk β K.n)) s [v] (qs.map (·.1)) c) (hB : PkB K s ps c2) (hsl : qs.Sublist ps) (hcc : Nat.beq c c2 = false) (h40 : Nat.ble 40 c2 = true) :
    ∃ s' : St, s.w = s'.w ∧ Stp [c, c2] s s' ∧ OwF (Kd.sl te K) s' [v] (qs.map fun p => p.1.x) c := by
  have h40' := Nat.le_of_ble_eq_true h40
  have hcc' : c ≠ c2 := fun h => by rw [h, Nat.beq_refl] at hcc; cases hcc
  obtain ⟨os, ⟨v1, e1, cells, o1, o2, rfl, hR, hE⟩, hnd, hcol⟩ := hO
  obtain rfl : v = v1 := by simpa using e1
  obtain ⟨hcs, ho2⟩ := pk_cells hE
  subst ho2
  rw [List.append_nil] at hnd hcol
  obtain ⟨hp, hnd2, hcol2⟩ := hB
  have hfs : ((qs.map (·.2)).flatten).Sublist ((ps.map (·.2)).flatten) := flat_sub _ hsl
  refine ⟨⟨s.w, fun b => if s.g b = c2 then c else s.g b⟩, rfl, ⟨rfl, rfl, rfl, Nat.le_refl _, fun b hb hl => ?_, fun b hb hm => ⟨?_, rfl⟩⟩, o1 ++ (qs.map (·.2)).flatten, ⟨v, rfl, cells, o1, _, rfl, ?_, ?_⟩, ?_, fun b hb => ?_⟩
  · have : ¬ s.g b = c2 := by omega
    simp [this]
  · have : ¬ s.g b = c2 := fun h => by rw [h] at hm; simp [memb] at hm
    simp [this]
  · rw [List.length_map] at hR ⊢; exact hR
  · rw [hcs, List.map_map]; exact pk_back qs fun p hq => hp p (hsl.subset hq)
  · refine List.nodup_append.2 ⟨hnd, hfs.nodup hnd2, fun a ha b hb hab => ?_⟩
    subst hab
    exact hcc' ((hcol a ha).symm.trans (hcol2 a (hfs.subset hb)))
  · rcases List.mem_append.1 hb with h | h
    · simp only [hcol b h]
      split <;> rfl
    · simp [hcol2 b (hfs.subset h)]
theorem pk_fw {w w' : World} {v : Value} {ps qs : List (Pk β × List Nat)} {o1 o2 : List Nat} (hn : (o1 ++ o2).Nodup) (ho : (ps.map (·.2)).flatten = o2) (hlt : ∀ b ∈ o2, b < w.heap.size) (hsl : qs.Sublist ps) (hst : ∀ p ∈ ps, K.ow w' p.1.cs p.1.x p.2)
    (hfw : FW (Kd.sl te (Kd.pk β K.n)) o1 w w' [v] (qs.map (·.1))) : FW (Kd.sl te K) (o1 ++ o2) w w' [v] (qs.map fun p => p.1.x) := by
  obtain ⟨os', ⟨v', e5, cells', p1, p2, rfl, hrow5, hels5⟩, hnd5, hsub5⟩ := hfw
  obtain rfl : v = v' := by simpa using e5
  obtain ⟨hcs5, hp2⟩ := pk_cells hels5
  subst hp2
  have hos2 : ((qs.map (·.2)).flatten).Sublist o2 := by rw [← ho]; exact flat_sub _ hsl
  refine ⟨p1 ++ (qs.map (·.2)).flatten, ⟨v, rfl, cells', p1, _, rfl, ?_, ?_⟩, ?_, fun b hb => ?_⟩
  · rw [List.length_map] at hrow5 ⊢; exact hrow5
  · rw [hcs5, List.map_map]; exact pk_back qs fun p hp => hst p (hsl.subset hp)
  · refine List.nodup_append.2 ⟨by simpa using hnd5, hos2.nodup (List.nodup_append.1 hn).2.1, fun a ha b hb hab => ?_⟩
    subst hab
    have hb2 := hos2.subset hb
    rcases hsub5 a (by simpa using ha) with h | h
    · exact (List.nodup_append.1 hn).2.2 a h a hb2 rfl
    · have := hlt a hb2
      omega
  · rcases List.mem_append.1 hb with hb | hb
    · rcases hsub5 b (by simpa using hb) with h | h
      · exact .inl (List.mem_append_left _ h)
      · exact .inr h
    · exact .inl (List.mem_append_right _ (hos2.subset hb))
theorem dlW {P : Program} {f : Nat} {D : List (Pk β) → Int → Int → Option (List (Pk β))}
    (hc : ∀ (a0 : List (Pk β)) (a1 a2 : Int) (w : World) (F : Nat → Prop) (w0 : Value) (os : List Nat) (h0 : (Kd.sl te (Kd.pk β K.n)).ow w [w0] a0 os) (hn : os.Nodup) (hF : ∀ b, F b → b ∉ os) (r : List (Pk β)) (m : D a0 a1 a2 = some r),
      Calls P f #[w0, .int .i64 a1, .int .i64 a2] w fun en w' => ∃ v, en = .returned v ∧ FW (Kd.sl te (Kd.pk β K.n)) os w w' [v] r ∧ Ky os w w')
    (hD : ∀ (a0 : List (Pk β)) (a1 a2 : Int), 0 ≤ a1 → a1 ≤ a2 → a2 ≤ (a0.length : Int) → a0.length ≤ Lim → D a0 a1 a2 = some (a0.take a1.toNat ++ a0.drop a2.toNat))
    (a0 : List β) (a1 a2 : Int) (w : World) (w0 : Value) (os : List Nat) (h0 : (Kd.sl te K).ow w [w0] a0 os) (hn : os.Nodup) (r : List β) (m : dlF a0 a1 a2 = some r) :
    Calls P f #[w0, .int .i64 a1, .int .i64 a2] w fun en w' => ∃ v, en = .returned v ∧ FW (Kd.sl te K) os w w' [v] r ∧ Ky os w w' := by
  obtain ⟨v, e1, cells, o1, o2, rfl, hrow, hels⟩ := h0
  obtain rfl : w0 = v := by simpa using e1
  obtain ⟨ps, hx, ho, hcs, hp⟩ := pk_of hels
  have hl : (ps.map (·.1)).length = a0.length := by rw [← hx]; simp
  have hn1 : o1.Nodup := (List.nodup_append.1 hn).1
  have hpk : (Kd.sl te (Kd.pk β K.n)).ow w [w0] (ps.map (·.1)) o1 := ⟨_, rfl, cells, o1, [], by simp, by rw [hl]; exact hrow, by rw [← hcs]; exact pk_els w ps hp⟩
  unfold dlF at m
  split at m
  · rename_i hg
    simp only [Option.some.injEq] at m
    subst m
    have hm := hD (ps.map (·.1)) a1 a2 hg.1 hg.2.1 (by rw [hl]; exact hg.2.2.1) (by rw [hl]; exact hg.2.2.2)
    have key := hc (ps.map (·.1)) a1 a2 w (fun b => b ∈ o2) w0 o1 hpk hn1 (fun b hb hm => (List.nodup_append.1 hn).2.2 b hm b hb rfl) _ hm
    refine key.mono fun en w' ⟨v, he, hfw, ky⟩ => ⟨v, he, ?_, ⟨ky.os, ky.tape, ky.output, ky.size, fun b hb hm => ky.same b hb fun h => hm (List.mem_append_left _ h)⟩⟩
    have hst : ∀ p ∈ ps, K.ow w' p.1.cs p.1.x p.2 := fun p hpm => K.ow_frame (hp p hpm) fun b hb hl => ky.same b hl fun hm => (List.nodup_append.1 hn).2.2 b hm b (by rw [← ho]; exact mem_fl hpm hb) rfl
    have hsl : (ps.take a1.toNat ++ ps.drop a2.toNat).Sublist ps := by
      have h1 : (ps.drop a2.toNat).Sublist (ps.drop a1.toNat) := by
        have : ps.drop a2.toNat = (ps.drop a1.toNat).drop (a2.toNat - a1.toNat) := by rw [List.drop_drop]; congr 1; omega
        rw [this]; exact List.drop_sublist _ _
      have h2 := (List.Sublist.refl (ps.take a1.toNat)).append h1
      rwa [List.take_append_drop] at h2
    have := pk_fw hn ho (fun b hb => hels.lt b hb) hsl hst (by rw [List.map_append, List.map_take, List.map_drop]; exact hfw)
    rw [List.map_append, List.map_take, List.map_drop, hx] at this
    exact this
  · cases m
end
end Go.Proofs.Ytcagjdngannneaa.V
