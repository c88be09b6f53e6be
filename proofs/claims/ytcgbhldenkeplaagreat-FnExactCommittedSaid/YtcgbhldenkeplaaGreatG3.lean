import Derived.Test.YtcgbhldenkeplaaGreatG2
set_option linter.unusedVariables false
set_option linter.unusedSimpArgs false
namespace Go.Proofs.YtcgbhldenkeplaaGreat.V
open Go
def SxF {α : Type} (te : TypeId) (K : Kd α) (s : St) (v : Value) (xs : List α) (n : Nat) (c : Nat) : Prop :=
 ∃ cells o1 o2, RowAt s.w te K.n v xs.length cells o1 ∧ ElsO K s.w (xs.drop n) (cells.drop (n * K.n)) o2 ∧ (o1 ++ o2).Nodup ∧ ∀ b ∈ o1 ++ o2, s.g b = c
theorem sx_0 {α : Type} {te : TypeId} {K : Kd α} {s : St} {v : Value} {xs : List α} {c : Nat} (h : OwF (Kd.sl te K) s [v] xs c) : SxF te K s v xs (0 : Int).toNat c := by
 obtain ⟨os, ⟨v1, e1, cells, o1, o2, rfl, hR, hE⟩, hn, hc⟩ := h
 obtain rfl : v = v1 := by simpa using e1
 exact ⟨cells, o1, o2, hR, by simpa using hE, hn, hc⟩
theorem SxF.st {α : Type} {te : TypeId} {K : Kd α} {s s' : St} {v : Value} {xs : List α} {n c : Nat} {S : List Nat} (h : SxF te K s v xs n c) (p : Stp S s s') (d : memb S c = false) : SxF te K s' v xs n c := by
 obtain ⟨cells, o1, o2, hR, hE, hn, hc⟩ := h
 have hs : ∀ b ∈ o1 ++ o2, b < s.w.heap.size → s'.g b = s.g b ∧ s'.w.heap[b]? = s.w.heap[b]? := fun b hb hl => p.same b hl (by rw [hc b hb]; exact d)
 have hlt : ∀ b ∈ o1 ++ o2, b < s.w.heap.size := fun b hb => by
  rcases List.mem_append.1 hb with hb | hb
  · exact hR.lt b hb
  · exact hE.lt b hb
 refine ⟨cells, o1, o2, hR.frame fun b hb hl => (hs b (List.mem_append_left _ hb) hl).2, hE.frame fun b hb hl => (hs b (List.mem_append_right _ hb) hl).2, hn, fun b hb => ?_⟩
 rw [(hs b hb (hlt b hb)).1]; exact hc b hb
theorem sx_next {α : Type} {te : TypeId} {K : Kd α} {s : St} {v : Value} {xs : List α} {c : Nat} {ii : Int} (h : SxF te K s v xs (ii.toNat + 1) c) (h0 : 0 ≤ ii) (h1 : ii < (xs.length : Int)) : SxF te K s v xs (IntKind.wrap .i64 (ii + 1)).toNat c := by
 have hl : xs.length ≤ maxLen := by
  obtain ⟨cells, o1, o2, hR, _⟩ := h
  rcases hR.2 with ⟨_, h, _⟩ | ⟨g, cap, cur, _, _, h2, h3, _⟩
  · rw [h]; exact Nat.zero_le _
  · omega
 simp only [maxLen] at hl
 have e : (IntKind.wrap .i64 (ii + 1)).toNat = ii.toNat + 1 := by rw [wr64 (by omega) (by omega)]; omega
 rw [e]; exact h
section
variable {P : Program} {f : Who} {N : Nat} {O ρ : Type} {m : Option O} {G : O → Option ρ} {R : ρ → Ending → World → Prop} {e : Env} {s : St} {k : List Item} {ops : Array Oper} {i d : Nat} {rest : List Nat} {o : Oper}
theorem ixs {α : Type} [Inhabited α] {te t : TypeId} {K : Kd α} {v : Value} {xs : List α} {c : Nat} {kk : IntKind} {ii : Int} {X I : Operand} (a : Nat) (hF : SxF te K s v xs ii.toNat c) (hu : P.underlying t = some (.slice te)) (hs : (P.info? te).map (·.size) = some K.n) (hn : Nat.ble 1 K.n = true) (h40 : Nat.ble 40 c = true)
    (ho : ops[i]? = some o) (hd : o.dst = some d) (hN : Nat.blt d N = true) (hw : Region.wanted o (yv e ops) = true) (hop : o.op = .indexAddr t X I) (hX : ev e X = v) (hI : ev e I = .int kk ii)
    (h : ∀ ad es s', Stp [c] s s' → 0 ≤ ii → ii < (xs.length : Int) → OwF K s' es (at_ xs ii) a → SxF te K s' v xs (ii.toNat + 1) c → CeF s' ad es [c] → IxA v K.n ii ad → TM P f N m G R (.inRegion ops rest :: k) (upd e d (.pointer (some ad))) s'.w) :
    TM P f N (if 0 ≤ ii ∧ ii < xs.length then m else none) G R (.inRegion ops (i :: rest) :: k) e s.w := by
  refine mg fun hg => ?_
  have hn1 := Nat.le_of_ble_eq_true hn
  have h40' := Nat.le_of_ble_eq_true h40
  obtain ⟨cells, o1, o2, hR, hE, hnd, hcol⟩ := hF
  have hi : ii.toNat < xs.length := by omega
  obtain ⟨A, cap, rfl, hcap, hcell⟩ := hR.cells
  have hcl : cells.length = xs.length * K.n := hR.1
  have hlt : ii.toNat * K.n < cells.length := by rw [hcl]; exact Nat.mul_lt_mul_of_pos_right hi (by omega)
  have hmul : (ii.toNat + 1) * K.n ≤ xs.length * K.n := Nat.mul_le_mul_right _ hi
  rw [Nat.add_mul, Nat.one_mul] at hmul
  obtain ⟨g, rfl, ho1, hcl2⟩ := hcell (by intro h; subst h; simp at hlt)
  rw [List.drop_eq_getElem_cons hi] at hE
  obtain ⟨c1, c2, p1, p2, he, ho2, hK, hrest⟩ := hE
  have hl1 : c1.length = K.n := K.rd_len (K.ow_rd hK)
  have hc2 : c2 = cells.drop ((ii.toNat + 1) * K.n) := by
    have := congrArg (List.drop K.n) he
    rw [List.drop_drop, ← hl1, List.drop_left] at this
    rw [← this, hl1, Nat.add_mul, Nat.one_mul]
  have hgin : ∀ b ∈ p1, b ∉ o1 ++ p2 := fun b hb hb2 => by
    rw [ho2] at hnd
    obtain ⟨_, n2, n3⟩ := List.nodup_append.1 hnd
    rcases List.mem_append.1 hb2 with h | h
    · exact n3 b h b (List.mem_append_left _ hb) rfl
    · exact (List.nodup_append.1 n2).2.2 b hb b h rfl
  refine vl (v := .pointer (some ((⟨g, 0, none⟩ : Addr).add (ii.toNat * K.n)))) ho hd hN hw ?_ (h ((⟨g, 0, none⟩ : Addr).add (ii.toNat * K.n)) c1 ⟨s.w, fun b => open Classical in if b ∈ p1 then a else s.g b⟩ ⟨rfl, rfl, rfl, Nat.le_refl _, fun b hb hl => ?_, fun b hb hm => ⟨?_, rfl⟩⟩ hg.1 hg.2 ⟨p1, ?_, ?_, fun b hb => by simp [hb]⟩ ⟨cells, o1, p2, hR, ?_, ?_, fun b hb => ?_⟩ ⟨?_, fun j u hj => ?_⟩ ⟨_, _, cap, rfl, rfl⟩)
  · have h1 := hg.1
    have h2 := hg.2
    simp [execOp, hop, hX, hI, Instr.indexAt, asIntOf, run_underlying hu, h1, h2, size_run hs, Result.andThen]
  · have : b ∉ p1 := fun h => by have := hcol b (by rw [ho2]; simp [h]); omega
    simp [this]
  · have : b ∉ p1 := fun h => by rw [hcol b (by rw [ho2]; simp [h])] at hm; simp [memb] at hm
    simp [this]
  · rw [at_eq xs ii hi]; exact hK
  · rw [ho2] at hnd; exact (List.nodup_append.1 (List.nodup_append.1 hnd).2.1).1
  · rw [← hc2]; exact hrest
  · rw [ho2] at hnd
    obtain ⟨n1, n2, n3⟩ := List.nodup_append.1 hnd
    exact List.nodup_append.2 ⟨n1, (List.nodup_append.1 n2).2.1, fun x hx y hy => n3 x hx y (List.mem_append_right _ hy)⟩
  · have : b ∉ p1 := fun h => hgin b h hb
    simp only [this, if_false]
    refine hcol b ?_
    rw [ho2]
    rcases List.mem_append.1 hb with h | h <;> simp [h]
  · rw [add_block]
    have hgo : g ∈ o1 := by rw [ho1]; simp
    have : g ∉ p1 := fun h => hgin g h (List.mem_append_left _ hgo)
    simp only [this, if_false]
    rw [hcol g (List.mem_append_left _ hgo)]
    simp [memb]
  · rw [Addr.add_add']
    refine hcl2 _ _ ?_
    have hjl : j < c1.length := (List.getElem?_eq_some_iff.1 hj).1
    have := congrArg (fun l => l[j]?) he
    simp only [List.getElem?_drop, List.getElem?_append_left hjl] at this
    rw [this]; exact hj
end
section
variable {P : Program} {f : Who} {N : Nat} {O ρ : Type} {G : O → Option ρ} {R : ρ → Ending → World → Prop} {k : List Item} {e : Env} {ops : Array Oper}
theorem clV {α : Type} {x : Option α} {km : α → Option O} {i d : Nat} {rest : List Nat} {o : Oper} {g : FuncId} {fn : Func} {c : Code} {args : Array Operand} {ts : Array TypeId} {vs : List Value} {s : St} {V : α → Value} (cc : Nat) (t0 : E5 (ops[i]?) (some o) (o.dst) (some d) (Nat.blt d N) (true) (Region.wanted o (yv e ops)) (true) (o.op) (.call { callee := .value (.func g), args := args, argTypes := ts })) (hg : P.funcs[g]? = some fn) (t6 : E3 (fn.body) (some c) ((fn.name == "runtime.NumGoroutine")) (false) (args.toList.map (ev e)) (vs)) (hc : ∀ a, x = some a → Calls P g vs.toArray s.w fun en w' => ∃ v, en = .returned v ∧ v = V a ∧ Ky [] s.w w')
  (h : ∀ a s', Stp [] s s' → Nw s s' cc → TM P f N (km a) G R (.inRegion ops rest :: k) (upd e d (V a)) s'.w) : TM P f N (x.bind km) G R (.inRegion ops (i :: rest) :: k) e s.w :=
 cl (e5_ t0).1 (e5_ t0).2.1 (e5_ t0).2.2.1 (e5_ t0).2.2.2.1 (e5_ t0).2.2.2.2 hg (e3_ t6).1 (e3_ t6).2.1 (e3_ t6).2.2 hc fun a v w' _ hq => by
  obtain ⟨rfl, ky⟩ := hq
  obtain ⟨s', rfl, p, n⟩ := nwx s w' cc ky
  exact h a s' p n
theorem clO {α : Type} {x : Option α} {km : α → Option O} {i d : Nat} {rest : List Nat} {o : Oper} {g : FuncId} {fn : Func} {c : Code} {args : Array Operand} {ts : Array TypeId} {vs : List Value} {s : St} {β : Type} {K : Kd β} {X : α → β} (cc : Nat) (t0 : E5 (ops[i]?) (some o) (o.dst) (some d) (Nat.blt d N) (true) (Region.wanted o (yv e ops)) (true) (o.op) (.call { callee := .value (.func g), args := args, argTypes := ts })) (hg : P.funcs[g]? = some fn) (t6 : E3 (fn.body) (some c) ((fn.name == "runtime.NumGoroutine")) (false) (args.toList.map (ev e)) (vs)) (hc : ∀ a, x = some a → Calls P g vs.toArray s.w fun en w' => ∃ v, en = .returned v ∧ FO K s.w w' [v] (X a) ∧ Ky [] s.w w')
  (h : ∀ a v s', Stp [] s s' → OwF K s' [v] (X a) cc → TM P f N (km a) G R (.inRegion ops rest :: k) (upd e d v) s'.w) : TM P f N (x.bind km) G R (.inRegion ops (i :: rest) :: k) e s.w :=
 cl (e5_ t0).1 (e5_ t0).2.1 (e5_ t0).2.2.1 (e5_ t0).2.2.2.1 (e5_ t0).2.2.2.2 hg (e3_ t6).1 (e3_ t6).2.1 (e3_ t6).2.2 hc fun a v w' _ hq => by
  obtain ⟨f, ky⟩ := hq
  obtain ⟨s', rfl, p, n⟩ := nwx s w' cc ky
  exact h a v s' p (f.c n)
end
end Go.Proofs.YtcgbhldenkeplaaGreat.V
