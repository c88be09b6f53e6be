
import Derived.Test.YtcagjdngannneaaGreatVk
import Derived.Lib.AppendZerosOnto
import Derived.Laws.BytesString
set_option linter.unusedVariables false
set_option linter.unusedSimpArgs false
namespace Go.Proofs.YtcagjdngannneaaGreat.V
open Go
theorem zero_made (z : Array Value) (k : Nat) : Builtin.zeroCells z k = madeCells z (k * z.size) := rfl
section
variable {P : Program} {w : World}
theorem zeros_core {t tn te ty : TypeId} {n : Nat} {v : Value} {lx k : Nat} {cells : List Value} {os : List Nat} {kq kn : IntKind} {z : Value} (hT : SlT P t te n) (hz : (P.info? te).bind (·.zero) = some z) (htn : P.underlying tn = some (.int kn)) (hR : RowAt w te n v lx cells os) (h1 : ∀ u ∈ (Builtin.zeroCells z.cells k).toList, u.oneCell' = true) (hl : lx + k ≤ Lim) :
    ∃ v' w', (Builtin.append_ #[t, tn] ty #[v, .int kq k]).run P w = .ok v' w' ∧ RowAt w' te n v' (lx + k) (cells ++ (Builtin.zeroCells z.cells k).toList) (Value.blk v') ∧ w.grownBy w' v.ownBlock ∧ (∀ b ∈ Value.blk v', b ∈ os ∨ w.heap.size ≤ b) := by
  obtain ⟨hu, z', by_, hi, hzs, hn, hb⟩ := hT
  obtain ⟨ti, hti, hzz⟩ := Option.map_eq_some_iff.1 hi
  simp only [Prod.mk.injEq] at hzz
  obtain rfl : z' = z := by rw [hti] at hz; simp [hzz.1] at hz; exact hz
  have hown := hR.owns
  have hk : (k : Int) ≤ 9223372036854775807 := by unfold Lim at hl; omega
  have hw : IntKind.i64.wrap (k : Int) = k := by rw [IntKind.wrap_i64]; omega
  have hneg : ¬ ((k : Int) < 0) := by omega
  have hbk : k * ti.bytes ≤ 4294967296 * 32768 := Nat.mul_le_mul (by unfold Lim at hl; omega) (by rw [hzz.2.2]; exact hb)
  have h48i : ¬ (281474976710656 < (k : Int) * (ti.bytes : Int)) := by
    rw [← Int.natCast_mul]
    omega
  have hlen : (cells ++ (Builtin.zeroCells z'.cells k).toList).length = (lx + k) * n := by
    rw [List.length_append, hR.1, Array.length_toList, size_zeroCells, hzs, Nat.add_mul]
  by_cases hk0 : k = 0
  · subst hk0
    refine ⟨v, w, ?_, ?_, World.grownBy.refl _ _, ?_⟩
    · have hwz : IntKind.i64.wrap 0 = 0 := by rw [IntKind.wrap_i64]; omega
      rcases hown.2 with ⟨rfl, rfl⟩ | ⟨g, cap', cur, rfl, _, _, hnc, _⟩
      · simp [Builtin.append_, run_underlying hu, run_underlying htn, sizeOf, typeInfo, hti, asInt, asIntOf, hwz]
      · simp [Builtin.append_, run_underlying hu, run_underlying htn, sizeOf, typeInfo, hti, asInt, asIntOf, hwz, hnc, storeCells]
    · have : (Builtin.zeroCells z'.cells 0).toList = [] := by simp [Builtin.zeroCells]
      rw [this]
      simpa using RowAt.of_owns hown
    · intro b hb
      rcases hR.2 with ⟨rfl, _⟩ | ⟨g, cap', cur, rfl, _, _, _, _, _, e7⟩
      · cases hb
      · left; rw [e7]; exact hb
  · have hsz : ¬ (k * ti.size = 0) := Nat.mul_ne_zero hk0 (by rw [hzz.2.1]; omega)
    have h63 : lx + k ≤ maxLen := by unfold Lim at hl; simp only [maxLen]; omega
    have h63' : ((lx + k : Nat) : Int) ≤ 9223372036854775807 := by unfold Lim at hl; omega
    have hbytes : (lx + k) * ti.bytes ≤ 140737488355328 := by
      have : (lx + k) * ti.bytes ≤ 4294967296 * 32768 := Nat.mul_le_mul (by unfold Lim at hl; omega) (by rw [hzz.2.2]; exact hb)
      omega
    have grown : ∀ (old : Nat), old < lx + k → ∀ (row : Option Nat),
        RowAt (w.drew.alloc (.cells (cells.toArray ++ Builtin.zeroCells z'.cells k ++ Builtin.zeroCells z'.cells (grownCap w (lx + k) old te - (lx + k))) te)) te n
          (.slice (some ⟨w.heap.size, 0, none⟩) (lx + k) (grownCap w (lx + k) old te)) (lx + k) (cells ++ (Builtin.zeroCells z'.cells k).toList) [w.heap.size] ∧
        w.grownBy (w.drew.alloc (.cells (cells.toArray ++ Builtin.zeroCells z'.cells k ++ Builtin.zeroCells z'.cells (grownCap w (lx + k) old te - (lx + k))) te)) row := by
      intro old ho row
      have hge := grownCap_ge w (lx + k) old te
      have hcm : grownCap w (lx + k) old te ≤ maxLen := grownCap_le_maxLen w (lx + k) old te h63
      refine ⟨⟨hlen, .inr ⟨w.heap.size, _, _, rfl, heap_alloc_new w.drew _, hge, hcm, ?_, ?_, rfl⟩⟩, ⟨rfl, rfl, rfl, by simp, fun k hk _ => heap_alloc_old w.drew _ hk⟩⟩
      · simp only [Array.size_append, List.size_toArray, size_zeroCells, hzs, hR.1, ← Nat.add_mul]
        congr 1
        omega
      · simp only [Array.toList_append, List.append_assoc]
        rw [← List.append_assoc, ← hlen]
        exact List.take_left
    rcases hR.2 with ⟨rfl, rfl, rfl⟩ | ⟨g, cap, cur, rfl, hg, hnc, hcm, hcs, htake, rfl⟩
    · have hx : cells = [] := List.eq_nil_of_length_eq_zero (by simpa using hR.1)
      subst hx
      have hr := Lib.run_append_grow_zeros (P := P) w t tn ty te ti z' kq kn hu htn hti hzz.1 none 0 0 [] (by simp [Builtin.firstCells]) k (by omega) (by rw [hzz.2.1]; omega) (by omega) (by omega) (by omega) (growslice_fits (by omega) hbytes)
      have hgr := grown 0 (by omega) (Value.ownBlock (.slice none 0 0))
      exact ⟨_, _, hr, hgr.1, hgr.2, fun b hb => by simp [Value.blk] at hb; exact .inr (by omega)⟩
    · by_cases hroom : lx + k ≤ cap
      · have hfit : lx * n + (Builtin.zeroCells z'.cells k).toList.length ≤ cur.size := by rw [Array.length_toList, size_zeroCells, hzs, hcs, ← Nat.add_mul]; exact Nat.mul_le_mul_right _ hroom
        have hst := run_storeCells_at P g (lx * n) te (Builtin.zeroCells z'.cells k).toList 0 cur w hg (by simpa using hfit) h1
        simp only [Nat.add_zero] at hst
        refine ⟨.slice (some ⟨g, 0, none⟩) (lx + k) cap, w.setRow g (cur.toList.take (lx * n) ++ (Builtin.zeroCells z'.cells k).toList ++ cur.toList.drop (lx * n + (Builtin.zeroCells z'.cells k).toList.length)).toArray, ?_, ⟨hlen, .inr ⟨g, cap, _, rfl, setRow_heap w g cur _ te _ hg, hroom, hcm, ?_, ?_, rfl⟩⟩, ⟨rfl, rfl, rfl, by simp, fun k _ hk => setRow_other w g k _ (fun e => hk (by simp [Value.ownBlock, e]))⟩, fun b hb => .inl hb⟩
        · have hst' := hst
          rw [← hzz.2.1] at hst'
          have hzv : (zeroValue te).run P w = .ok z' w := zero_run hz
          simp [Builtin.append_, run_underlying hu, run_underlying htn, sizeOf, typeInfo, zeroValue, hti, hzz.1, asInt, asIntOf, hw, hneg, h48i, hroom, hsz, Addr.add_lit, hst']
          rw [hzz.2.1]
        · simp only [List.size_toArray, List.length_append, List.length_take, List.length_drop, Array.length_toList]
          rw [Array.length_toList] at hfit
          omega
        · rw [htake, ← hlen]
          exact List.take_left
      · have holds : ∀ j u, cells[j]? = some u → w.cell? ((⟨g, 0, none⟩ : Addr).add j) = some u := hown.cells (g := g) rfl
        have hfo := run_firstCells_some (P := P) w.drew n lx ⟨g, 0, none⟩ lx cap cells hR.1 (by simpa using holds)
        have hr := Lib.run_append_grow_zeros (P := P) w t tn ty te ti z' kq kn hu htn hti hzz.1 (some ⟨g, 0, none⟩) lx cap cells (by rw [hzz.2.1]; exact hfo) k (by omega) (by rw [hzz.2.1]; omega) (by omega) h63' (by omega) (growslice_fits (by omega) hbytes)
        have hgr := grown cap (by omega) (Value.ownBlock (.slice (some ⟨g, 0, none⟩) lx cap))
        exact ⟨_, _, hr, hgr.1, hgr.2, fun b hb => by simp [Value.blk] at hb; exact .inr (by omega)⟩
end
section
variable {P : Program} {f : FuncId} {N : Nat} {O ρ : Type} {m : Option O} {G : O → Option ρ} {R : ρ → Ending → World → Prop} {e : Env} {s : St} {k : List Item} {ops : Array Oper} {i d : Nat} {rest : List Nat} {o : Oper}
theorem apZ {α : Type} {K : Kd α} {t tn te : TypeId} {x y : Operand} {v : Value} {xs : List α} {c : Nat} {x0 : α} {z : Value} {kq kn : IntKind} {nn : Int} (hK : FlK K) (hT : SlT P t te K.n) (hz : (P.info? te).bind (·.zero) = some z) (h0 : ∀ w, K.ow w z.cells.toList x0 []) (htn : P.underlying tn = some (.int kn)) (hD : OwF (Kd.sl te K) s [v] xs c)
    (ho : ops[i]? = some o) (hd : o.dst = some d) (hN : Nat.blt d N = true) (hw : Region.wanted o (yv e ops) = true) (hop : o.op = .call { callee := .builtin .append, args := #[x, y], argTypes := #[t, tn] }) (hx : ev e x = v) (hy : ev e y = .int kq nn)
    (h : ∀ v' s', Stp [c] s s' → OwF (Kd.sl te K) s' [v'] (xs ++ List.replicate nn.toNat x0) c → TM P f N m G R (.inRegion ops rest :: k) (upd e d v') s'.w) :
    TM P f N (if 0 ≤ nn ∧ (xs.length : Int) + nn ≤ (Lim : Int) then m else none) G R (.inRegion ops (i :: rest) :: k) e s.w := by
  refine mg fun hg => ?_
  obtain ⟨l, rfl⟩ := Int.eq_ofNat_of_zero_le hg.1
  have hl : xs.length + l ≤ Lim := by have := hg.2; omega
  obtain ⟨os, ⟨v1, e1, cells, o1, o2, rfl, hR, hE⟩, hnd, hcol⟩ := hD
  obtain rfl : v = v1 := by simpa using e1
  have hzs : z.cells.size = K.n := by have := K.rd_len (K.ow_rd (h0 s.w)); simpa using this
  have hn : 0 < K.n := hT.2.choose_spec.choose_spec.2.2.1
  have hzE : ∀ w, ElsO K w (List.replicate l x0) (Builtin.zeroCells z.cells l).toList [] := fun w => by rw [zero_made, hzs]; exact made_els hzs hn h0 w l
  obtain ⟨v', w', hr, hR', hgr, hb⟩ := zeros_core (P := P) (ty := o.type) (kq := kq) (k := l) hT hz htn hR (hzE s.w).rd.one hl
  refine vl (v := v') (w' := w') ho hd hN hw (by simp [execOp, hop, resolve, invoke, builtin, hx, hy, hr, Result.andThen]) ?_
  have hp : ∃ s' : St, s'.w = w' ∧ Stp [c] s s' ∧ (∀ b, b < s.w.heap.size → s'.g b = s.g b) ∧ (∀ b, s.w.heap.size ≤ b → s'.g b = c) := by
    refine ⟨⟨w', fun b => if b < s.w.heap.size then s.g b else c⟩, rfl, ⟨hgr.os, hgr.tape, hgr.output, hgr.size, fun b hb _ => by simp [hb], fun b hb hm => ⟨by simp [hb], hgr.block b hb fun h => ?_⟩⟩, fun b hb => by simp [hb], fun b hb => ?_⟩
    · have := hcol b (List.mem_append_left _ (blk_own hR h.symm))
      rw [this] at hm; simp [memb] at hm
    · have : ¬ b < s.w.heap.size := by omega
      simp [this]
  obtain ⟨s', rfl, p, hold, hnew⟩ := hp
  simp only [Int.toNat_natCast] at h
  refine h v' s' p ⟨Value.blk v' ++ [], ⟨v', rfl, cells ++ (Builtin.zeroCells z.cells l).toList, Value.blk v', [], rfl, by rw [List.length_append, List.length_replicate]; exact hR', hK.els _ ((hE.rd.mono (F' := fun _ => True) fun _ _ _ => trivial).append ((hzE s.w).rd.mono (F' := fun _ => True) fun _ _ _ => trivial))⟩, ?_, fun b hb' => ?_⟩
  · unfold Value.blk; split <;> simp
  · simp at hb'
    rcases hb b hb' with h1 | h1
    · rw [hold b (hR.lt b h1)]; exact hcol b (List.mem_append_left _ h1)
    · exact hnew b h1
theorem cpn {t te : TypeId} {x : Operand} (hu : P.underlying t = some (.slice te))
    (ho : ops[i]? = some o) (hd : o.dst = some d) (hN : Nat.blt d N = true) (hw : Region.wanted o (yv e ops) = true) (hop : o.op = .call { callee := .builtin .cap, args := #[x], argTypes := #[t] }) (hx : ev e x = .slice none 0 0)
    (h : TM P f N m G R (.inRegion ops rest :: k) (upd e d (.int .i64 0)) s.w) : TM P f N m G R (.inRegion ops (i :: rest) :: k) e s.w :=
  vl ho hd hN hw (by simp [execOp, hop, resolve, invoke, builtin, Builtin.cap_, hx, run_underlying hu, goInt, Result.andThen]) h
theorem nlh {t te n : TypeId} {x q : Operand} {kk : IntKind} (hu : P.underlying t = some (.slice te)) (hs : (P.info? te).map (·.size) = some n)
    (ho : ops[i]? = some o) (hd : o.dst = some d) (hN : Nat.blt d N = true) (hw : Region.wanted o (yv e ops) = true) (hop : o.op = .slice t x none (some q) none) (hx : ev e x = .slice none 0 0) (hq : ev e q = .int kk 0)
    (h : TM P f N m G R (.inRegion ops rest :: k) (upd e d (.slice none 0 0)) s.w) : TM P f N m G R (.inRegion ops (i :: rest) :: k) e s.w := by
  have hcut := cut_run (P := P) (w := s.w) (A := none) (len := 0) (cap := 0) (a := 0) (b := 0) (lo := none) (hi := some (.int kk 0)) hu hs (Nat.le_refl _) (Nat.le_refl _) (.inl ⟨rfl, rfl⟩) (.inr ⟨kk, rfl⟩)
  exact vl ho hd hN hw (by simp [execOp, hop, hx, hq, hcut, Result.andThen]) h
theorem nq {α : Type} {t te : TypeId} {K : Kd α} {v : Value} {xs : List α} {C : List Nat} {x : Operand} {t2 : TypeId} (hF : RdF (Kd.sl te K) s [v] xs C) (hu : P.underlying t = some (.slice te))
    (ho : ops[i]? = some o) (hd : o.dst = some d) (hN : Nat.blt d N = true) (hw : Region.wanted o (yv e ops) = true) (hop : o.op = .binOp .eql t x (.const (.slice none 0 0)) t2) (hx : ev e x = v) (hK : Nat.ble 1 K.n = true)
    (h : ∀ b : Bool, (b = true → xs = []) → TM P f N m G R (.inRegion ops rest :: k) (upd e d (.bool b)) s.w) : TM P f N m G R (.inRegion ops (i :: rest) :: k) e s.w := by
  obtain ⟨v1, e1, A, cap, cells, hv, hcap, hels, hc⟩ := hF
  obtain rfl : v = v1 := by simpa using e1
  have hn := Nat.le_of_ble_eq_true hK
  refine vl (v := .bool A.isNone) ho hd hN hw ?_ (h _ fun hA => ?_)
  · have : (Op.equal t (.slice A xs.length cap) (.slice none 0 0)).run P s.w = .ok A.isNone s.w := by
      unfold Op.equal Op.maxDepth Op.equalIn
      rw [Sem.run_bind', run_underlying hu]
      cases A <;> simp [Result.andThen]
    have h2 : ev e (.const (.slice none 0 0)) = .slice none 0 0 := rfl
    simp only [execOp, hop, h2, hx, hv, binOp, eqGuard]
    simp [this, Result.andThen]
  · cases xs with
    | nil => rfl
    | cons x xs =>
      have hl := hels.len
      have : cells ≠ [] := by
        intro h
        rw [h, List.length_nil, List.length_cons, Nat.add_mul] at hl
        omega
      obtain ⟨ad, rfl, _⟩ := hc this
      cases hA
theorem cdb {c : Operand} {x y : Code} {b : Bool} {w : World} (hc : ev e c = .bool b) (h1 : b = true → TM P f N m G R (.code x :: k) e w) (h2 : b = false → TM P f N m G R (.code y :: k) e w) :
    TM P f N m G R (.code (.cond c x y) :: k) e w := by
  cases b with
  | true => exact cdt hc (h1 rfl)
  | false => exact cdf hc (h2 rfl)


def str (xs : List Int) : ByteArray := xs.foldl (fun r n => r.push (UInt8.ofNat n.toNat)) ByteArray.empty
theorem els_u8 {w : World} {F : Nat → Prop} : ∀ {xs : List Int} {cells : List Value}, ElsR (Kd.int .u8) w F xs cells → cells = xs.map (.int .u8)
  | [], cells, h => h
  | x :: xs, cells, ⟨c1, c2, e, h1, h2⟩ => by
    have h1' : c1 = [.int .u8 x] := h1
    rw [e, h1', els_u8 h2]; rfl
theorem b2s_run {t t2 te tg : TypeId} {v : Value} {xs : List Int} {C : List Nat} (hF : RdF (Kd.sl tg (Kd.int .u8)) s [v] xs C) (hu : P.underlying t = some (.slice te)) (hu2 : P.underlying t2 = some .string) (he : P.underlying te = some (.int .u8)) : (convert t t2 v).run P s.w = .ok (.string (str xs)) s.w := by
  obtain ⟨v1, e1, A, cap, cells, rfl, hcap, hels, hc⟩ := hF
  obtain rfl : v = .slice A xs.length cap := by simpa using e1
  have hcells : cells = xs.map (.int .u8) := els_u8 hels
  rw [run_convert_bytes_string s.w t t2 te A xs.length cap hu he hu2]
  cases A with
  | none =>
    have : xs = [] := by
      cases xs with
      | nil => rfl
      | cons x xs =>
        obtain ⟨ad, h, _⟩ := hc (by rw [hcells]; simp)
        cases h
    subst this
    simp [Conv.bytesToString, str]
  | some a =>
    refine run_bytesToString s.w a xs.length cap xs ?_
    have := hels.len
    by_cases hne : cells = []
    · have : xs = [] := by rw [hcells] at hne; simpa using hne
      subst this
      simp [loadCells, loadCellsFrom]
    · obtain ⟨ad, h, _, hcell⟩ := hc hne
      obtain rfl := Option.some.inj h
      rw [hcells] at hcell
      have := run_loadCells_list (P := P) s.w a (xs.map (Value.int .u8)) hcell
      simpa using this
theorem b2s {t t2 te tg : TypeId} {v : Value} {xs : List Int} {C : List Nat} {x : Operand} (hF : RdF (Kd.sl tg (Kd.int .u8)) s [v] xs C) (hu : P.underlying t = some (.slice te)) (hu2 : P.underlying t2 = some .string) (he : P.underlying te = some (.int .u8))
    (ho : ops[i]? = some o) (hd : o.dst = some d) (hN : Nat.blt d N = true) (hw : Region.wanted o (yv e ops) = true) (hop : o.op = .convert t t2 x) (hx : ev e x = v)
    (h : TM P f N m G R (.inRegion ops rest :: k) (upd e d (.string (str xs))) s.w) : TM P f N m G R (.inRegion ops (i :: rest) :: k) e s.w :=
  vl ho hd hN hw (by simp [execOp, hop, hx, b2s_run hF hu hu2 he, Result.andThen]) h
theorem b2s_q {t t2 te tg : TypeId} {v : Value} {xs : List Int} {C : List Nat} {x : Operand} (hF : RdF (Kd.sl tg (Kd.int .u8)) s [v] xs C) (hu : P.underlying t = some (.slice te)) (hu2 : P.underlying t2 = some .string) (he : P.underlying te = some (.int .u8))
    (ho : ops[i]? = some o) (hd : o.dst = some d) (hN : Nat.blt d N = true) (hw : Region.wanted o (yv e ops) = true) (hop : o.op = .convert t t2 x) (hx : ev e x = v) : Qv P N ops e s.w i d (.string (str xs)) :=
  ⟨o, ho, hd, hN, by simp only [selB, hop], .inl ⟨hw, by simp [execOp, hop, hx, b2s_run hF hu hu2 he, Result.andThen]⟩⟩
theorem slo {α : Type} {K : Kd α} {t te : TypeId} {v : Value} {xs : List α} {c : Nat} {x q : Operand} {k2 : IntKind} {b : Int} (hK : FlK K) (hF : OwF (Kd.sl te K) s [v] xs c) (hu : P.underlying t = some (.slice te)) (hs : (P.info? te).map (·.size) = some K.n)
    (ho : ops[i]? = some o) (hd : o.dst = some d) (hN : Nat.blt d N = true) (hw : Region.wanted o (yv e ops) = true) (hop : o.op = .slice t x none (some q) none) (hx : ev e x = v) (hq : ev e q = .int k2 b)
    (h : ∀ v', OwF (Kd.sl te K) s [v'] (xs.take b.toNat) c → TM P f N m G R (.inRegion ops rest :: k) (upd e d v') s.w) : TM P f N (if 0 ≤ b ∧ b ≤ xs.length then m else none) G R (.inRegion ops (i :: rest) :: k) e s.w := by
  refine mg fun hg => ?_
  obtain ⟨b, rfl⟩ := Int.eq_ofNat_of_zero_le hg.1
  have hb : b ≤ xs.length := by have := hg.2; omega
  obtain ⟨os, ⟨v1, e1, cells, o1, o2, rfl, hR, hE⟩, hnd, hcol⟩ := hF
  obtain rfl : v = v1 := by simpa using e1
  have hE2 := hE.rd.take b
  simp only [Int.toNat_natCast] at h
  have hlt : (xs.take b).length = b := by simp; omega
  rcases hR.2 with ⟨rfl, h2, rfl⟩ | ⟨g, cap, cur, rfl, hg2, hnc, hcm, hcs, htake, rfl⟩
  · have hb0 : b = 0 := by omega
    subst hb0
    have hcut := cut_run (P := P) (w := s.w) (A := none) (len := 0) (cap := 0) (a := 0) (b := 0) (lo := none) (hi := some (.int k2 ((0 : Nat) : Int))) hu hs (Nat.le_refl _) (Nat.le_refl _) (.inl ⟨rfl, rfl⟩) (.inr ⟨k2, rfl⟩)
    refine vl ho hd hN hw (by simp only [execOp, hop, hx, Option.map_none, Option.map_some, hq]; rw [Sem.run_bind', hcut]; rfl) (h _ ?_)
    exact ow_nil te K s c
  · have hcut := cut_run (P := P) (w := s.w) (A := some ⟨g, 0, none⟩) (len := xs.length) (cap := cap) (a := 0) (b := b) (lo := none) (hi := some (.int k2 (b : Int))) hu hs (Nat.zero_le _) (by omega) (.inl ⟨rfl, rfl⟩) (.inr ⟨k2, rfl⟩)
    refine vl ho hd hN hw (by simp only [execOp, hop, hx, Option.map_none, Option.map_some, hq]; rw [Sem.run_bind', hcut]; rfl) (h _ ?_)
    have hA : (if cap = 0 then some (⟨g, 0, none⟩ : Addr) else Option.map (fun a : Addr => a.add (0 * K.n)) (some ⟨g, 0, none⟩)) = some ⟨g, 0, none⟩ := by
      split
      · rfl
      · simp [add_zero]
    rw [hA, Nat.sub_zero, Nat.sub_zero]
    refine ⟨[g] ++ [], ⟨_, rfl, cells.take (b * K.n), [g], [], rfl, ?_, hK.els _ hE2⟩, by simp, fun b' hb' => hcol b' (by simp at hb'; simp [hb'])⟩
    have hmul : b * K.n ≤ xs.length * K.n := Nat.mul_le_mul_right _ hb
    rw [hlt]
    refine ⟨by rw [List.length_take, hR.1]; omega, .inr ⟨g, cap, cur, rfl, hg2, by omega, hcm, hcs, ?_, rfl⟩⟩
    rw [← htake, List.take_take]
    congr 1
    omega
end
end Go.Proofs.YtcagjdngannneaaGreat.V
