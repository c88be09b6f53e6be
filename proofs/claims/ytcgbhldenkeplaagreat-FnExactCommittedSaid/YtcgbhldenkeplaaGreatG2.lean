import Derived.Test.YtcgbhldenkeplaaGreatG1
import Derived.Lib.AppendZerosOnto
import Derived.Laws.BytesString
import Derived.ChangeArms
import Derived.DataReads
import Derived.WideShapes
import Derived.Laws.StructEq
import Derived.Laws.FloatArith
import Derived.MapKept
import Derived.Carry
import Derived.RangeFuncRecord
import Derived.Lib.ConvBytes
set_option linter.unusedVariables false
set_option linter.unusedSimpArgs false
namespace Go.Proofs.YtcgbhldenkeplaaGreat.V
open Go
theorem zero_made (z : Array Value) (k : Nat) : Builtin.zeroCells z k = madeCells z (k * z.size) := rfl
section
variable {P : Program} {w : World}
theorem zeros_core {t tn te ty : TypeId} {n : Nat} {v : Value} {lx k : Nat} {cells : List Value} {os : List Nat} {kq kn : IntKind} {z : Value} (hT : SlT P t te n) (hz : (P.info? te).bind (·.zero) = some z) (htn : P.underlying tn = some (.int kn)) (hR : RowAt w te n v lx cells os) (h1 : ∀ u ∈ (Builtin.zeroCells z.cells k).toList, u.oneCell' = true) (hl : lx + k ≤ Lim) :
    ∃ v' w', (Builtin.append_ #[t, tn] ty #[v, .int kq k]).run P w = .ok v' w' ∧ RowAt w' te n v' (lx + k) (cells ++ (Builtin.zeroCells z.cells k).toList) (Value.blk v') ∧ w.grownBy w' v.ownBlock ∧ (∀ b ∈ Value.blk v', b ∈ os ∨ w.heap.size ≤ b) := by
  obtain ⟨hu, z', by_, hi, hzs, hn, hb⟩ := hT
  obtain ⟨ti, hti, hzz⟩ := Option.map_eq_some_iff.1 hi
  simp only [Prod.mk.injEq] at hzz
  obtain rfl : z' = z := by rw [hti] at hz; simp [hzz.1] at hz; exact hz
  have hk : (k : Int) ≤ 9223372036854775807 := by unfold Lim at hl; omega
  have hw : IntKind.i64.wrap (k : Int) = k := by rw [IntKind.wrap_i64]; omega
  have hneg : ¬ ((k : Int) < 0) := by omega
  have hbk : k * ti.bytes ≤ 4294967296 * 32768 := Nat.mul_le_mul (by unfold Lim at hl; omega) (by rw [hzz.2.2]; exact hb)
  have h48i : ¬ (281474976710656 < (k : Int) * (ti.bytes : Int)) := by
    rw [← Int.natCast_mul]
    omega
  have hlen : (cells ++ (Builtin.zeroCells z'.cells k).toList).length = (lx + k) * n := by
    rw [List.length_append, hR.1, Array.length_toList, size_zeroCells, hzs, Nat.add_mul]
  by_cases hk0 : k = 0
  · subst hk0
    refine ⟨v, w, ?_, ?_, World.grownBy.refl _ _, ?_⟩
    · have hwz : IntKind.i64.wrap 0 = 0 := by rw [IntKind.wrap_i64]; omega
      rcases hR.2 with ⟨rfl, rfl, _⟩ | ⟨g, cap', cur, rfl, _, hnc, _⟩
      · simp [Builtin.append_, run_underlying hu, run_underlying htn, sizeOf, typeInfo, hti, asInt, asIntOf, hwz]
      · simp [Builtin.append_, run_underlying hu, run_underlying htn, sizeOf, typeInfo, hti, asInt, asIntOf, hwz, hnc, storeCells]
    · have : (Builtin.zeroCells z'.cells 0).toList = [] := by simp [Builtin.zeroCells]
      rw [this]
      rcases hR.2 with ⟨rfl, h2, h3⟩ | ⟨g, cap', cur, rfl, h2, h3, h4, h5, h6, h7⟩
      · exact ⟨by simpa using hR.1, .inl ⟨rfl, by omega, rfl⟩⟩
      · exact ⟨by simpa using hR.1, .inr ⟨g, cap', cur, rfl, h2, h3, h4, h5, by simpa using h6, rfl⟩⟩
    · intro b hb
      rcases hR.2 with ⟨rfl, _⟩ | ⟨g, cap', cur, rfl, _, _, _, _, _, e7⟩
      · cases hb
      · left; rw [e7]; exact hb
  · have hsz : ¬ (k * ti.size = 0) := Nat.mul_ne_zero hk0 (by rw [hzz.2.1]; omega)
    have h63 : lx + k ≤ maxLen := by unfold Lim at hl; simp only [maxLen]; omega
    have h63' : ((lx + k : Nat) : Int) ≤ 9223372036854775807 := by unfold Lim at hl; omega
    have hbytes : (lx + k) * ti.bytes ≤ 140737488355328 := by
      have : (lx + k) * ti.bytes ≤ 4294967296 * 32768 := Nat.mul_le_mul (by unfold Lim at hl; omega) (by rw [hzz.2.2]; exact hb)
      omega
    have grown : ∀ (old : Nat), old < lx + k → ∀ (row : Option Nat),
        RowAt (w.drew.alloc (.cells (cells.toArray ++ Builtin.zeroCells z'.cells k ++ Builtin.zeroCells z'.cells (grownCap w (lx + k) old te - (lx + k))) te)) te n
          (.slice (some ⟨w.heap.size, 0, none⟩) (lx + k) (grownCap w (lx + k) old te)) (lx + k) (cells ++ (Builtin.zeroCells z'.cells k).toList) [w.heap.size] ∧
        w.grownBy (w.drew.alloc (.cells (cells.toArray ++ Builtin.zeroCells z'.cells k ++ Builtin.zeroCells z'.cells (grownCap w (lx + k) old te - (lx + k))) te)) row := by
      intro old ho row
      have hge := grownCap_ge w (lx + k) old te
      have hcm : grownCap w (lx + k) old te ≤ maxLen := grownCap_le_maxLen w (lx + k) old te h63
      refine ⟨⟨hlen, .inr ⟨w.heap.size, _, _, rfl, .mk (heap_alloc_new w.drew _), hge, hcm, ?_, ?_, rfl⟩⟩, ⟨rfl, rfl, rfl, by simp, fun k hk _ => heap_alloc_old w.drew _ hk⟩⟩
      · simp only [Array.size_append, List.size_toArray, size_zeroCells, hzs, hR.1, ← Nat.add_mul]
        congr 1
        omega
      · simp only [Array.toList_append, List.append_assoc]
        rw [← List.append_assoc, ← hlen]
        exact List.take_left
    rcases hR.2 with ⟨rfl, rfl, rfl⟩ | ⟨g, cap, cur, rfl, hg, hnc, hcm, hcs, htake, rfl⟩
    · have hx : cells = [] := List.eq_nil_of_length_eq_zero (by simpa using hR.1)
      subst hx
      have hr := Lib.run_append_grow_zeros (P := P) w t tn ty te ti z' kq kn hu htn hti hzz.1 none 0 0 [] (by simp [Builtin.firstCells]) k (by omega) (by rw [hzz.2.1]; omega) (by omega) (by omega) (by omega) (growslice_fits (by omega) hbytes)
      have hgr := grown 0 (by omega) (Value.ownBlock (.slice none 0 0))
      exact ⟨_, _, hr, hgr.1, hgr.2, fun b hb => by simp [Value.blk] at hb; exact .inr (by omega)⟩
    · by_cases hroom : lx + k ≤ cap
      · have hfit : lx * n + (Builtin.zeroCells z'.cells k).toList.length ≤ cur.size := by rw [Array.length_toList, size_zeroCells, hzs, hcs, ← Nat.add_mul]; exact Nat.mul_le_mul_right _ hroom
        have hst := storeCells_hr P g (lx * n) te (Builtin.zeroCells z'.cells k).toList 0 cur w hg (by simpa using hfit) h1
        simp only [Nat.add_zero] at hst
        refine ⟨.slice (some ⟨g, 0, none⟩) (lx + k) cap, w.setRow g (cur.toList.take (lx * n) ++ (Builtin.zeroCells z'.cells k).toList ++ cur.toList.drop (lx * n + (Builtin.zeroCells z'.cells k).toList.length)).toArray, ?_, ⟨hlen, .inr ⟨g, cap, _, rfl, hg.row3 _ _ (by simpa using hfit), hroom, hcm, ?_, ?_, rfl⟩⟩, ⟨rfl, rfl, rfl, by simp, fun k _ hk => setRow_other w g k _ (fun e => hk (by simp [Value.ownBlock, e]))⟩, fun b hb => .inl hb⟩
        · have hst' := hst
          rw [← hzz.2.1] at hst'
          have hzv : (zeroValue te).run P w = .ok z' w := zero_run hz
          simp [Builtin.append_, run_underlying hu, run_underlying htn, sizeOf, typeInfo, zeroValue, hti, hzz.1, asInt, asIntOf, hw, hneg, h48i, hroom, hsz, Addr.add_lit, hst']
          rw [hzz.2.1]
        · simp only [List.size_toArray, List.length_append, List.length_take, List.length_drop, Array.length_toList]
          rw [Array.length_toList] at hfit
          omega
        · rw [htake, ← hlen]
          exact List.take_left
      · have holds : ∀ j u, cells[j]? = some u → w.cell? ((⟨g, 0, none⟩ : Addr).add j) = some u := RowAt.at_ hR rfl
        have hfo := run_firstCells_some (P := P) w.drew n lx ⟨g, 0, none⟩ lx cap cells hR.1 (by simpa using holds)
        have hr := Lib.run_append_grow_zeros (P := P) w t tn ty te ti z' kq kn hu htn hti hzz.1 (some ⟨g, 0, none⟩) lx cap cells (by rw [hzz.2.1]; exact hfo) k (by omega) (by rw [hzz.2.1]; omega) (by omega) h63' (by omega) (growslice_fits (by omega) hbytes)
        have hgr := grown cap (by omega) (Value.ownBlock (.slice (some ⟨g, 0, none⟩) lx cap))
        exact ⟨_, _, hr, hgr.1, hgr.2, fun b hb => by simp [Value.blk] at hb; exact .inr (by omega)⟩
end
section
variable {P : Program} {f : Who} {N : Nat} {O ρ : Type} {m : Option O} {G : O → Option ρ} {R : ρ → Ending → World → Prop} {e : Env} {s : St} {k : List Item} {ops : Array Oper} {i d : Nat} {rest : List Nat} {o : Oper}
theorem apZ {α : Type} {K : Kd α} {t tn te : TypeId} {x y : Operand} {v : Value} {xs : List α} {c : Nat} {x0 : α} {z : Value} {kq kn : IntKind} {nn : Int} (hK : FlK K) (hT : SlT P t te K.n) (hz : (P.info? te).bind (·.zero) = some z) (h0 : ∀ w, K.ow w z.cells.toList x0 []) (htn : P.underlying tn = some (.int kn)) (hD : OwF (Kd.sl te K) s [v] xs c)
    (ho : ops[i]? = some o) (hd : o.dst = some d) (hN : Nat.blt d N = true) (hw : Region.wanted o (yv e ops) = true) (hop : o.op = .call { callee := .builtin .append, args := #[x, y], argTypes := #[t, tn] }) (hx : ev e x = v) (hy : ev e y = .int kq nn)
    (h : ∀ v' s', Stp [c] s s' → OwF (Kd.sl te K) s' [v'] (xs ++ List.replicate nn.toNat x0) c → TM P f N m G R (.inRegion ops rest :: k) (upd e d v') s'.w) :
    TM P f N (if 0 ≤ nn ∧ (xs.length : Int) + nn ≤ (Lim : Int) then m else none) G R (.inRegion ops (i :: rest) :: k) e s.w := by
  refine mg fun hg => ?_
  obtain ⟨l, rfl⟩ := Int.eq_ofNat_of_zero_le hg.1
  have hl : xs.length + l ≤ Lim := by have := hg.2; omega
  obtain ⟨os, ⟨v1, e1, cells, o1, o2, rfl, hR, hE⟩, hnd, hcol⟩ := hD
  obtain rfl : v = v1 := by simpa using e1
  have hzs : z.cells.size = K.n := by have := K.rd_len (K.ow_rd (h0 s.w)); simpa using this
  have hn : 0 < K.n := hT.2.choose_spec.choose_spec.2.2.1
  have hzE : ∀ w, ElsO K w (List.replicate l x0) (Builtin.zeroCells z.cells l).toList [] := fun w => by rw [zero_made, hzs]; exact made_els hzs hn h0 w l
  obtain ⟨v', w', hr, hR', hgr, hb⟩ := zeros_core (P := P) (ty := o.type) (kq := kq) (k := l) hT hz htn hR (hzE s.w).rd.one hl
  refine vl (v := v') (w' := w') ho hd hN hw (by simp [execOp, hop, resolve, invoke, builtin, hx, hy, hr, Result.andThen]) ?_
  have hp : ∃ s' : St, s'.w = w' ∧ Stp [c] s s' ∧ (∀ b, b < s.w.heap.size → s'.g b = s.g b) ∧ (∀ b, s.w.heap.size ≤ b → s'.g b = c) := by
    refine ⟨⟨w', fun b => if b < s.w.heap.size then s.g b else c⟩, rfl, ⟨hgr.os, hgr.tape, hgr.output, hgr.size, fun b hb _ => by simp [hb], fun b hb hm => ⟨by simp [hb], hgr.block b hb fun h => ?_⟩⟩, fun b hb => by simp [hb], fun b hb => ?_⟩
    · have := hcol b (List.mem_append_left _ (blk_own hR h.symm))
      rw [this] at hm; simp [memb] at hm
    · have : ¬ b < s.w.heap.size := by omega
      simp [this]
  obtain ⟨s', rfl, p, hold, hnew⟩ := hp
  simp only [Int.toNat_natCast] at h
  refine h v' s' p ⟨Value.blk v' ++ [], ⟨v', rfl, cells ++ (Builtin.zeroCells z.cells l).toList, Value.blk v', [], rfl, by rw [List.length_append, List.length_replicate]; exact hR', hK.els _ ((hE.rd.mono (F' := fun _ => True) fun _ _ _ => trivial).append ((hzE s.w).rd.mono (F' := fun _ => True) fun _ _ _ => trivial))⟩, ?_, fun b hb' => ?_⟩
  · unfold Value.blk; split <;> simp
  · simp at hb'
    rcases hb b hb' with h1 | h1
    · rw [hold b (hR.lt b h1)]; exact hcol b (List.mem_append_left _ h1)
    · exact hnew b h1
theorem cpn {t te : TypeId} {x : Operand} (hu : P.underlying t = some (.slice te))
    (ho : ops[i]? = some o) (hd : o.dst = some d) (hN : Nat.blt d N = true) (hw : Region.wanted o (yv e ops) = true) (hop : o.op = .call { callee := .builtin .cap, args := #[x], argTypes := #[t] }) (hx : ev e x = .slice none 0 0)
    (h : TM P f N m G R (.inRegion ops rest :: k) (upd e d (.int .i64 0)) s.w) : TM P f N m G R (.inRegion ops (i :: rest) :: k) e s.w :=
  vl ho hd hN hw (by simp [execOp, hop, resolve, invoke, builtin, Builtin.cap_, hx, run_underlying hu, goInt, Result.andThen]) h
theorem nlh {t te n : TypeId} {x q : Operand} {kk : IntKind} (hu : P.underlying t = some (.slice te)) (hs : (P.info? te).map (·.size) = some n)
    (ho : ops[i]? = some o) (hd : o.dst = some d) (hN : Nat.blt d N = true) (hw : Region.wanted o (yv e ops) = true) (hop : o.op = .slice t x none (some q) none) (hx : ev e x = .slice none 0 0) (hq : ev e q = .int kk 0)
    (h : TM P f N m G R (.inRegion ops rest :: k) (upd e d (.slice none 0 0)) s.w) : TM P f N m G R (.inRegion ops (i :: rest) :: k) e s.w := by
  have hcut := cut_run (P := P) (w := s.w) (A := none) (len := 0) (cap := 0) (a := 0) (b := 0) (lo := none) (hi := some (.int kk 0)) hu hs (Nat.le_refl _) (Nat.le_refl _) (.inl ⟨rfl, rfl⟩) (.inr ⟨kk, rfl⟩)
  exact vl ho hd hN hw (by simp [execOp, hop, hx, hq, hcut, Result.andThen]) h
theorem nq {α : Type} {t te : TypeId} {K : Kd α} {v : Value} {xs : List α} {C : List Nat} {x : Operand} {t2 : TypeId} (hF : RdF (Kd.sl te K) s [v] xs C) (hu : P.underlying t = some (.slice te))
    (ho : ops[i]? = some o) (hd : o.dst = some d) (hN : Nat.blt d N = true) (hw : Region.wanted o (yv e ops) = true) (hop : o.op = .binOp .eql t x (.const (.slice none 0 0)) t2) (hx : ev e x = v) (hK : Nat.ble 1 K.n = true)
    (h : ∀ b : Bool, (b = true → xs = []) → TM P f N m G R (.inRegion ops rest :: k) (upd e d (.bool b)) s.w) : TM P f N m G R (.inRegion ops (i :: rest) :: k) e s.w := by
  obtain ⟨v1, e1, A, cap, cells, hv, hcap, hels, hc⟩ := hF
  obtain rfl : v = v1 := by simpa using e1
  have hn := Nat.le_of_ble_eq_true hK
  refine vl (v := .bool A.isNone) ho hd hN hw ?_ (h _ fun hA => ?_)
  · have : (Op.equal t (.slice A xs.length cap) (.slice none 0 0)).run P s.w = .ok A.isNone s.w := by
      unfold Op.equal Op.maxDepth Op.equalIn
      rw [Sem.run_bind', run_underlying hu]
      cases A <;> simp [Result.andThen]
    have h2 : ev e (.const (.slice none 0 0)) = .slice none 0 0 := rfl
    simp only [execOp, hop, h2, hx, hv, binOp, eqGuard]
    simp [this, Result.andThen]
  · cases xs with
    | nil => rfl
    | cons x xs =>
      have hl := hels.len
      have : cells ≠ [] := by
        intro h
        rw [h, List.length_nil, List.length_cons, Nat.add_mul] at hl
        omega
      obtain ⟨ad, rfl, _⟩ := hc this
      cases hA
theorem cdb {c : Operand} {x y : Code} {b : Bool} {w : World} (hc : ev e c = .bool b) (h1 : b = true → TM P f N m G R (.code x :: k) e w) (h2 : b = false → TM P f N m G R (.code y :: k) e w) :
    TM P f N m G R (.code (.cond c x y) :: k) e w := by
  cases b with
  | true => exact cdt hc (h1 rfl)
  | false => exact cdf hc (h2 rfl)
def str (xs : List Int) : ByteArray := xs.foldl (fun r n => r.push (UInt8.ofNat n.toNat)) ByteArray.empty
theorem els_u8 {w : World} {F : Nat → Prop} : ∀ {xs : List Int} {cells : List Value}, ElsR (Kd.int .u8) w F xs cells → cells = xs.map (.int .u8)
 | [], cells, h => h
 | x :: xs, cells, ⟨c1, c2, e, h1, h2⟩ => by
  have h1' : c1 = [.int .u8 x] := h1
  rw [e, h1', els_u8 h2]; rfl
theorem b2s_run {t t2 te tg : TypeId} {v : Value} {xs : List Int} {C : List Nat} (hF : RdF (Kd.sl tg (Kd.int .u8)) s [v] xs C) (hu : P.underlying t = some (.slice te)) (hu2 : P.underlying t2 = some .string) (he : P.underlying te = some (.int .u8)) : (convert t t2 v).run P s.w = .ok (.string (str xs)) s.w := by
 obtain ⟨v1, e1, A, cap, cells, rfl, hcap, hels, hc⟩ := hF
 obtain rfl : v = .slice A xs.length cap := by simpa using e1
 have hcells : cells = xs.map (.int .u8) := els_u8 hels
 rw [run_convert_bytes_string s.w t t2 te A xs.length cap hu he hu2]
 cases A with
 | none =>
  have : xs = [] := by
   cases xs with
   | nil => rfl
   | cons x xs =>
    obtain ⟨ad, h, _⟩ := hc (by rw [hcells]; simp)
    cases h
  subst this
  simp [Conv.bytesToString, str]
 | some a =>
  refine run_bytesToString s.w a xs.length cap xs ?_
  have := hels.len
  by_cases hne : cells = []
  · have : xs = [] := by rw [hcells] at hne; simpa using hne
    subst this
    simp [loadCells, loadCellsFrom]
  · obtain ⟨ad, h, _, hcell⟩ := hc hne
    obtain rfl := Option.some.inj h
    rw [hcells] at hcell
    have := run_loadCells_list (P := P) s.w a (xs.map (Value.int .u8)) hcell
    simpa using this
theorem b2s {t t2 te tg : TypeId} {v : Value} {xs : List Int} {C : List Nat} {x : Operand} (hF : RdF (Kd.sl tg (Kd.int .u8)) s [v] xs C) (hu : P.underlying t = some (.slice te)) (hu2 : P.underlying t2 = some .string) (he : P.underlying te = some (.int .u8))
    (ho : ops[i]? = some o) (hd : o.dst = some d) (hN : Nat.blt d N = true) (hw : Region.wanted o (yv e ops) = true) (hop : o.op = .convert t t2 x) (hx : ev e x = v)
    (h : TM P f N m G R (.inRegion ops rest :: k) (upd e d (.string (str xs))) s.w) : TM P f N m G R (.inRegion ops (i :: rest) :: k) e s.w :=
  vl ho hd hN hw (by simp [execOp, hop, hx, b2s_run hF hu hu2 he, Result.andThen]) h
theorem b2s_q {t t2 te tg : TypeId} {v : Value} {xs : List Int} {C : List Nat} {x : Operand} (hF : RdF (Kd.sl tg (Kd.int .u8)) s [v] xs C) (hu : P.underlying t = some (.slice te)) (hu2 : P.underlying t2 = some .string) (he : P.underlying te = some (.int .u8))
    (ho : ops[i]? = some o) (hd : o.dst = some d) (hN : Nat.blt d N = true) (hw : Region.wanted o (yv e ops) = true) (hop : o.op = .convert t t2 x) (hx : ev e x = v) : Qv P N ops e s.w i d (.string (str xs)) :=
  ⟨o, ho, hd, hN, by simp only [selB, hop], .inl ⟨hw, by simp [execOp, hop, hx, b2s_run hF hu hu2 he, Result.andThen]⟩⟩
theorem slo {α : Type} {K : Kd α} {t te : TypeId} {v : Value} {xs : List α} {c : Nat} {x q : Operand} {k2 : IntKind} {b : Int} (hK : FlK K) (hF : OwF (Kd.sl te K) s [v] xs c) (hu : P.underlying t = some (.slice te)) (hs : (P.info? te).map (·.size) = some K.n)
    (ho : ops[i]? = some o) (hd : o.dst = some d) (hN : Nat.blt d N = true) (hw : Region.wanted o (yv e ops) = true) (hop : o.op = .slice t x none (some q) none) (hx : ev e x = v) (hq : ev e q = .int k2 b)
    (h : ∀ v', OwF (Kd.sl te K) s [v'] (xs.take b.toNat) c → TM P f N m G R (.inRegion ops rest :: k) (upd e d v') s.w) : TM P f N (if 0 ≤ b ∧ b ≤ xs.length then m else none) G R (.inRegion ops (i :: rest) :: k) e s.w := by
  refine mg fun hg => ?_
  obtain ⟨b, rfl⟩ := Int.eq_ofNat_of_zero_le hg.1
  have hb : b ≤ xs.length := by have := hg.2; omega
  obtain ⟨os, ⟨v1, e1, cells, o1, o2, rfl, hR, hE⟩, hnd, hcol⟩ := hF
  obtain rfl : v = v1 := by simpa using e1
  have hE2 := hE.rd.take b
  simp only [Int.toNat_natCast] at h
  have hlt : (xs.take b).length = b := by simp; omega
  rcases hR.2 with ⟨rfl, h2, rfl⟩ | ⟨g, cap, cur, rfl, hg2, hnc, hcm, hcs, htake, rfl⟩
  · have hb0 : b = 0 := by omega
    subst hb0
    have hcut := cut_run (P := P) (w := s.w) (A := none) (len := 0) (cap := 0) (a := 0) (b := 0) (lo := none) (hi := some (.int k2 ((0 : Nat) : Int))) hu hs (Nat.le_refl _) (Nat.le_refl _) (.inl ⟨rfl, rfl⟩) (.inr ⟨k2, rfl⟩)
    refine vl ho hd hN hw (by simp only [execOp, hop, hx, Option.map_none, Option.map_some, hq]; rw [Sem.run_bind', hcut]; rfl) (h _ ?_)
    exact ow_nil te K s c
  · have hcut := cut_run (P := P) (w := s.w) (A := some ⟨g, 0, none⟩) (len := xs.length) (cap := cap) (a := 0) (b := b) (lo := none) (hi := some (.int k2 (b : Int))) hu hs (Nat.zero_le _) (by omega) (.inl ⟨rfl, rfl⟩) (.inr ⟨k2, rfl⟩)
    refine vl ho hd hN hw (by simp only [execOp, hop, hx, Option.map_none, Option.map_some, hq]; rw [Sem.run_bind', hcut]; rfl) (h _ ?_)
    have hA : (if cap = 0 then some (⟨g, 0, none⟩ : Addr) else Option.map (fun a : Addr => a.add (0 * K.n)) (some ⟨g, 0, none⟩)) = some ⟨g, 0, none⟩ := by
      split
      · rfl
      · simp [add_zero]
    rw [hA, Nat.sub_zero, Nat.sub_zero]
    refine ⟨[g] ++ [], ⟨_, rfl, cells.take (b * K.n), [g], [], rfl, ?_, hK.els _ hE2⟩, by simp, fun b' hb' => hcol b' (by simp at hb'; simp [hb'])⟩
    have hmul : b * K.n ≤ xs.length * K.n := Nat.mul_le_mul_right _ hb
    rw [hlt]
    refine ⟨by rw [List.length_take, hR.1]; omega, .inr ⟨g, cap, cur, rfl, hg2, by omega, hcm, hcs, ?_, rfl⟩⟩
    rw [← htake, List.take_take]
    congr 1
    omega
end
end Go.Proofs.YtcgbhldenkeplaaGreat.V
set_option linter.unusedVariables false
set_option linter.unusedSimpArgs false
namespace Go.Proofs.YtcgbhldenkeplaaGreat.V
open Go
def InK (k : IntKind) (x : Int) : Prop := k.min ≤ x ∧ x ≤ k.max
theorem InK.of {k : IntKind} {x : Int} (h : (Lit.int k x).wf = true) : InK k x := by
 simpa [Lit.wf, InK] using h
def okF (x : Nat) : Prop := cn x = x ∧ x < 18446744073709551616
structure Opn (P : Program) (t : TypeId) {α : Type} (K : Kd α) (ok : α → Prop) : Prop where
 op : ∀ {H : Type} {enc : TypeId × Value → H} {w : World} {base : Nat} {spare : Nat → Bool} {held : Bool} {fuel : Nat} {cs : List Value} {y : DataW H × List MemPlace}, DataW.trod enc P w base spare held fuel t cs = some y → ∃ x, K.rd w cs x (fun _ => True) ∧ ok x
section
variable {P : Program} {t : TypeId}
theorem tr_int {k : IntKind} (hu : P.underlying t = some (.int k)) : Opn P t (Kd.int k) (InK k) := ⟨fun h => by
 obtain ⟨n, rfl, _, hw⟩ := DataW.trod_int hu h
 exact ⟨n, rfl, InK.of hw⟩⟩
theorem tr_sl {e e' : TypeId} {α : Type} {K : Kd α} {ok : α → Prop} (hu : P.underlying t = some (.slice e)) (hn : P.cellsOf e = K.n) (he : Opn P e K ok) : Opn P t (Kd.sl e' K) (fun xs => xs.length ≤ maxLen ∧ ∀ x ∈ xs, ok x) := ⟨fun {_ enc w base spare held _ _ _} h => by
  rcases DataW.trod_slice hu h with ⟨rfl, _⟩ | ⟨a, len, cap, elems, rest, n, _, rfl, _, hb, hlc, hcm, hel, helem, _⟩
  · exact ⟨[], ⟨_, rfl, none, 0, [], rfl, Nat.le_refl _, rfl, fun h => absurd rfl h⟩, by simp, by simp⟩
  · have key : ∀ m, m ≤ len → ∃ (xs : List α) (cells : List Value), xs.length = m ∧ ElsR K w (fun _ => True) xs cells ∧ (∀ x ∈ xs, ok x) ∧ ∀ j u, cells[j]? = some u → w.cell? (a.add j) = some u := by
      intro m
      induction m with
      | zero => intro _; exact ⟨[], [], rfl, rfl, by simp, by simp⟩
      | succ m ih =>
        intro hm
        obtain ⟨xs, cells, hl, hE, hok, hc⟩ := ih (by omega)
        have hi := helem m (by omega)
        have hlt : m < elems.length := by omega
        rw [List.getElem?_eq_getElem hlt] at hi
        obtain ⟨cs, hcs, ht⟩ := Option.bind_eq_some_iff.1 hi
        obtain ⟨x, hx, hxo⟩ := he.op ht
        unfold World.cells? at hcs
        split at hcs
        · rename_i hbl
          have hlen := mapM_some_length hcs
          have hget := mapM_some_get hcs
          simp only [List.length_range] at hlen
          have hcl : cells.length = m * K.n := by rw [hE.len, hl]
          refine ⟨xs ++ [x], cells ++ cs, by simp [hl], hE.append ⟨cs, [], by simp, hx, rfl⟩, ?_, fun j u hj => ?_⟩
          · intro z hz
            rcases List.mem_append.1 hz with hz | hz
            · exact hok z hz
            · simp at hz; subst hz; exact hxo
          · rw [List.getElem?_append] at hj
            split at hj
            · exact hc j u hj
            · rename_i hjl
              have hj2 : j - cells.length < P.cellsOf e := by
                have := (List.getElem?_eq_some_iff.1 hj).1
                omega
              have := hget (j - cells.length) (j - cells.length) (by simp [hj2])
              rw [hj, Addr.add_add', hn, ← hcl] at this
              rw [← this]
              congr 2
              omega
        · cases hcs
    obtain ⟨xs, cells, hl, hE, hok, hc⟩ := key len (Nat.le_refl _)
    refine ⟨xs, ⟨_, rfl, some a, cap, cells, by rw [hl], by omega, hE, fun _ => ⟨a, rfl, trivial, hc⟩⟩, by rw [hl]; exact Nat.le_trans hlc hcm, hok⟩⟩
structure OpF (P : Program) (l : List Field) (off : Nat) {α : Type} (K : Kd α) (ok : α → Prop) : Prop where
 op : ∀ {H : Type} {enc : TypeId × Value → H} {w : World} {base : Nat} {spare : Nat → Bool} {held : Bool} {fuel : Nat} {cs : List Value}, cs.length = off + K.n →
  (∀ f ∈ l, ∃ y, DataW.trod enc P w base spare held fuel f.type ((cs.drop f.offset).take (P.cellsOf f.type)) = some y) → ∃ x, K.rd w (cs.drop off) x (fun _ => True) ∧ ok x
theorem tf_last {f : Field} {off : Nat} {α : Type} {K : Kd α} {ok : α → Prop} (ho : f.offset = off) (hn : P.cellsOf f.type = K.n) (h : Opn P f.type K ok) : OpF P [f] off K ok := ⟨fun hl hf => by
 obtain ⟨y, hy⟩ := hf f (by simp)
 rw [ho, hn, List.take_of_length_le (by simp; omega)] at hy
 exact h.op hy⟩
theorem tf_cons {f : Field} {l : List Field} {off : Nat} {α β : Type} {A : Kd α} {B : Kd β} {ok1 : α → Prop} {ok2 : β → Prop} (ho : f.offset = off) (hn : P.cellsOf f.type = A.n) (h : Opn P f.type A ok1) (h2 : OpF P l (off + A.n) B ok2) :
    OpF P (f :: l) off (Kd.pair A B) (fun x => ok1 x.1 ∧ ok2 x.2) := ⟨fun {_ _ w _ _ _ _ cs} hl hf => by
  have hl' : cs.length = off + (A.n + B.n) := hl
  obtain ⟨y, hy⟩ := hf f (by simp)
  rw [ho, hn] at hy
  obtain ⟨x1, hx1, hok1⟩ := h.op hy
  obtain ⟨x2, hx2, hok2⟩ := h2.op (by omega) fun g hg => hf g (List.mem_cons_of_mem _ hg)
  refine ⟨(x1, x2), ⟨(cs.drop off).take A.n, cs.drop (off + A.n), ?_, hx1, hx2⟩, hok1, hok2⟩
  rw [← List.drop_drop, List.take_append_drop]⟩
theorem tr_st {fs : Array Field} {α : Type} {K : Kd α} {ok : α → Prop} (hu : P.underlying t = some (.struct fs)) (hn : P.cellsOf t = K.n) (h : OpF P fs.toList 0 K ok) : Opn P t K ok := ⟨fun {_ _ _ _ _ _ _ cs _} hy => by
 obtain ⟨xs, n, _, _, hl, hx, hf⟩ := DataW.trod_struct hu hy
 have := h.op (cs := cs) (by rw [hl, hn]; simp) fun f hm => by
  obtain ⟨i, hi, rfl⟩ := List.getElem_of_mem hm
  simp only [Array.length_toList, Array.getElem_toList] at hi ⊢
  refine ⟨xs[i]'(by omega), ?_⟩
  rw [hf i fs[i] (Array.getElem?_eq_getElem hi), List.getElem?_eq_getElem (by omega)]
 simpa using this⟩
theorem tr_iso {α β : Type} {K : Kd α} {ok : α → Prop} (g : β → α) (mk : α → β) (hg : ∀ x, g (mk x) = x) (h : Opn P t K ok) : Opn P t (Kd.iso K g) (fun b => ok (g b)) := ⟨fun hy => by
 obtain ⟨x, hx, hok⟩ := h.op hy
 refine ⟨mk x, ?_, by show ok (g (mk x)); rw [hg]; exact hok⟩
 show K.rd _ _ (g (mk x)) _
 rw [hg]; exact hx⟩
end
theorem top_rd {α : Type} {K : Kd α} {w : World} {cs : List Value} {x : α} (h : K.rd w cs x (fun _ => True)) : RdF K ⟨w, fun _ => 0⟩ cs x [0] := K.rd_mono h fun _ _ _ => rfl
theorem rd_top {α : Type} {K : Kd α} {w : World} {cs : List Value} {x : α} {C : List Nat} (h : RdF K ⟨w, fun _ => 0⟩ cs x C) : K.rd w cs x (fun _ => True) := K.rd_mono h fun _ _ _ => trivial
end Go.Proofs.YtcgbhldenkeplaaGreat.V
set_option linter.unusedVariables false
set_option linter.unusedSimpArgs false
namespace Go.Proofs.YtcgbhldenkeplaaGreat.V
open Go
def BlW (w : World) (b : Nat) (t : TypeId) (cs : List Value) : Prop := w.heap[b]? = some (.cells cs.toArray t (0, 0))
def BlN (w w' : World) (b : Nat) (t : TypeId) (cs : List Value) : Prop := w.heap.size ≤ b ∧ BlW w' b t cs
theorem Z1.bl {F : Nat → Prop} {os : List Nat} {s : St} (z : Z1 F os s) {b : Nat} {t : TypeId} {cs : List Value} (h : BlW s.w b t cs) (hb : b ∈ os) : BlF s b t cs 2 := ⟨h, (z.o b).1 hb⟩
theorem BlF.fo {s0 s : St} {b c : Nat} {t : TypeId} {cs : List Value} (h : BlF s b t cs c) (p : Kp s0 s) (hc : Nat.ble 40 c = true) (hz : ∀ b, s0.g b < 40) : BlN s0.w s.w b t cs := by
 refine ⟨?_, h.1⟩
 by_cases hl : b < s0.w.heap.size
 · have := p.col b hl (hz b)
   have h3 := hz b
   have := Nat.le_of_ble_eq_true hc
   have := h.2
   omega
 · omega
theorem BlF.w {s : St} {b c : Nat} {t : TypeId} {cs : List Value} (h : BlF s b t cs c) : BlW s.w b t cs := h.1
theorem BlN.c {s s' : St} {b c : Nat} {t : TypeId} {cs : List Value} (h : BlN s.w s'.w b t cs) (n : Nw s s' c) : BlF s' b t cs c := ⟨h.2, n.new b h.1⟩
def FRF {α : Type} (K : Kd α) (F : Nat → Prop) (w w' : World) (cs : List Value) (x : α) : Prop := K.rd w' cs x (fun b => F b ∧ b < w.heap.size)
theorem FRF.c {α : Type} {K : Kd α} {s s' : St} {cs : List Value} {x : α} {c : Nat} {C : List Nat} (h : FRF K (fun b => memb C (s.g b) = true) s.w s'.w cs x) (n : Nw s s' c) : RdF K s' cs x C :=
 K.rd_mono h fun b hb _ => by rw [n.old b hb.2]; exact hb.1
end Go.Proofs.YtcgbhldenkeplaaGreat.V
set_option linter.unusedVariables false
set_option linter.unusedSimpArgs false
namespace Go.Proofs.YtcgbhldenkeplaaGreat.V
open Go
section
variable {P : Program} {d : Nat} {xs ys : Array Value} {f : Field} {fs : List Field} {a b : Value} {r s : Bool} {w : World}
end
section
variable {P : Program} {f : Who} {N : Nat} {O ρ : Type} {m : Option O} {G : O → Option ρ} {R : ρ → Ending → World → Prop} {e : Env} {s : St} {k : List Item} {ops : Array Oper} {i d : Nat} {rest : List Nat} {o : Oper}
end
end Go.Proofs.YtcgbhldenkeplaaGreat.V
set_option linter.unusedVariables false
set_option linter.unusedSimpArgs false
namespace Go.Proofs.YtcgbhldenkeplaaGreat.V
open Go
def CallV (P : Program) (fv : Value) (args : List Value) (w : World) (R : Ending → World → Prop) : Prop :=
 ∃ g fn c fs cs, fv = .func (.func g) (List.toArray fs) (List.toArray cs) ∧ P.funcs[g]? = some fn ∧ fn.body = some c ∧ (fn.name == "runtime.NumGoroutine") = false ∧ Calls P g (List.toArray (fs ++ (args ++ cs))) w R
theorem Ky.trans {w w' w'' : World} (h : Ky [] w w') (h2 : Ky [] w' w'') : Ky [] w w'' :=
 ⟨h2.os.trans h.os, h2.tape.trans h.tape, h2.output.trans h.output, Nat.le_trans h.size h2.size, fun b hb _ => (h2.same b (Nat.lt_of_lt_of_le hb h.size) (by simp)).trans (h.same b hb (by simp))⟩
theorem RdF.top {α : Type} {K : Kd α} {s : St} {cs : List Value} {x : α} {C : List Nat} (h : RdF K s cs x C) : K.rd s.w cs x (fun _ => True) := K.rd_mono h fun _ _ _ => trivial
theorem RdF.ky {α : Type} {K : Kd α} {s : St} {cs : List Value} {x : α} {C : List Nat} {w' : World} (h : RdF K s cs x C) (k : Ky [] s.w w') : K.rd w' cs x (fun _ => True) :=
 K.rd_mono (K.rd_frame (K.rd_mono h fun b hb hl => (⟨hl, hb⟩ : b < s.w.heap.size ∧ memb C (s.g b) = true)) fun b hb _ => k.same b hb.1 (by simp)) fun _ _ _ => trivial
theorem BlF.ky {s : St} {b c : Nat} {t : TypeId} {cs : List Value} {w' : World} (h : BlF s b t cs c) (k : Ky [] s.w w') : BlW w' b t cs := by
 have hl : b < s.w.heap.size := (Array.getElem?_eq_some_iff.1 h.1).1
 unfold BlW; rw [k.same b hl (by simp)]; exact h.1
theorem Z0.b0 {F : Nat → Prop} {s : St} (z : Z0 F s) {b : Nat} {t : TypeId} {cs : List Value} (h : BlW s.w b t cs) (hF : F b) : BlF s b t cs 0 := ⟨h, (z.z b).1 hF⟩
theorem Z1.b0 {F : Nat → Prop} {os : List Nat} {s : St} (z : Z1 F os s) {b : Nat} {t : TypeId} {cs : List Value} (h : BlW s.w b t cs) (hF : F b) : BlF s b t cs 0 := ⟨h, (z.z b).1 hF⟩
section
variable {P : Program} {f : Who} {N : Nat} {O ρ : Type} {m : Option O} {G : O → Option ρ} {R : ρ → Ending → World → Prop} {e : Env} {w : World} {k : List Item} {ops : Array Oper}
theorem clv {α : Type} {x : Option α} {km : α → Option O} {i d : Nat} {rest : List Nat} {o : Oper} {y : Operand} {fv : Value} {args : Array Operand} {ts : Array TypeId} {vs : List Value} {Q : α → Value → World → Prop}
    (ho : ops[i]? = some o) (hd : o.dst = some d) (hN : Nat.blt d N = true) (hw : Region.wanted o (yv e ops) = true)
    (hop : o.op = .call { callee := .value y, args := args, argTypes := ts }) (hy : ev e y = fv) (hargs : args.toList.map (ev e) = vs)
    (hc : ∀ a, x = some a → CallV P fv vs w fun en w' => ∃ v, en = .returned v ∧ Q a v w')
    (h : ∀ a v w', x = some a → Q a v w' → TM P f N (km a) G R (.inRegion ops rest :: k) (upd e d v) w') : TM P f N (x.bind km) G R (.inRegion ops (i :: rest) :: k) e w := by
  intro oo hoo r hr
  obtain ⟨a, ha, hkm⟩ := Option.bind_eq_some_iff.1 hoo
  obtain ⟨g, fn, c, fs, cs, rfl', hg, hb, hn, hcalls⟩ := hc a ha
  have hn' : ¬ fn.name = "runtime.NumGoroutine" := by simpa using hn
  have hm : args.map (ev e) = vs.toArray := by rw [← hargs, ← Array.toList_map]
  have hrun : (execOp (ev e) o).run P w = .ok (.enter g (List.toArray (fs ++ (vs ++ cs)))) w := by
    simp [execOp, hop, resolve, hy, rfl', Deferred.ofValue, invoke, callFunc, hg, hb, hn', hm]
  refine T.call_core (E := fun v => upd e d v) ho hw (fun a' ha' v => by rw [hd]; exact ha'.put d hN v) hrun hcalls ?_
  rintro en w' ⟨v, rfl, hQ⟩
  exact ⟨v, rfl, h a v w' ha hQ oo hkm r hr⟩
theorem mkf {i d g : Nat} {rest : List Nat} {o : Oper} {first cap : Array Operand} {fs cs : List Value} (ho : ops[i]? = some o) (hd : o.dst = some d) (hN : Nat.blt d N = true) (hw : Region.wanted o (yv e ops) = true) (hop : o.op = .makeFunc (.func g) first cap)
    (hf : first.toList.map (ev e) = fs) (hc : cap.toList.map (ev e) = cs)
    (h : TM P f N m G R (.inRegion ops rest :: k) (upd e d (.func (.func g) (List.toArray fs) (List.toArray cs))) w) : TM P f N m G R (.inRegion ops (i :: rest) :: k) e w :=
  vl ho hd hN hw (by
    have h1 : first.map (ev e) = fs.toArray := by rw [← hf, ← Array.toList_map]
    have h2 : cap.map (ev e) = cs.toArray := by rw [← hc, ← Array.toList_map]
    simp [execOp, hop, Instr.makeFunc, h1, h2]) h
theorem mx {i d : Nat} {rest : List Nat} {o : Oper} {x y : Operand} {ts : Array TypeId} {k1 k2 : IntKind} {a b : Int} (ho : ops[i]? = some o) (hd : o.dst = some d) (hN : Nat.blt d N = true) (hw : Region.wanted o (yv e ops) = true) (hop : o.op = .call { callee := .builtin .max, args := #[x, y], argTypes := ts }) (hx : ev e x = .int k1 a) (hy : ev e y = .int k2 b)
    (h : TM P f N m G R (.inRegion ops rest :: k) (upd e d (.int k1 (if b > a then b else a))) w) : TM P f N m G R (.inRegion ops (i :: rest) :: k) e w :=
  vl ho hd hN hw (by simp [execOp, hop, resolve, invoke, builtin, Builtin.max_, Builtin.max2, hx, hy, Result.andThen]) h
end
end Go.Proofs.YtcgbhldenkeplaaGreat.V
set_option linter.unusedVariables false
set_option linter.unusedSimpArgs false
namespace Go.Proofs.YtcgbhldenkeplaaGreat.V
open Go
section
variable {α β : Type} {A : Kd α} {B : Kd β} {s : St} {c1 c2 : List Value} {x : α} {y : β} {d : Nat}
theorem ow_l (h : ∀ w, A.ow w c1 x []) (h2 : OwF B s c2 y d) : OwF (Kd.pair A B) s (c1 ++ c2) (x, y) d := by
 obtain ⟨os, ho, hn, hc⟩ := h2
 exact ⟨os, ⟨c1, c2, [], os, rfl, rfl, h _, ho⟩, hn, hc⟩
theorem ow_2 {d' : Nat} (h : OwF A s c1 x d) (h2 : OwF B s c2 y d') (hd : Nat.beq d d' = false) (h10 : Nat.ble 40 d' = true) : ∃ s' : St, s.w = s'.w ∧ Stp [d'] s s' ∧ OwF (Kd.pair A B) s' (c1 ++ c2) (x, y) d := by
 have hdd : d ≠ d' := fun h => by subst h; simp at hd
 obtain ⟨os, ho, hn, hc⟩ := h
 obtain ⟨ps, po, pn, pc⟩ := h2
 refine ⟨⟨s.w, fun b => if s.g b = d' then d else s.g b⟩, rfl, ⟨rfl, rfl, rfl, Nat.le_refl _, fun b hb hl => ?_, fun b hb hm => ⟨?_, rfl⟩⟩, os ++ ps, ⟨c1, c2, os, ps, rfl, rfl, ho, po⟩, ?_, fun b hb => ?_⟩
 · have := Nat.le_of_ble_eq_true h10
   have : ¬ s.g b = d' := by omega
   simp [this]
 · have : ¬ s.g b = d' := fun h => by rw [h] at hm; simp [memb] at hm
   simp [this]
 · refine List.nodup_append.2 ⟨hn, pn, fun a ha b hb hab => ?_⟩
   subst hab
   exact hdd ((hc a ha).symm.trans (pc a hb))
 · rcases List.mem_append.1 hb with hb | hb
   · have := hc b hb
     by_cases h : s.g b = d' <;> simp [this]
   · simp [pc b hb]
end
theorem Xi (k : IntKind) (x : Int) : ∀ w, (Kd.int k).ow w [.int k x] x [] := fun _ => ⟨rfl, rfl⟩
theorem Ya {v : Value} {x : Nat} (h : FL v x) : ∀ w, Kd.flt.ow w [v] x [] := fun _ => ⟨⟨v, rfl, h⟩, rfl⟩
theorem fz_nil {α : Type} (e : TypeId) (K : Kd α) : ∀ w, (Kd.sl e K).ow w [.slice none 0 0] [] [] := fun _ => ⟨_, rfl, [], [], [], rfl, ⟨by simp, .inl ⟨rfl, rfl, rfl⟩⟩, ⟨rfl, rfl⟩⟩
theorem Xj {α β : Type} {A : Kd α} {B : Kd β} {c1 c2 : List Value} {x : α} {y : β} (h : ∀ w, A.ow w c1 x []) (h2 : ∀ w, B.ow w c2 y []) : ∀ w, (Kd.pair A B).ow w (c1 ++ c2) (x, y) [] := fun w => ⟨c1, c2, [], [], rfl, rfl, h w, h2 w⟩
theorem fz_iso {α γ : Type} {A : Kd α} {c1 : List Value} (g : γ → α) (z : γ) (h : ∀ w, A.ow w c1 (g z) []) : ∀ w, (Kd.iso A g).ow w c1 z [] := h
theorem Yd {α γ : Type} {A : Kd α} {s : St} {c1 : List Value} {d : Nat} (g : γ → α) (z : γ) (h : OwF A s c1 (g z) d) : OwF (Kd.iso A g) s c1 z d := h
theorem ow_z {α : Type} {A : Kd α} {c1 : List Value} {x : α} (s : St) (d : Nat) (h : ∀ w, A.ow w c1 x []) : OwF A s c1 x d := ⟨[], h _, List.nodup_nil, fun _ h => nomatch h⟩
def Lens {α β : Type} (K : Kd α) (A : Kd β) (q : Nat) (get : α → β) (set : α → β → α) : Prop :=
 ∀ w es x os, K.ow w es x os → ∃ u o1 o2 o3, es[q]? = some u ∧ os = o1 ++ (o2 ++ o3) ∧ A.ow w [u] (get x) o2 ∧
  ∀ w' y o2', A.ow w' [u] y o2' → Agr w w' (· ∈ o1 ++ o3) → K.ow w' es (set x y) (o1 ++ (o2' ++ o3))
theorem ln_sl {α : Type} {e : TypeId} {K : Kd α} : Lens (Kd.sl e K) (Kd.sl e K) 0 (fun x => x) (fun _ y => y) := fun w es x os h => by
 obtain ⟨v, rfl, h⟩ := h
 exact ⟨v, [], os, [], rfl, by simp, ⟨v, rfl, h⟩, fun w' y o2' hy _ => by simpa using hy⟩
theorem ln_left {α β γ : Type} {K : Kd α} {B : Kd γ} {A : Kd β} {q : Nat} {get : α → β} {set : α → β → α} (h : Lens K A q get set) : Lens (Kd.pair K B) A q (fun p => get p.1) (fun p y => (set p.1 y, p.2)) := fun w es x os hx => by
 obtain ⟨c1, c2, p1, p2, rfl, rfl, h1, h2⟩ := hx
 obtain ⟨u, o1, o2, o3, e1, rfl, e3, e4⟩ := h w c1 x.1 p1 h1
 refine ⟨u, o1, o2, o3 ++ p2, ?_, by simp, e3, fun w' y o2' hy ha => ⟨c1, c2, o1 ++ (o2' ++ o3), p2, rfl, by simp, e4 w' y o2' hy fun b hb => ha b (by simp at hb ⊢; rcases hb with hb | hb <;> simp [hb]), B.ow_frame h2 fun b hb => ha b (by simp [hb])⟩⟩
 rw [List.getElem?_append_left (List.getElem?_eq_some_iff.1 e1).1]; exact e1
theorem ln_right {α β γ : Type} {K : Kd α} {B : Kd γ} {A : Kd β} {q : Nat} {get : α → β} {set : α → β → α} (h : Lens K A q get set) : Lens (Kd.pair B K) A (B.n + q) (fun p => get p.2) (fun p y => (p.1, set p.2 y)) := fun w es x os hx => by
 obtain ⟨c1, c2, p1, p2, rfl, rfl, h1, h2⟩ := hx
 obtain ⟨u, o1, o2, o3, e1, rfl, e3, e4⟩ := h w c2 x.2 p2 h2
 have hl := B.rd_len (B.ow_rd h1)
 refine ⟨u, p1 ++ o1, o2, o3, ?_, by simp, e3, fun w' y o2' hy ha => ⟨c1, c2, p1, o1 ++ (o2' ++ o3), rfl, by simp, B.ow_frame h1 fun b hb => ha b (by simp [hb]), e4 w' y o2' hy fun b hb => ha b (by simp at hb ⊢; rcases hb with hb | hb <;> simp [hb])⟩⟩
 rw [List.getElem?_append_right (by omega), hl, Nat.add_sub_cancel_left]; exact e1
theorem ln_iso {α β γ : Type} {K : Kd α} {A : Kd β} {q : Nat} {get : α → β} {set : α → β → α} (g : γ → α) (get' : γ → β) (set' : γ → β → γ) (h : Lens K A q get set) (hg : ∀ x, get (g x) = get' x) (hs : ∀ x y, set (g x) y = g (set' x y)) : Lens (Kd.iso K g) A q get' set' := fun w es x os hx => by
 obtain ⟨u, o1, o2, o3, e1, e2, e3, e4⟩ := h w es (g x) os hx
 refine ⟨u, o1, o2, o3, e1, e2, by rw [← hg]; exact e3, fun w' y o2' hy ha => ?_⟩
 have := e4 w' y o2' hy ha
 rw [hs] at this
 exact this
theorem focus {α β : Type} [Inhabited α] {K : Kd α} {A : Kd β} {q te : Nat} {get : α → β} {set : α → β → α} {s : St} {v u : Value} {xs : List α} {c : Nat} {ii : Int} {ad : Addr} {es : List Value} {C : List Nat} (L : Lens K A q get set) (hO : OwF (Kd.sl te K) s [v] xs c) (h0 : 0 ≤ ii) (h1 : ii < xs.length) (hA : IxA v K.n ii ad) (hC : CeF s ad es C) (hu : es[q]? = some u) (hqn : Nat.blt q K.n = true) :
    ∃ o2, A.ow s.w [u] (get (at_ xs ii)) o2 ∧ o2.Nodup ∧ (∀ b ∈ o2, s.g b = c) ∧ ∀ (w' : World) (y : β) (col : Nat), Ky o2 s.w w' → FW A o2 s.w w' [u] y →
      ∃ s' : St, s'.w = w' ∧ Stp [c] s s' ∧ OwF (Kd.sl te K) s' [v] (xs.set ii.toNat (set (at_ xs ii) y)) c := by
  obtain ⟨os, ⟨v1, e1, cells, o1, o2, rfl, hR, hE⟩, hnd, hcol⟩ := hO
  obtain rfl : v = v1 := by simpa using e1
  obtain ⟨Aa, l, cap, hv, rfl⟩ := hA
  have hi : ii.toNat < xs.length := by omega
  have hq : q < K.n := by simp [Nat.blt] at hqn; omega
  obtain ⟨hl, hR2⟩ := hR
  rcases hR2 with ⟨h2, _⟩ | ⟨g, cap', cur, h2, hg, hlc, hcm, hsz, htk, rfl⟩
  · rw [h2] at hv; cases hv
  · rw [h2] at hv
    simp only [Value.slice.injEq, Option.some.injEq] at hv
    obtain ⟨rfl, rfl, rfl⟩ := hv
    obtain ⟨p1, p2, p3, rfl, hK, hset⟩ := hE.at_ ii.toNat hi
    rw [at_eq xs ii hi]
    obtain ⟨u', r1, r2, r3, e1, rfl, e3, e4⟩ := L _ _ _ _ hK
    have hmul : (ii.toNat + 1) * K.n ≤ xs.length * K.n := Nat.mul_le_mul_right _ hi
    rw [Nat.add_mul] at hmul
    -- the cell is the one that was loaded
    have huu : u' = u := by
      have hcell := hC.2 q u hu
      rw [Addr.add_add', Addr.add_mid, Nat.zero_add] at hcell
      have hc2 : cells[ii.toNat * K.n + q]? = some u' := by
        rw [List.getElem?_take, if_pos hq, List.getElem?_drop] at e1
        exact e1
      rw [← htk, List.getElem?_take] at hc2
      split at hc2
      · have : s.w.cell? ⟨g, ii.toNat * K.n + q, none⟩ = cur[ii.toNat * K.n + q]? := hg.cell _
        rw [this, ← Array.getElem?_toList] at hcell
        rw [hcell] at hc2
        exact (Option.some.inj hc2).symm
      · cases hc2
    subst huu
    have hnd' := List.nodup_cons.1 (show (g :: (p1 ++ (r1 ++ (r2 ++ r3)) ++ p3)).Nodup from hnd)
    have hgn := hnd'.1
    have hn2 := hnd'.2
    have hgc := hcol g (by simp)
    refine ⟨r2, e3, ?_, fun b hb => hcol b (by simp [hb]), fun w' y col ky hfw => ?_⟩
    · have h3 := (List.nodup_append.1 hn2).1
      have h4 := (List.nodup_append.1 h3).2.1
      have h5 := (List.nodup_append.1 h4).2.1
      exact (List.nodup_append.1 h5).1
    · obtain ⟨o2', hy, hyn, hyf⟩ := hfw
      have hlt : ∀ b ∈ p1 ++ (r1 ++ (r2 ++ r3)) ++ p3, b < s.w.heap.size := fun b hb => hE.lt b hb
      have hgl : g < s.w.heap.size := hg.lt
      have hperm : (p1 ++ (r1 ++ (r2 ++ r3)) ++ p3).Nodup := hn2
      have hout : ∀ b, b ∈ p1 ++ r1 ++ r3 ++ p3 → b ∉ r2 := fun b hb hb2 => by
        have hc1 : (p1 ++ (r1 ++ (r2 ++ r3)) ++ p3).count b ≤ 1 := List.nodup_iff_count.1 hperm b
        have hc2 : 1 ≤ r2.count b := List.count_pos_iff.2 hb2
        have hc3 : 1 ≤ (p1 ++ r1 ++ r3 ++ p3).count b := List.count_pos_iff.2 hb
        simp only [List.count_append] at hc1 hc3
        omega
      have hsame : ∀ b, b ∈ p1 ++ r1 ++ r3 ++ p3 → w'.heap[b]? = s.w.heap[b]? := fun b hb => ky.same b (hlt b (by simp at hb ⊢; rcases hb with hb | hb | hb | hb <;> simp [hb])) (hout b hb)
      have hK' := e4 w' y o2' hy fun b hb _ => hsame b (by simp at hb ⊢; rcases hb with hb | hb <;> simp [hb])
      have hnew := hset w' _ _ _ hK' fun b hb _ => hsame b (by simp at hb ⊢; rcases hb with hb | hb <;> simp [hb])
      have hcells : cells.take (ii.toNat * K.n) ++ ((cells.drop (ii.toNat * K.n)).take K.n) ++ cells.drop ((ii.toNat + 1) * K.n) = cells := by
        rw [Nat.add_mul, Nat.one_mul, ← List.drop_drop, List.append_assoc, List.take_append_drop, List.take_append_drop]
      rw [hcells] at hnew
      have hgr2 : g ∉ r2 := fun h => hgn (by simp [h])
      refine ⟨⟨w', fun b => open Classical in if b < s.w.heap.size then s.g b else if b ∈ o2' then c else col⟩, rfl, ⟨ky.os, ky.tape, ky.output, ky.size, fun b hb _ => by simp [hb], fun b hb hm => ⟨by simp [hb], ky.same b hb fun h => ?_⟩⟩, [g] ++ (p1 ++ (r1 ++ (o2' ++ r3)) ++ p3), ⟨v, rfl, cells, [g], _, rfl, ⟨by rw [List.length_set]; exact hl, .inr ⟨g, cap', cur, by rw [List.length_set]; exact h2, hg.eq (ky.same g hgl hgr2), by simpa using hlc, hcm, hsz, by rw [List.length_set]; exact htk, rfl⟩⟩, hnew⟩, ?_, fun b hb => ?_⟩
      · have := hcol b (by simp [h])
        rw [this] at hm; simp [memb] at hm
      · rw [List.nodup_iff_count]
        intro b
        have c0 : (g :: (p1 ++ (r1 ++ (r2 ++ r3)) ++ p3)).count b ≤ 1 := List.nodup_iff_count.1 hnd b
        have c1 : o2'.count b ≤ 1 := List.nodup_iff_count.1 hyn b
        rw [List.count_cons] at c0
        simp only [List.singleton_append, List.count_cons, List.count_append] at c0 ⊢
        by_cases hb : b ∈ o2'
        · rcases hyf b hb with h | h
          · have : 1 ≤ r2.count b := List.count_pos_iff.2 h
            omega
          · have : ∀ l : List Nat, (∀ x ∈ l, x < s.w.heap.size) → l.count b = 0 := fun l hl => List.count_eq_zero.2 fun hm => by have := hl b hm; omega
            have q1 := this p1 fun x hx => hlt x (by simp [hx])
            have q2 := this r1 fun x hx => hlt x (by simp [hx])
            have q3 := this r3 fun x hx => hlt x (by simp [hx])
            have q4 := this p3 fun x hx => hlt x (by simp [hx])
            have q5 : (g == b) = false := by simp; omega
            rw [q1, q2, q3, q4, q5]
            simp; omega
        · have : o2'.count b = 0 := List.count_eq_zero.2 hb
          omega
      · dsimp only
        simp only [List.singleton_append, List.mem_cons, List.mem_append] at hb
        by_cases hl2 : b < s.w.heap.size
        · rw [if_pos hl2]
          rcases hb with rfl | (hb | hb | hb | hb) | hb
          · exact hgc
          · exact hcol b (by simp [hb])
          · exact hcol b (by simp [hb])
          · rcases hyf b hb with h | h
            · exact hcol b (by simp [h])
            · omega
          · exact hcol b (by simp [hb])
          · exact hcol b (by simp [hb])
        · rw [if_neg hl2]
          rcases hb with rfl | (hb | hb | hb | hb) | hb
          · exact absurd hgl hl2
          · exact absurd (hlt b (by simp [hb])) hl2
          · exact absurd (hlt b (by simp [hb])) hl2
          · rw [if_pos hb]
          · exact absurd (hlt b (by simp [hb])) hl2
          · exact absurd (hlt b (by simp [hb])) hl2
section
variable {P : Program} {f : Who} {N : Nat} {O ρ : Type} {m : Option O} {G : O → Option ρ} {R : ρ → Ending → World → Prop} {e : Env} {s : St} {k : List Item} {ops : Array Oper} {i d : Nat} {rest : List Nat} {o : Oper}
theorem nb {α : Type} {v : α} {km : α → Option O} {todo : List Item} {w : World} (h : ∀ y, y = v → TM P f N (km y) G R todo e w) : TM P f N ((some v).bind km) G R todo e w := h v rfl
theorem som {α : Type} [Inhabited α] {K : Kd α} {t te : TypeId} {x y : Operand} {v : Value} {vs : List Value} {xs : List α} {c d' : Nat} {ii : Int} {ad : Addr} {x' : α} (hO : OwF (Kd.sl te K) s [v] xs c) (hA : IxA v K.n ii ad) (h0 : 0 ≤ ii) (h1 : ii < xs.length) (hX : OwF K s vs x' d') (hcd : Nat.beq c d' = false) (h10 : Nat.ble 40 d' = true) (hs : (P.info? t).map (·.size) = some K.n)
    (ho : ops[i]? = some o) (hd : o.dst = none) (hw : Region.wanted o (yv e ops) = true) (hop : o.op = .store t x y) (hx : ev e x = .pointer (some ad)) (hy : (ev e y).cells = vs.toArray)
    (h : ∀ s', Stp [c, d'] s s' → OwF (Kd.sl te K) s' [v] (xs.set ii.toNat x') c → TM P f N m G R (.inRegion ops rest :: k) e s'.w) : TM P f N m G R (.inRegion ops (i :: rest) :: k) e s.w := by
  have hcd' : c ≠ d' := fun h => by subst h; simp at hcd
  obtain ⟨os, ⟨v1, e1, cells, o1, o2, rfl, hR, hE⟩, hnd, hcol⟩ := hO
  obtain rfl : v = v1 := by simpa using e1
  obtain ⟨ox, hxo, hxn, hxc⟩ := hX
  have hvl : vs.length = K.n := K.rd_len (K.ow_rd hxo)
  have hv1 : ∀ u ∈ vs, u.oneCell' = true := K.rd_one (K.ow_rd hxo)
  obtain ⟨Aa, l, cap, hv, rfl⟩ := hA
  have hi : ii.toNat < xs.length := by omega
  obtain ⟨hl, hR2⟩ := hR
  rcases hR2 with ⟨h2, _⟩ | ⟨g, cap', cur, h2, hg, hlc, hcm, hsz, htk, rfl⟩
  · rw [h2] at hv; cases hv
  · rw [h2] at hv
    simp only [Value.slice.injEq, Option.some.injEq] at hv
    obtain ⟨rfl, rfl, rfl⟩ := hv
    obtain ⟨p1, p2, p3, rfl, hK, hset⟩ := hE.at_ ii.toNat hi
    have hmul : (ii.toNat + 1) * K.n ≤ xs.length * K.n := Nat.mul_le_mul_right _ hi
    have hmul' := hmul
    rw [Nat.add_mul, Nat.one_mul] at hmul'
    have hcapm : xs.length * K.n ≤ cap' * K.n := Nat.mul_le_mul_right _ hlc
    have hgl : g < s.w.heap.size := hg.lt
    have hgc := hcol g (by simp)
    have hst := storeCells_hr P g (ii.toNat * K.n) te vs 0 cur s.w hg (by rw [hvl, hsz]; omega) hv1
    simp only [Nat.add_zero] at hst
    have had : (⟨g, 0, none⟩ : Addr).add (ii.toNat * K.n) = ⟨g, ii.toNat * K.n, none⟩ := by rw [Addr.add_mid, Nat.zero_add]
    rw [had] at hx
    have hrun : (Instr.storeAt t (.pointer (some ⟨g, ii.toNat * K.n, none⟩)) (ev e y)).run P s.w = .ok () (s.w.setRow g (cur.toList.take (ii.toNat * K.n) ++ vs ++ cur.toList.drop (ii.toNat * K.n + vs.length)).toArray) := by
      unfold Instr.storeAt
      rw [Sem.run_bind']
      simp only [Instr.sureAddr, Sem.run_pure, Result.andThen]
      unfold storeVar
      rw [Sem.run_bind', size_run hs]
      simp only [Result.andThen, hy]
      simp [hvl]
      simp [hvl] at hst
      exact hst
    have hd10 := Nat.le_of_ble_eq_true h10
    refine vd (w' := s.w.setRow g (cur.toList.take (ii.toNat * K.n) ++ vs ++ cur.toList.drop (ii.toNat * K.n + vs.length)).toArray) ho hd hw (by simp [execOp, hop, hx, hrun, Result.andThen]) (h ⟨_, fun b => if s.g b = d' then c else s.g b⟩ ⟨rfl, rfl, rfl, by simp, fun b hb hl => ?_, fun b hb hm => ?_⟩ ?_)
    · have : ¬ s.g b = d' := by omega
      simp [this]
    · simp only [memb, Bool.or_eq_false_iff] at hm
      have q1 : s.g b ≠ c := fun h => by rw [h] at hm; simp at hm
      have q2 : ¬ s.g b = d' := fun h => by rw [h] at hm; simp at hm
      refine ⟨by simp [q2], setRow_other s.w g b _ fun e => q1 (by rw [e]; exact hgc)⟩
    · have hnd' := List.nodup_cons.1 (show (g :: (p1 ++ p2 ++ p3)).Nodup from hnd)
      have hoth : ∀ b, b ≠ g → (s.w.setRow g (cur.toList.take (ii.toNat * K.n) ++ vs ++ cur.toList.drop (ii.toNat * K.n + vs.length)).toArray).heap[b]? = s.w.heap[b]? := fun b hb => setRow_other s.w g b _ hb
      have hgx : g ∉ ox := fun h => hcd' (hgc.symm.trans (hxc g h))
      have hK' := K.ow_frame hxo (w' := s.w.setRow g (cur.toList.take (ii.toNat * K.n) ++ vs ++ cur.toList.drop (ii.toNat * K.n + vs.length)).toArray) fun b hb _ => hoth b fun h => hgx (h ▸ hb)
      have hnew := hset _ vs x' ox hK' fun b hb _ => hoth b fun h => hnd'.1 (by subst h; simp at hb ⊢; rcases hb with hb | hb <;> simp [hb])
      refine ⟨[g] ++ (p1 ++ ox ++ p3), ⟨v, rfl, _, [g], _, rfl, ⟨?_, .inr ⟨g, cap', _, by rw [List.length_set]; exact h2, hg.row3 _ _ (by rw [hvl, hsz]; omega), by simpa using hlc, hcm, ?_, ?_, rfl⟩⟩, hnew⟩, ?_, fun b hb => ?_⟩
      · simp only [List.length_set, List.length_append, List.length_take, List.length_drop, hvl, hl]
        rw [Nat.add_mul, Nat.one_mul]; omega
      · simp only [List.size_toArray, List.length_append, List.length_take, List.length_drop, Array.length_toList, hvl, hsz]
        omega
      · rw [List.length_set, ← htk, hvl, Nat.add_mul, Nat.one_mul]
        have e2 : (cur.toList.take (xs.length * K.n)).take (ii.toNat * K.n) = cur.toList.take (ii.toNat * K.n) := by rw [List.take_take]; congr 1; omega
        have e3 : (cur.toList.take (xs.length * K.n)).drop (ii.toNat * K.n + K.n) = (cur.toList.drop (ii.toNat * K.n + K.n)).take (xs.length * K.n - (ii.toNat * K.n + K.n)) := by rw [List.drop_take]
        rw [e2, e3]
        have hla : (cur.toList.take (ii.toNat * K.n) ++ vs).length = ii.toNat * K.n + K.n := by
          rw [List.length_append, List.length_take, Array.length_toList, hvl, hsz]; omega
        rw [List.take_append, List.take_of_length_le (by omega), hla]
      · have hdj : ∀ b, b ∈ ox → b ∉ g :: (p1 ++ p2 ++ p3) := fun b hb hb2 => hcd' ((hcol b hb2).symm.trans (hxc b hb))
        rw [List.nodup_iff_count]
        intro b
        have c0 : (g :: (p1 ++ p2 ++ p3)).count b ≤ 1 := List.nodup_iff_count.1 hnd b
        have c1 : ox.count b ≤ 1 := List.nodup_iff_count.1 hxn b
        rw [List.count_cons] at c0
        simp only [List.singleton_append, List.count_cons, List.count_append] at c0 ⊢
        by_cases hb : b ∈ ox
        · have z0 : (g :: (p1 ++ p2 ++ p3)).count b = 0 := List.count_eq_zero.2 (hdj b hb)
          rw [List.count_cons] at z0
          simp only [List.count_append] at z0
          omega
        · have : ox.count b = 0 := List.count_eq_zero.2 hb
          omega
      · dsimp only
        simp only [List.singleton_append, List.mem_cons, List.mem_append] at hb
        rcases hb with rfl | (hb | hb) | hb
        · simp [hgc]
        · simp [hcol b (by simp [hb])]
        · simp [hxc b hb]
        · simp [hcol b (by simp [hb])]
end
end Go.Proofs.YtcgbhldenkeplaaGreat.V
set_option linter.unusedVariables false
set_option linter.unusedSimpArgs false
namespace Go.Proofs.YtcgbhldenkeplaaGreat.V
open Go
def far (op : BinOp) (x y : Nat) : Nat := (floatBits op .f64 x y).getD nanB
def fneg (x : Nat) : Nat := bif isN x then nanB else Op.negFloat .f64 x
theorem Xn {v : Value} {x : Nat} (h : FL v x) {s : St} : RdF Kd.flt s [v] x [] := ⟨v, rfl, h⟩
theorem cs_flt {v : Value} {x x' : Nat} (h : FL v x') : CellSet Kd.flt 0 v x x' :=
 ⟨Nat.one_pos, h.one, fun w cs os hh => by obtain ⟨⟨u, rfl, _⟩, rfl⟩ := hh; exact ⟨⟨v, rfl, h⟩, rfl⟩⟩
theorem fcmp_cn (a b : Nat) : fcmp .f64 (cn a) (cn b) = fcmp .f64 a b := order_cn a b
theorem fbin_cn (op : BinOp) (a b : Nat) : fbin op .f64 (cn a) (cn b) = fbin op .f64 a b := by
 unfold fbin
 simp only [fcmp_cn]
open Ieee in
theorem nan_ops (x y : Datum) (h : x.isNaN = true ∨ y.isNaN = true) : x.sum y = none ∧ x.product y = none ∧ ∀ d, x.quotient d y = none := by
 rcases h with h | h
 · cases x <;> first | cases h | skip
   refine ⟨rfl, ?_, fun d => ?_⟩ <;> cases y <;> rfl
 · cases y <;> first | cases h | skip
   refine ⟨?_, ?_, fun d => ?_⟩ <;> cases x <;> rfl
open Ieee in
theorem sum_notN {x y r : Datum} (h : x.sum y = some r) : r.isNaN = false := by
 cases x <;> cases y <;> simp only [Datum.sum] at h
 all_goals first
  | (cases h; rfl)
  | cases h
  | (split at h <;> first | (cases h; rfl) | cases h)
open Ieee in
theorem product_notN {x y r : Datum} (h : x.product y = some r) : r.isNaN = false := by
 cases x <;> cases y <;> simp only [Datum.product] at h
 all_goals first
  | (cases h; rfl)
  | cases h
  | (split at h <;> first | (cases h; rfl) | cases h)
open Ieee in
theorem quotient_notN {d : Nat} {x y r : Datum} (h : x.quotient d y = some r) : r.isNaN = false := by
  cases x <;> cases y <;> simp only [Datum.quotient] at h
  all_goals first
    | (cases h; rfl)
    | cases h
    | (split at h
       · first | (cases h; rfl) | cases h | (split at h <;> first | (cases h; rfl) | cases h)
       · cases h; rfl)
theorem read_opp (x : Ieee.Datum) : x.opposite.isNaN = x.isNaN := by cases x <;> rfl
theorem isN_read (b : Nat) : (D.read b).isNaN = isN b := by
 cases h : isN b with
 | true => obtain ⟨s, f, e⟩ := read_nan h; rw [e]; rfl
 | false =>
  unfold isN at h
  have h : ¬ 9218868437227405312 < b % 9223372036854775808 := of_decide_eq_false h
  rw [readD]
  split
  · rfl
  · split
    · rfl
    · rw [if_pos (by omega)]; rfl
theorem floatBits_cn (op : BinOp) (a b : Nat) : floatBits op .f64 (cn a) (cn b) = floatBits op .f64 a b := by
 have key : isN a = true ∨ isN b = true → ∀ a' b', (isN a' = isN a) → (isN b' = isN b) → floatBits op .f64 a' b' = none := by
  intro h a' b' ha hb
  have h' : (D.read a').isNaN = true ∨ (D.read b').isNaN = true := by rw [isN_read, isN_read, ha, hb]; exact h
  have h2 : (D.read a').isNaN = true ∨ (D.read b').opposite.isNaN = true := by rw [read_opp]; exact h'
  obtain ⟨k1, k2, k3⟩ := nan_ops _ _ h'
  obtain ⟨k4, _, _⟩ := nan_ops _ _ h2
  unfold floatBits
  cases op <;> simp only []
  · show ((D.read a').sum (D.read b')).map D.write = none; rw [k1]; rfl
  · show ((D.read a').sum (D.read b').opposite).map D.write = none; rw [k4]; rfl
  · show ((D.read a').product (D.read b')).map D.write = none; rw [k2]; rfl
  · show ((D.read a').quotient _ (D.read b')).map D.write = none; rw [k3]; rfl
 cases ha : isN a with
 | true => rw [key (.inl ha) _ _ (isN_cn a) (isN_cn b), key (.inl ha) _ _ rfl rfl]
 | false =>
  cases hb : isN b with
  | true => rw [key (.inr hb) _ _ (isN_cn a) (isN_cn b), key (.inr hb) _ _ rfl rfl]
  | false => rw [cn_of ha, cn_of hb]
theorem floatBits_notN {op : BinOp} {a b r : Nat} (h : floatBits op .f64 a b = some r) : isN r = false := by
 unfold floatBits at h
 have map : ∀ {d : Option Ieee.Datum}, d.map D.write = some r → (∀ e, d = some e → e.isNaN = false) → isN r = false := by
  intro d hd he
  cases d with
  | none => cases hd
  | some e => cases hd; exact write_notN e (he e rfl)
 cases op <;> simp only at h <;> first | (cases h; done) | skip
 · exact map h fun e he => sum_notN he
 · exact map h fun e he => sum_notN he
 · exact map h fun e he => product_notN he
 · exact map h fun e he => quotient_notN he
theorem FL.bits {v : Value} {x : Nat} (h : FL v x) (hn : isN x = false) : v = .float .f64 x := by
 obtain ⟨b, rfl, rfl⟩ := h
 rw [isN_cn] at hn
 rw [cn_of hn]
theorem far_run {P : Program} (w : World) {op : BinOp} (hop : op = .add ∨ op = .sub ∨ op = .mul ∨ op = .quo) (t : TypeId) (a b : Nat) :
    ∃ r n, (binOp op t (.float .f64 a) (.float .f64 b)).run P w = .ok (.float .f64 r) { w with drawn := n } ∧ cn r = far op (cn a) (cn b) := by
  unfold far
  rw [floatBits_cn]
  cases h : floatBits op .f64 a b with
  | some r =>
    refine ⟨r, w.drawn, ?_, ?_⟩
    · rw [run_float_arith w op t .f64 a b r h]
    · rw [cn_of (floatBits_notN h)]; rfl
  | none =>
    refine ⟨Question.cut (.nanBits .f64 a b) (w.tape w.drawn (.nanBits .f64 a b)), w.drawn + 1, ?_, ?_⟩
    · have hn : (Op.floatArith op .f64 a b).run P w = .ok (.float .f64 (Question.cut (.nanBits .f64 a b) (w.tape w.drawn (.nanBits .f64 a b)))) { w with drawn := w.drawn + 1 } := by
        unfold floatBits at h
        rcases hop with rfl | rfl | rfl | rfl <;> simp only at h <;> simp [Op.floatArith, h, choose, Sem.run, Question.forced]
      rcases hop with rfl | rfl | rfl | rfl <;> simpa [binOp] using hn
    · have : isN (Question.cut (.nanBits .f64 a b) (w.tape w.drawn (.nanBits .f64 a b))) = true := by
        generalize w.tape w.drawn (.nanBits .f64 a b) = t
        have hc : Question.cut (.nanBits .f64 a b) t = (t % 2) * 2 ^ 63 + 0x7ff0000000000000 + 1 + (t / 2) % (2 ^ 52 - 1) := rfl
        have h2 := Nat.mod_lt (t / 2) (show 0 < 2 ^ 52 - 1 by decide)
        have h1 : t % 2 = 0 ∨ t % 2 = 1 := by omega
        unfold isN
        rw [decide_eq_true_eq, hc]
        rcases h1 with h1 | h1 <;> rw [h1] <;> omega
      rw [cn_nan this]; rfl
section
variable {P : Program} {f : Who} {N : Nat} {O ρ : Type} {m : Option O} {G : O → Option ρ} {R : ρ → Ending → World → Prop} {e : Env} {s : St} {k : List Item} {ops : Array Oper} {i d : Nat} {rest : List Nat} {o : Oper}
theorem vmk {i d : Nat} {o : Oper} {rest : List Nat} {v : Value} {n : Nat} (ho : ops[i]? = some o) (hd : o.dst = some d) (hN : Nat.blt d N = true) (hw : Region.wanted o (yv e ops) = true) (hr : (execOp (ev e) o).run P s.w = .ok (.value v) { s.w with drawn := n })
    (h : ∀ s', Stp [] s s' → TM P f N m G R (.inRegion ops rest :: k) (upd e d v) s'.w) : TM P f N m G R (.inRegion ops (i :: rest) :: k) e s.w :=
  vl ho hd hN hw hr (h ⟨{ s.w with drawn := n }, s.g⟩ ⟨rfl, rfl, rfl, Nat.le_refl _, fun _ _ _ => rfl, fun _ _ _ => ⟨rfl, rfl⟩⟩)
theorem fq_ {op : BinOp} {t t' : TypeId} {X Y : Operand} {v1 v2 r : Value} {x1 x2 : Nat} (h1 : FL v1 x1) (h2 : FL v2 x2)
    (ho : ops[i]? = some o) (hd : o.dst = some d) (hN : Nat.blt d N = true) (hw : Region.wanted o (yv e ops) = true) (hop : o.op = .binOp op t X Y t') (hx : ev e X = v1) (hy : ev e Y = v2) (hv : fbin op .f64 x1 x2 = some r)
    (h : TM P f N m G R (.inRegion ops rest :: k) (upd e d r) s.w) : TM P f N m G R (.inRegion ops (i :: rest) :: k) e s.w := by
  obtain ⟨b1, rfl, rfl⟩ := h1
  obtain ⟨b2, rfl, rfl⟩ := h2
  rw [fbin_cn] at hv
  exact vl ho hd hN hw (by
    have := fbin_run (P := P) (w := s.w) (t := t) (X := X) (Y := Y) hv
    simp only [execOp, hop, hx, hy]
    rw [Sem.run_bind', this]; rfl) h
theorem fq_' {op : BinOp} {t t' : TypeId} {X Y : Operand} {v1 v2 r : Value} {x1 x2 : Nat} (h1 : FL v1 x1) (h2 : FL v2 x2) (t2 : E8 (ops[i]?) (some o) (o.dst) (some d) (Nat.blt d N) (true) (Region.wanted o (yv e ops)) (true) (o.op) (.binOp op t X Y t') (ev e X) (v1) (ev e Y) (v2) (fbin op .f64 x1 x2) (some r)) (h : TM P f N m G R (.inRegion ops rest :: k) (upd e d r) s.w) : TM P f N m G R (.inRegion ops (i :: rest) :: k) e s.w := fq_ h1 h2 (e8_ t2).1 (e8_ t2).2.1 (e8_ t2).2.2.1 (e8_ t2).2.2.2.1 (e8_ t2).2.2.2.2.1 (e8_ t2).2.2.2.2.2.1 (e8_ t2).2.2.2.2.2.2.1 (e8_ t2).2.2.2.2.2.2.2 h
theorem qv_b {x b : Bool} (h : Qv P N ops e s.w i d (.bool x)) (hb : x = b) : Qv P N ops e s.w i d (.bool b) := by subst hb; exact h
theorem fa_ {op : BinOp} {t t' : TypeId} {X Y : Operand} {v1 v2 : Value} {x1 x2 : Nat} (h1 : FL v1 x1) (h2 : FL v2 x2) (hk : op = .add ∨ op = .sub ∨ op = .mul ∨ op = .quo)
    (ho : ops[i]? = some o) (hd : o.dst = some d) (hN : Nat.blt d N = true) (hw : Region.wanted o (yv e ops) = true) (hop : o.op = .binOp op t X Y t') (hx : ev e X = v1) (hy : ev e Y = v2)
    (h : ∀ v s', Stp [] s s' → FL v (far op x1 x2) → TM P f N m G R (.inRegion ops rest :: k) (upd e d v) s'.w) : TM P f N m G R (.inRegion ops (i :: rest) :: k) e s.w := by
  obtain ⟨b1, rfl, rfl⟩ := h1
  obtain ⟨b2, rfl, rfl⟩ := h2
  obtain ⟨r, n, hr, hc⟩ := far_run (P := P) s.w hk t b1 b2
  refine vmk (v := .float .f64 r) (n := n) ho hd hN hw ?_ fun s' p => h _ s' p ⟨r, rfl, hc⟩
  have hg : (eqGuard op t X Y (.float .f64 b1) (.float .f64 b2)).run P s.w = .ok () s.w := by rcases hk with rfl | rfl | rfl | rfl <;> simp [eqGuard]
  simp only [execOp, hop, hx, hy]
  rw [Sem.run_bind', Sem.run_bind', hg]
  simp only [Result.andThen, hr]
  rfl
theorem fng_ {t : TypeId} {X : Operand} {v1 : Value} {x1 : Nat} (h1 : FL v1 x1)
    (ho : ops[i]? = some o) (hd : o.dst = some d) (hN : Nat.blt d N = true) (hw : Region.wanted o (yv e ops) = true) (hop : o.op = .unOp .neg t X) (hx : ev e X = v1)
    (h : ∀ v, FL v (fneg x1) → TM P f N m G R (.inRegion ops rest :: k) (upd e d v) s.w) : TM P f N m G R (.inRegion ops (i :: rest) :: k) e s.w := by
  obtain ⟨b1, rfl, rfl⟩ := h1
  refine vl (v := .float .f64 (Op.negFloat .f64 b1)) ho hd hN hw (by simp [execOp, hop, hx, Op.unary]) (h _ ⟨_, rfl, ?_⟩)
  have hx : ∀ b, Op.negFloat .f64 b % 9223372036854775808 = b % 9223372036854775808 := by
    intro b
    show (b ^^^ 2 ^ 63) % 2 ^ 63 = b % 2 ^ 63
    rw [Nat.xor_mod_two_pow, Nat.mod_self, Nat.xor_zero]
  have hn : isN (Op.negFloat .f64 b1) = isN b1 := by unfold isN; rw [hx]
  unfold fneg
  rw [isN_cn]
  cases h : isN b1 with
  | true => rw [cn_nan (by rw [hn, h])]; rfl
  | false => rw [cn_of (by rw [hn, h]), cn_of h]; rfl
theorem i2f {t1 t2 : TypeId} {k1 k3 : IntKind} {n : Int} {X : Operand} (hu : P.underlying t2 = some (.float .f64)) (hu1 : P.underlying t1 = some (.int k1))
    (ho : ops[i]? = some o) (hd : o.dst = some d) (hN : Nat.blt d N = true) (hw : Region.wanted o (yv e ops) = true) (hop : o.op = .convert t1 t2 X) (hx : ev e X = .int k3 n)
    (h : ∀ v, FL v (FloatKind.f64.nearest n) → TM P f N m G R (.inRegion ops rest :: k) (upd e d v) s.w) : TM P f N m G R (.inRegion ops (i :: rest) :: k) e s.w :=
  vl (v := .float .f64 (FloatKind.f64.nearest n)) ho hd hN hw (by simp [execOp, hop, hx, convert, run_underlying hu, run_underlying hu1, Conv.intToFloat, Result.andThen]) (h _ ⟨_, rfl, cn_of (write_notN (.number (n < 0) n.natAbs 0) rfl)⟩)
theorem f2i {t1 t2 : TypeId} {k2 : IntKind} {X : Operand} {v1 : Value} {x1 : Nat} {km : Int → Option O} (h1 : FL v1 x1) (hu : P.underlying t2 = some (.int k2)) (hu1 : P.underlying t1 = some (.float .f64))
    (ho : ops[i]? = some o) (hd : o.dst = some d) (hN : Nat.blt d N = true) (hw : Region.wanted o (yv e ops) = true) (hop : o.op = .convert t1 t2 X) (hx : ev e X = v1)
    (h : ∀ n, floatToIntVal .f64 x1 k2 = some n → TM P f N (km n) G R (.inRegion ops rest :: k) (upd e d (.int k2 n)) s.w) : TM P f N ((floatToIntVal .f64 x1 k2).bind km) G R (.inRegion ops (i :: rest) :: k) e s.w := by
  obtain ⟨b1, rfl, rfl⟩ := h1
  refine mb fun n hn => ?_
  have hN' : isN (cn b1) = false := by
    cases hb : isN (cn b1) with
    | false => rfl
    | true =>
      obtain ⟨s', f', e'⟩ := read_nan hb
      unfold floatToIntVal at hn
      have : (FloatKind.f64.decode (cn b1)) = .nan s' f' := e'
      rw [this] at hn
      cases hn
  rw [isN_cn] at hN'
  refine vl (v := .int k2 n) ho hd hN hw ?_ (h n hn)
  rw [cn_of hN'] at hn
  have := run_convert_float_int (P := P) s.w t1 t2 .f64 k2 b1 n (by rw [hu1]; rfl) hu hn
  simp [execOp, hop, hx, this, Result.andThen]
theorem ext_run {w : World} {g : FuncId} {fn : Func} {args : Array Operand} {ts : Array TypeId} {X : Array Value → Sem Value} {v : Value} (hop : o.op = .call { callee := .value (.func g), args := args, argTypes := ts }) (hg : P.funcs[g]? = some fn) (hb : fn.body = none)
    (hn : (fn.name == "runtime.NumGoroutine") = false) (hnx : Extern.findNext fn = none) (hf : Extern.find fn = some X) (hv : (X (args.map (ev e))).run P w = .ok v w) : (execOp (ev e) o).run P w = .ok (.value v) w := by
  have hn' : ¬ fn.name = "runtime.NumGoroutine" := by simpa using hn
  simp [execOp, hop, resolve, ev, Deferred.ofValue, invoke, callFunc, hg, hb, hn', hnx, hf, mark, Sem.run, hv, Result.andThen]
theorem fb_ {g : FuncId} {fn : Func} {X : Operand} {ts : Array TypeId} {v1 : Value} {x1 : Nat} (h1 : FL v1 x1)
    (ho : ops[i]? = some o) (hd : o.dst = some d) (hN : Nat.blt d N = true) (hw : Region.wanted o (yv e ops) = true) (hop : o.op = .call { callee := .value (.func g), args := #[X], argTypes := ts }) (hg : P.funcs[g]? = some fn) (hb : fn.body = none)
    (hn : (fn.name == "runtime.NumGoroutine") = false) (hnx : Extern.findNext fn = none) (hf : Extern.find fn = some Extern.MathFloatBits.float64bits) (hx : ev e X = v1)
    (h : TM P f N m G R (.inRegion ops rest :: k) (upd e d (.int .u64 (x1 : Int))) s.w) : TM P f N (if isN x1 = false then m else none) G R (.inRegion ops (i :: rest) :: k) e s.w := by
  refine mg fun hnn => ?_
  have := h1.bits hnn
  subst this
  exact vl ho hd hN hw (ext_run hop hg hb hn hnx hf (by rw [show (#[X] : Array Operand).map (ev e) = #[ev e X] from by simp, hx]; rfl)) h
theorem fbu {g : FuncId} {fn : Func} {X : Operand} {ts : Array TypeId} {v1 : Value} {x1 : Nat} (h1 : FL v1 x1)
    (ho : ops[i]? = some o) (hd : o.dst = some d) (hN : Nat.blt d N = true) (hw : Region.wanted o (yv e ops) = true) (hop : o.op = .call { callee := .value (.func g), args := #[X], argTypes := ts }) (hg : P.funcs[g]? = some fn) (hb : fn.body = none)
    (hn : (fn.name == "runtime.NumGoroutine") = false) (hnx : Extern.findNext fn = none) (hf : Extern.find fn = some Extern.MathFloatBits.float64bits) (hx : ev e X = v1)
    (h : ∀ b : Nat, cn b = x1 → TM P f N m G R (.inRegion ops rest :: k) (upd e d (.int .u64 (b : Int))) s.w) : TM P f N m G R (.inRegion ops (i :: rest) :: k) e s.w := by
  obtain ⟨b, rfl, hb2⟩ := h1
  exact vl ho hd hN hw (ext_run hop hg hb hn hnx hf (by rw [show (#[X] : Array Operand).map (ev e) = #[ev e X] from by simp, hx]; rfl)) (h b hb2)
theorem fz0 {t t' : TypeId} {X Y : Operand} {b x : Nat} (hc : cn b = x)
    (ho : ops[i]? = some o) (hd : o.dst = some d) (hN : Nat.blt d N = true) (hw : Region.wanted o (yv e ops) = true) (hop : o.op = .binOp .eql t X Y t') (hx : ev e X = .int .u64 (b : Int)) (hy : ev e Y = .int .u64 0)
    (h : TM P f N m G R (.inRegion ops rest :: k) (upd e d (.bool ((x : Int) == 0))) s.w) : TM P f N m G R (.inRegion ops (i :: rest) :: k) e s.w := by
  have hb : ((x : Int) == 0) = ((b : Int) == 0) := by
    cases hN : isN b with
    | false => rw [cn_of hN] at hc; rw [hc]
    | true =>
      rw [cn_nan hN] at hc
      subst hc
      have hne : b ≠ 0 := by intro h0; subst h0; revert hN; decide
      have : ((b : Int) == 0) = false := by simp; exact hne
      rw [this]; rfl
  rw [hb] at h
  exact vl ho hd hN hw (by
    have := ibin_run (P := P) (w := s.w) (op := .eql) (t := t) (X := X) (Y := Y) (k := .u64) (a := (b : Int)) (b := 0) rfl
    simp only [execOp, hop, hx, hy]
    rw [Sem.run_bind', this]; rfl) h
theorem ffb {g : FuncId} {fn : Func} {X : Operand} {ts : Array TypeId} {n : Int}
    (ho : ops[i]? = some o) (hd : o.dst = some d) (hN : Nat.blt d N = true) (hw : Region.wanted o (yv e ops) = true) (hop : o.op = .call { callee := .value (.func g), args := #[X], argTypes := ts }) (hg : P.funcs[g]? = some fn) (hb : fn.body = none)
    (hn : (fn.name == "runtime.NumGoroutine") = false) (hnx : Extern.findNext fn = none) (hf : Extern.find fn = some Extern.MathFloatBits.float64frombits) (hx : ev e X = .int .u64 n)
    (h : ∀ v, FL v (cn n.toNat) → TM P f N m G R (.inRegion ops rest :: k) (upd e d v) s.w) : TM P f N m G R (.inRegion ops (i :: rest) :: k) e s.w :=
  vl (v := .float .f64 n.toNat) ho hd hN hw (ext_run hop hg hb hn hnx hf (by rw [show (#[X] : Array Operand).map (ev e) = #[ev e X] from by simp, hx]; rfl)) (h _ ⟨_, rfl, rfl⟩)
end
end Go.Proofs.YtcgbhldenkeplaaGreat.V
set_option linter.unusedVariables false
set_option linter.unusedSimpArgs false
namespace Go.Proofs.YtcgbhldenkeplaaGreat.V
open Go
def LensG {α β : Type} (K : Kd α) (A : Kd β) (q : Nat) (get : α → β) (set : α → β → α) : Prop :=
 ∀ w es x os, K.ow w es x os → ∃ e1 e2 e3 o1 o2 o3, es = e1 ++ (e2 ++ e3) ∧ e1.length = q ∧ os = o1 ++ (o2 ++ o3) ∧ A.ow w e2 (get x) o2 ∧
  ∀ w' y e2' o2', A.ow w' e2' y o2' → Agr w w' (· ∈ o1 ++ o3) → K.ow w' (e1 ++ (e2' ++ e3)) (set x y) (o1 ++ (o2' ++ o3))
theorem lg_id {α : Type} {K : Kd α} : LensG K K 0 (fun x => x) (fun _ y => y) := fun w es x os h =>
 ⟨[], es, [], [], os, [], by simp, rfl, by simp, h, fun w' y e2' o2' hy _ => by simpa using hy⟩
section
variable {P : Program} {f : Who} {N : Nat} {O ρ : Type} {m : Option O} {G : O → Option ρ} {R : ρ → Ending → World → Prop} {e : Env} {s : St} {k : List Item} {ops : Array Oper} {i d : Nat} {rest : List Nat} {o : Oper}
theorem sog {α β : Type} [Inhabited α] {K : Kd α} {A : Kd β} {q : Nat} {get : α → β} {set : α → β → α} {t te : TypeId} {x y : Operand} {v : Value} {vs : List Value} {xs : List α} {c d' : Nat} {ii : Int} {ad : Addr} {x' : β} (L : LensG K A q get set)
    (hO : OwF (Kd.sl te K) s [v] xs c) (hA : IxA v K.n ii ad) (h0 : 0 ≤ ii) (h1 : ii < xs.length) (hX : OwF A s vs x' d') (hcd : Nat.beq c d' = false) (h10 : Nat.ble 40 d' = true) (hs : (P.info? t).map (·.size) = some A.n)
    (ho : ops[i]? = some o) (hd : o.dst = none) (hw : Region.wanted o (yv e ops) = true) (hop : o.op = .store t x y) (hx : ev e x = .pointer (some (ad.add q))) (hy : (ev e y).cells = vs.toArray)
    (h : ∀ s', Stp [c, d'] s s' → OwF (Kd.sl te K) s' [v] (xs.set ii.toNat (set (at_ xs ii) x')) c → TM P f N m G R (.inRegion ops rest :: k) e s'.w) : TM P f N m G R (.inRegion ops (i :: rest) :: k) e s.w := by
  have hcd' : c ≠ d' := fun h => by subst h; simp at hcd
  obtain ⟨os, ⟨v1, e1, cells, o1, o2, rfl, hR, hE⟩, hnd, hcol⟩ := hO
  obtain rfl : v = v1 := by simpa using e1
  obtain ⟨ox, hxo, hxn, hxc⟩ := hX
  have hvl : vs.length = A.n := A.rd_len (A.ow_rd hxo)
  have hv1 : ∀ u ∈ vs, u.oneCell' = true := A.rd_one (A.ow_rd hxo)
  obtain ⟨Aa, l, cap, hv, rfl⟩ := hA
  have hi : ii.toNat < xs.length := by omega
  obtain ⟨hl, hR2⟩ := hR
  rcases hR2 with ⟨h2, _⟩ | ⟨g, cap', cur, h2, hg, hlc, hcm, hsz, htk, rfl⟩
  · rw [h2] at hv; cases hv
  · rw [h2] at hv
    simp only [Value.slice.injEq, Option.some.injEq] at hv
    obtain ⟨rfl, rfl, rfl⟩ := hv
    obtain ⟨p1, p2, p3, rfl, hK, hset⟩ := hE.at_ ii.toNat hi
    rw [at_eq xs ii hi] at h
    obtain ⟨r1, r2, r3, q1, q2, q3, hes, hq, rfl, hg2, hput⟩ := L _ _ _ _ hK
    have hr2 : r2.length = A.n := A.rd_len (A.ow_rd hg2)
    have hmul : (ii.toNat + 1) * K.n ≤ xs.length * K.n := Nat.mul_le_mul_right _ hi
    have hmul' := hmul
    rw [Nat.add_mul, Nat.one_mul] at hmul'
    have hesl : ((cells.drop (ii.toNat * K.n)).take K.n).length = K.n := K.rd_len (K.ow_rd hK)
    have hq3 : q + A.n + r3.length = K.n := by rw [← hesl, hes]; simp [hq, hr2]; omega
    have hcapm : xs.length * K.n ≤ cap' * K.n := Nat.mul_le_mul_right _ hlc
    have hgl : g < s.w.heap.size := hg.lt
    have hgc := hcol g (by simp)
    have hst := storeCells_hr P g (ii.toNat * K.n + q) te vs 0 cur s.w hg (by rw [hvl, hsz]; omega) hv1
    simp only [Nat.add_zero] at hst
    have had : ((⟨g, 0, none⟩ : Addr).add (ii.toNat * K.n)).add q = ⟨g, ii.toNat * K.n + q, none⟩ := by rw [Addr.add_add', Addr.add_mid, Nat.zero_add]
    rw [had] at hx
    have hrun : (Instr.storeAt t (.pointer (some ⟨g, ii.toNat * K.n + q, none⟩)) (ev e y)).run P s.w = .ok () (s.w.setRow g (cur.toList.take (ii.toNat * K.n + q) ++ vs ++ cur.toList.drop (ii.toNat * K.n + q + vs.length)).toArray) := by
      unfold Instr.storeAt
      rw [Sem.run_bind']
      simp only [Instr.sureAddr, Sem.run_pure, Result.andThen]
      unfold storeVar
      rw [Sem.run_bind', size_run hs]
      simp only [Result.andThen, hy]
      simp [hvl]
      simp [hvl] at hst
      exact hst
    have hd10 := Nat.le_of_ble_eq_true h10
    have hnd' := List.nodup_cons.1 (show (g :: (p1 ++ (q1 ++ (q2 ++ q3)) ++ p3)).Nodup from hnd)
    refine vd (w' := s.w.setRow g (cur.toList.take (ii.toNat * K.n + q) ++ vs ++ cur.toList.drop (ii.toNat * K.n + q + vs.length)).toArray) ho hd hw (by simp [execOp, hop, hx, hrun, Result.andThen]) (h ⟨_, fun b => if s.g b = d' then c else s.g b⟩ ⟨rfl, rfl, rfl, by simp, fun b hb hl => ?_, fun b hb hm => ?_⟩ ?_)
    · have : ¬ s.g b = d' := by omega
      simp [this]
    · simp only [memb, Bool.or_eq_false_iff] at hm
      have q1 : s.g b ≠ c := fun h => by rw [h] at hm; simp at hm
      have q2 : ¬ s.g b = d' := fun h => by rw [h] at hm; simp at hm
      refine ⟨by simp [q2], setRow_other s.w g b _ fun e => q1 (by rw [e]; exact hgc)⟩
    · have hoth : ∀ b, b ≠ g → (s.w.setRow g (cur.toList.take (ii.toNat * K.n + q) ++ vs ++ cur.toList.drop (ii.toNat * K.n + q + vs.length)).toArray).heap[b]? = s.w.heap[b]? := fun b hb => setRow_other s.w g b _ hb
      have hgx : g ∉ ox := fun h => hcd' (hgc.symm.trans (hxc g h))
      have hA' := A.ow_frame hxo (w' := s.w.setRow g (cur.toList.take (ii.toNat * K.n + q) ++ vs ++ cur.toList.drop (ii.toNat * K.n + q + vs.length)).toArray) fun b hb _ => hoth b fun h => hgx (h ▸ hb)
      have hK' := hput _ x' vs ox hA' fun b hb _ => hoth b fun h => hnd'.1 (by subst h; simp at hb ⊢; rcases hb with hb | hb <;> simp [hb])
      have hnew := hset _ _ _ _ hK' fun b hb _ => hoth b fun h => hnd'.1 (by subst h; simp at hb ⊢; rcases hb with hb | hb <;> simp [hb])
      have hcl : cells.length = xs.length * K.n := hl
      have hcells : cells.take (ii.toNat * K.n) ++ (r1 ++ (vs ++ r3)) ++ cells.drop ((ii.toNat + 1) * K.n) = cells.take (ii.toNat * K.n + q) ++ vs ++ cells.drop (ii.toNat * K.n + q + vs.length) := by
        have e0 : cells = cells.take (ii.toNat * K.n) ++ ((r1 ++ (r2 ++ r3)) ++ cells.drop ((ii.toNat + 1) * K.n)) := by
          rw [← hes, Nat.add_mul, Nat.one_mul, ← List.drop_drop, List.take_append_drop, List.take_append_drop]
        have hlt : (cells.take (ii.toNat * K.n)).length = ii.toNat * K.n := by rw [List.length_take]; omega
        have e5 : cells = (cells.take (ii.toNat * K.n) ++ r1) ++ (r2 ++ (r3 ++ cells.drop ((ii.toNat + 1) * K.n))) := by
          conv => lhs; rw [e0]
          simp
        have e6 : cells = (cells.take (ii.toNat * K.n) ++ (r1 ++ r2)) ++ (r3 ++ cells.drop ((ii.toNat + 1) * K.n)) := by
          conv => lhs; rw [e0]
          simp
        have t1 : cells.take (ii.toNat * K.n + q) = cells.take (ii.toNat * K.n) ++ r1 := by
          conv => lhs; rw [e5]
          exact List.take_left' (by rw [List.length_append, hlt, hq])
        have t2 : cells.drop (ii.toNat * K.n + q + vs.length) = r3 ++ cells.drop ((ii.toNat + 1) * K.n) := by
          conv => lhs; rw [e6]
          exact List.drop_left' (by rw [List.length_append, List.length_append, hlt, hq, hr2, hvl]; omega)
        rw [t1, t2]; simp
      rw [hcells] at hnew
      refine ⟨[g] ++ (p1 ++ (q1 ++ (ox ++ q3)) ++ p3), ⟨v, rfl, _, [g], _, rfl, ⟨?_, .inr ⟨g, cap', _, by rw [List.length_set]; exact h2, hg.row3 _ _ (by rw [hvl, hsz]; omega), by simpa using hlc, hcm, ?_, ?_, rfl⟩⟩, hnew⟩, ?_, fun b hb => ?_⟩
      · simp only [List.length_set, List.length_append, List.length_take, List.length_drop, hvl, hl]
        omega
      · simp only [List.size_toArray, List.length_append, List.length_take, List.length_drop, Array.length_toList, hvl, hsz]
        omega
      · rw [List.length_set, ← htk, hvl]
        have e2 : (cur.toList.take (xs.length * K.n)).take (ii.toNat * K.n + q) = cur.toList.take (ii.toNat * K.n + q) := by rw [List.take_take]; congr 1; omega
        have e3 : (cur.toList.take (xs.length * K.n)).drop (ii.toNat * K.n + q + A.n) = (cur.toList.drop (ii.toNat * K.n + q + A.n)).take (xs.length * K.n - (ii.toNat * K.n + q + A.n)) := by rw [List.drop_take]
        rw [e2, e3]
        have hla : (cur.toList.take (ii.toNat * K.n + q) ++ vs).length = ii.toNat * K.n + q + A.n := by
          rw [List.length_append, List.length_take, Array.length_toList, hvl, hsz]; omega
        rw [List.take_append, List.take_of_length_le (by omega), hla]
      · have hdj : ∀ b, b ∈ ox → b ∉ g :: (p1 ++ (q1 ++ (q2 ++ q3)) ++ p3) := fun b hb hb2 => hcd' ((hcol b hb2).symm.trans (hxc b hb))
        rw [List.nodup_iff_count]
        intro b
        have c0 : (g :: (p1 ++ (q1 ++ (q2 ++ q3)) ++ p3)).count b ≤ 1 := List.nodup_iff_count.1 hnd b
        have c1 : ox.count b ≤ 1 := List.nodup_iff_count.1 hxn b
        rw [List.count_cons] at c0
        simp only [List.singleton_append, List.count_cons, List.count_append] at c0 ⊢
        by_cases hb : b ∈ ox
        · have z0 : (g :: (p1 ++ (q1 ++ (q2 ++ q3)) ++ p3)).count b = 0 := List.count_eq_zero.2 (hdj b hb)
          rw [List.count_cons] at z0
          simp only [List.count_append] at z0
          omega
        · have : ox.count b = 0 := List.count_eq_zero.2 hb
          omega
      · dsimp only
        simp only [List.singleton_append, List.mem_cons, List.mem_append] at hb
        rcases hb with rfl | (hb | hb | hb | hb) | hb
        · simp [hgc]
        · simp [hcol b (by simp [hb])]
        · simp [hcol b (by simp [hb])]
        · simp [hxc b hb]
        · simp [hcol b (by simp [hb])]
        · simp [hcol b (by simp [hb])]
theorem lcq {t q : Nat} {dd : TypeDesc} {x : Operand} {ad : Addr} {es es' : List Value} {C : List Nat} (hC : CeF s ad es C) (hu : P.underlying t = some dd) (hs : (P.info? t).map (·.size) = some es'.length)
    (ho : ops[i]? = some o) (hd : o.dst = some d) (hN : Nat.blt d N = true) (hw : Region.wanted o (yv e ops) = true) (hop : o.op = .load t x) (hr : dd.isRow = true) (hx : ev e x = .pointer (some (ad.add q))) (hv : (es.drop q).take es'.length = es')
    (h : TM P f N m G R (.inRegion ops rest :: k) (upd e d (.agg es'.toArray)) s.w) : TM P f N m G R (.inRegion ops (i :: rest) :: k) e s.w :=
  vl ho hd hN hw (by
    have := loadAgg_run (P := P) (w := s.w) (ad := ad.add q) hu hr hs fun j u hj => by
      rw [Addr.add_add']
      refine hC.2 _ _ ?_
      rw [← hv, List.getElem?_take] at hj
      split at hj
      · rw [List.getElem?_drop] at hj; exact hj
      · cases hj
    simp [execOp, hop, hx, this, Result.andThen]) h
theorem lcq_q {t q : Nat} {dd : TypeDesc} {x : Operand} {ad : Addr} {es es' : List Value} {C : List Nat} (hC : CeF s ad es C) (hu : P.underlying t = some dd) (hs : (P.info? t).map (·.size) = some es'.length)
    (ho : ops[i]? = some o) (hd : o.dst = some d) (hN : Nat.blt d N = true) (hw : Region.wanted o (yv e ops) = true) (hop : o.op = .load t x) (hr : dd.isRow = true) (hx : ev e x = .pointer (some (ad.add q))) (hv : (es.drop q).take es'.length = es') : Qv P N ops e s.w i d (.agg es'.toArray) :=
  ⟨o, ho, hd, hN, by simp only [selB, hop], .inl ⟨hw, by
    have := loadAgg_run (P := P) (w := s.w) (ad := ad.add q) hu hr hs fun j u hj => by
      rw [Addr.add_add']
      refine hC.2 _ _ ?_
      rw [← hv, List.getElem?_take] at hj
      split at hj
      · rw [List.getElem?_drop] at hj; exact hj
      · cases hj
    simp [execOp, hop, hx, this, Result.andThen]⟩⟩
theorem faq {t j q q' n : Nat} {x : Operand} {ad : Addr} (hf : ∀ (a : Addr) (w : World), (Instr.fieldAt t (.pointer (some a)) j).run P w = .ok (.pointer (some (a.add q'))) w) (hn : Nat.beq (q + q') n = true)
    (ho : ops[i]? = some o) (hd : o.dst = some d) (hN : Nat.blt d N = true) (hw : Region.wanted o (yv e ops) = true) (hop : o.op = .fieldAddr t x j) (hx : ev e x = .pointer (some (ad.add q)))
    (h : TM P f N m G R (.inRegion ops rest :: k) (upd e d (.pointer (some (ad.add n)))) s.w) : TM P f N m G R (.inRegion ops (i :: rest) :: k) e s.w := by
  have hn' := Nat.eq_of_beq_eq_true hn
  subst hn'
  exact vl ho hd hN hw (by simp [execOp, hop, hx, hf, Addr.add_add', Result.andThen]) h
theorem faq_q {t j q q' n : Nat} {x : Operand} {ad : Addr} (hf : ∀ (a : Addr) (w : World), (Instr.fieldAt t (.pointer (some a)) j).run P w = .ok (.pointer (some (a.add q'))) w) (hn : Nat.beq (q + q') n = true)
    (ho : ops[i]? = some o) (hd : o.dst = some d) (hN : Nat.blt d N = true) (hw : Region.wanted o (yv e ops) = true) (hop : o.op = .fieldAddr t x j) (hx : ev e x = .pointer (some (ad.add q))) : Qv P N ops e s.w i d (.pointer (some (ad.add n))) := by
  have hn' := Nat.eq_of_beq_eq_true hn
  subst hn'
  exact ⟨o, ho, hd, hN, by simp only [selB, hop], .inl ⟨hw, by simp [execOp, hop, hx, hf, Addr.add_add', Result.andThen]⟩⟩
def LoF {α : Type} (K : Kd α) (s : St) (cs : List Value) (xs : List α) (c : Nat) : Prop := ∃ os, ElsO K s.w xs cs os ∧ os.Nodup ∧ ∀ b ∈ os, s.g b = c
theorem lo_one {α : Type} {K : Kd α} {cs : List Value} {x : α} {c : Nat} (h : OwF K s cs x c) : LoF K s cs [x] c := by
 obtain ⟨os, ho, hn, hc⟩ := h
 exact ⟨os, ⟨cs, [], os, [], by simp, by simp, ho, rfl, rfl⟩, hn, hc⟩
theorem lo_cons {α : Type} {K : Kd α} {c1 c2 : List Value} {x : α} {xs : List α} {c d' : Nat} (h : OwF K s c1 x c) (h2 : LoF K s c2 xs d') (hcd : Nat.beq c d' = false) (h10 : Nat.ble 40 d' = true) : ∃ s' : St, s.w = s'.w ∧ Stp [d'] s s' ∧ LoF K s' (c1 ++ c2) (x :: xs) c := by
 have hcd' : c ≠ d' := fun h => by subst h; simp at hcd
 have h10' := Nat.le_of_ble_eq_true h10
 obtain ⟨os, ho, hn, hc⟩ := h
 obtain ⟨ps, hp, hpn, hpc⟩ := h2
 refine ⟨⟨s.w, fun b => if s.g b = d' then c else s.g b⟩, rfl, ⟨rfl, rfl, rfl, Nat.le_refl _, fun b hb hl => ?_, fun b hb hm => ⟨?_, rfl⟩⟩, os ++ ps, ⟨c1, c2, os, ps, rfl, rfl, ho, hp⟩, List.nodup_append.2 ⟨hn, hpn, fun a ha b hb hab => ?_⟩, fun b hb => ?_⟩
 · have : ¬ s.g b = d' := by omega
   simp [this]
 · have : ¬ s.g b = d' := fun h => by rw [h] at hm; simp [memb] at hm
   simp [this]
 · subst hab; exact hcd' ((hc a ha).symm.trans (hpc a hb))
 · rcases List.mem_append.1 hb with hb | hb
   · simp [hc b hb]
   · simp [hpc b hb]
theorem ltO {α : Type} {K : Kd α} {t te l : Nat} {z : Value} {parts : Array (Nat × Operand)} {cells : List Value} (xs : List α) (c : Nat) (hu : P.underlying t = some (.slice te)) (hs : (P.info? te).map (·.size) = some K.n) (hz : (P.info? te).bind (·.zero) = some z) (hE : LoF K s cells xs c)
    (ho : ops[i]? = some o) (hd : o.dst = some d) (hN : Nat.blt d N = true) (hw : Region.wanted o (yv e ops) = true) (hop : o.op = .buildSlice t l parts) (hln : Nat.ble (l * K.n) 16777216 = true) (hpos : Nat.ble 1 (l * K.n) = true) (hl : xs.length = l)
    (hzn : z.cells.toList.length = K.n) (hfill : lfill (fun i => some (i * K.n, K.n)) (List.replicate l z.cells.toList).flatten (parts.toList.map fun (i, x) => (i, ev e x)) = some cells)
    (h : ∀ v s', Stp [c] s s' → OwF (Kd.sl te K) s' [v] xs c → TM P f N m G R (.inRegion ops rest :: k) (upd e d v) s'.w) :
    TM P f N m G R (.inRegion ops (i :: rest) :: k) e s.w := by
  obtain ⟨os, hE, hn, hc⟩ := hE
  have hlen := hE.len
  have h2 := Nat.le_of_ble_eq_true hln
  have h3 := Nat.le_of_ble_eq_true hpos
  have hn' : 0 < K.n := Nat.pos_of_ne_zero fun h => by rw [h] at h3; simp at h3
  obtain ⟨s', hs', p, nn, hrow⟩ := new_row (s := s) (te := te) (n := K.n) (l := l) (cells := cells.toArray) c rfl (by simp [hlen, hl]) (by have : l * 1 ≤ l * K.n := Nat.mul_le_mul_left _ hn'; simp only [maxLen]; omega)
  refine vl (w' := s'.w) ho hd hN hw (by rw [hs']; exact lit_run hu hs hz hln hpos hzn hfill hop) (h _ s' ⟨p.os, p.tape, p.output, p.size, p.low, fun b hb _ => p.same b hb rfl⟩ ?_)
  subst hl
  have hlt := hE.lt
  refine ⟨[s.w.heap.size] ++ os, ⟨_, rfl, _, _, os, rfl, by simpa using hrow, hE.frame fun b hb hl => (p.same b hl rfl).2⟩, ?_, fun b hb => ?_⟩
  · refine List.nodup_append.2 ⟨by simp, hn, fun a ha b hb hab => ?_⟩
    simp at ha; subst hab; have := hlt a hb; omega
  · rcases List.mem_append.1 hb with hb | hb
    · simp at hb; subst hb; exact nn.new _ (Nat.le_refl _)
    · rw [nn.old b (hlt b hb), hc b hb]
end
theorem sp2 {α : Type} {K : Kd α} {s : St} {cs : List Value} {x : α} {p r : List Nat} {c : Nat} (c' : Nat) (h : K.ow s.w cs x p) (hn : (p ++ r).Nodup) (hc : ∀ b ∈ p ++ r, s.g b = c) (h10 : Nat.ble 40 c = true) :
    ∃ s' : St, s.w = s'.w ∧ Stp [c] s s' ∧ OwF K s' cs x c ∧ r.Nodup ∧ ∀ b ∈ r, s'.g b = c' := by
  have h10' := Nat.le_of_ble_eq_true h10
  have hn' := List.nodup_append.1 hn
  refine ⟨⟨s.w, fun b => open Classical in if b ∈ r then c' else s.g b⟩, rfl, ⟨rfl, rfl, rfl, Nat.le_refl _, fun b hb hl => ?_, fun b hb hm => ⟨?_, rfl⟩⟩, ⟨p, h, hn'.1, fun b hb => ?_⟩, hn'.2.1, fun b hb => by simp [hb]⟩
  · have : ¬ b ∈ r := fun h => by have := hc b (by simp [h]); omega
    simp [this]
  · have : ¬ b ∈ r := fun h => by have := hc b (by simp [h]); rw [this] at hm; simp [memb] at hm
    simp [this]
  · have : ¬ b ∈ r := fun h => hn'.2.2 b hb b h rfl
    simp only [this, if_false]
    exact hc b (by simp [hb])
theorem sp1 {α : Type} {K : Kd α} {s : St} {cs : List Value} {x : α} {p : List Nat} {c : Nat} (h : K.ow s.w cs x p) (hn : p.Nodup) (hc : ∀ b ∈ p, s.g b = c) : OwF K s cs x c := ⟨p, h, hn, hc⟩
def nextN (E : List (List Nat)) (L D : List Nat) (cs : List Nat) : Bool :=
 rangeB E.length fun i => memb cs i || memb L i || memb D i || anyB (E.getD i []) (fun j => Nat.blt j E.length && !memb L j && !memb D j)
section
variable {P : Program} {f : Who} {N : Nat} {O ρ : Type} {m : Option O} {G : O → Option ρ} {R : ρ → Ending → World → Prop} {k : List Item} {ops : Array Oper}
variable {E : List (List Nat)} {Ds : List (Option Nat)} {Us : List (List Nat)} {L D l : List Nat} {e Ec : Env} {w : World}
theorem zstepN (cs : List (Nat × List (Option Nat))) (tb : Tb ops E Ds Us) (z : Zr E Ds L D l e Ec) (hq : Pq P N ops Ec w L)
    (hb : (useB E Ds Us L && nextN E L D (cs.map (·.1)) && cs.all (fun p => Nat.blt p.1 E.length && !memb L p.1 && !memb D p.1) && !cs.isEmpty) = true)
    (hp : cs.all (fun p => ((pend E E.length L [p.1]).map fun i => Ds.getD i none) == p.2) = true)
    (h : ∀ p ∈ cs, ∀ l' e', Zr E Ds L D (p.1 :: l') (mix p.2 Ec e') Ec → TM P f N m G R (.inRegion ops (p.1 :: l') :: k) (mix p.2 Ec e') w) : TM P f N m G R (.inRegion ops l :: k) e w := by
  simp only [Bool.and_eq_true, Bool.not_eq_true'] at hb
  obtain ⟨⟨⟨hu, hn⟩, hall⟩, hne⟩ := hb
  induction l generalizing e with
  | nil =>
    cases cs with
    | nil => cases hne
    | cons p cs =>
      have hc := List.all_eq_true.1 hall p (by simp)
      simp only [Bool.and_eq_true, Bool.not_eq_true'] at hc
      have hc' : p.1 < E.length := by have := hc.1.1; simp [Nat.blt] at this; omega
      rcases z.ld p.1 hc' (by simp) with h | h
      · exact absurd h (nmemb hc.2)
      · exact absurd h (nmemb hc.1.2)
  | cons i l ih =>
    by_cases hi : i ∈ L
    · exact quiet tb z hq hu hi fun e' z' => ih z'
    · have hD : i ∉ D := fun h => z.done i h (by simp)
      have hlt := z.lt i (by simp)
      have := rangeB_out hn i hlt
      simp only [Bool.or_eq_true] at this
      have hic : i ∈ cs.map (·.1) := by
        rcases this with ((h | h) | h) | h
        · exact memb_iff.1 h
        · exact absurd (memb_iff.1 h) hi
        · exact absurd (memb_iff.1 h) hD
        · obtain ⟨j, hj, hp⟩ := anyB_out h
          simp only [Bool.and_eq_true, Bool.not_eq_true'] at hp
          have hjl : j ∉ i :: l := z.dep [] i l rfl j hj
          have hjlt : j < E.length := by have := hp.1.1; simp [Nat.blt] at this; omega
          rcases z.ld j hjlt hjl with h | h
          · exact absurd h (nmemb hp.2)
          · exact absurd h (nmemb hp.1.2)
      obtain ⟨⟨c, pd⟩, hmem, hcc⟩ := List.mem_map.1 hic
      simp only at hcc
      subst hcc
      have hc := List.all_eq_true.1 hall _ hmem
      simp only [Bool.and_eq_true, Bool.not_eq_true'] at hc
      have hpd := List.all_eq_true.1 hp _ hmem
      simp only [beq_iff_eq] at hpd
      have hcL := hc.1.2
      have he : e = mix pd Ec e := by
        funext t
        unfold mix
        cases hm2 : pd.any (fun x => optB x t) with
        | true => rfl
        | false =>
          refine z.env t fun j hj hjt hm3 => ?_
          have hjp : memb (pend E E.length L [c]) j = false := by
            cases hh : memb (pend E E.length L [c]) j with
            | false => rfl
            | true =>
              have : pd.any (fun x => optB x t) = true := by
                rw [List.any_eq_true]
                refine ⟨some t, ?_, optB_iff.2 rfl⟩
                rw [← hpd]
                exact List.mem_map.2 ⟨j, memb_iff.1 hh, hjt⟩
              rw [this] at hm2; cases hm2
          have hjs : j ∈ scan E E.length [c] := by
            cases hh : memb (scan E E.length [c]) j with
            | true => exact memb_iff.1 hh
            | false => exact absurd (List.mem_filter.2 ⟨hj, by simp [hh]⟩ : j ∈ pend E E.length L [c]) (nmemb hjp)
          have hnd := List.nodup_cons.1 z.nd
          have := scan_out (E := E) (l := l) (fun x hx hlt y hy hm => by
            by_cases hxi : x = c
            · subst hxi; exact z.dep [] x l rfl y hy (List.mem_cons_of_mem _ hm)
            · exact z.dn x hlt (by simp [hxi, hx]) y hy (List.mem_cons_of_mem _ hm)) (fun x hx => z.lt x (List.mem_cons_of_mem _ hx)) E.length [c] (by simpa using hnd.1) j hjs
          rcases List.mem_cons.1 hm3 with rfl | hm3
          · exact nmemb hcL hj
          · exact this hm3
      rw [he] at z ⊢
      exact h _ hmem l e z
theorem zstep2 (c1 c2 : Nat) (pd1 pd2 : List (Option Nat)) (tb : Tb ops E Ds Us) (z : Zr E Ds L D l e Ec) (hq : Pq P N ops Ec w L)
    (hb : (useB E Ds Us L && nextN E L D [c1, c2] && ([(c1, pd1), (c2, pd2)] : List (Nat × List (Option Nat))).all (fun p => Nat.blt p.1 E.length && !memb L p.1 && !memb D p.1) && !([(c1, pd1), (c2, pd2)] : List (Nat × List (Option Nat))).isEmpty) = true)
    (hp : ([(c1, pd1), (c2, pd2)] : List (Nat × List (Option Nat))).all (fun p => ((pend E E.length L [p.1]).map fun i => Ds.getD i none) == p.2) = true)
    (h1 : ∀ l' e', Zr E Ds L D (c1 :: l') (mix pd1 Ec e') Ec → TM P f N m G R (.inRegion ops (c1 :: l') :: k) (mix pd1 Ec e') w)
    (h2 : ∀ l' e', Zr E Ds L D (c2 :: l') (mix pd2 Ec e') Ec → TM P f N m G R (.inRegion ops (c2 :: l') :: k) (mix pd2 Ec e') w) : TM P f N m G R (.inRegion ops l :: k) e w :=
  zstepN [(c1, pd1), (c2, pd2)] tb z hq hb hp fun p hp l' e' => by
    simp only [List.mem_cons, List.not_mem_nil, or_false] at hp
    rcases hp with rfl | rfl
    · exact h1 l' e'
    · exact h2 l' e'
theorem zstep3 (c1 c2 c3 : Nat) (pd1 pd2 pd3 : List (Option Nat)) (tb : Tb ops E Ds Us) (z : Zr E Ds L D l e Ec) (hq : Pq P N ops Ec w L)
    (hb : (useB E Ds Us L && nextN E L D [c1, c2, c3] && ([(c1, pd1), (c2, pd2), (c3, pd3)] : List (Nat × List (Option Nat))).all (fun p => Nat.blt p.1 E.length && !memb L p.1 && !memb D p.1) && !([(c1, pd1), (c2, pd2), (c3, pd3)] : List (Nat × List (Option Nat))).isEmpty) = true)
    (hp : ([(c1, pd1), (c2, pd2), (c3, pd3)] : List (Nat × List (Option Nat))).all (fun p => ((pend E E.length L [p.1]).map fun i => Ds.getD i none) == p.2) = true)
    (h1 : ∀ l' e', Zr E Ds L D (c1 :: l') (mix pd1 Ec e') Ec → TM P f N m G R (.inRegion ops (c1 :: l') :: k) (mix pd1 Ec e') w)
    (h2 : ∀ l' e', Zr E Ds L D (c2 :: l') (mix pd2 Ec e') Ec → TM P f N m G R (.inRegion ops (c2 :: l') :: k) (mix pd2 Ec e') w)
    (h3 : ∀ l' e', Zr E Ds L D (c3 :: l') (mix pd3 Ec e') Ec → TM P f N m G R (.inRegion ops (c3 :: l') :: k) (mix pd3 Ec e') w) : TM P f N m G R (.inRegion ops l :: k) e w :=
  zstepN [(c1, pd1), (c2, pd2), (c3, pd3)] tb z hq hb hp fun p hp l' e' => by
    simp only [List.mem_cons, List.not_mem_nil, or_false] at hp
    rcases hp with rfl | rfl | rfl
    · exact h1 l' e'
    · exact h2 l' e'
    · exact h3 l' e'
end
end Go.Proofs.YtcgbhldenkeplaaGreat.V
set_option linter.unusedVariables false
set_option linter.unusedSimpArgs false
namespace Go.Proofs.YtcgbhldenkeplaaGreat.V
open Go
def fl_ (ps : List (List Nat × Nat)) : List Nat := (ps.map (·.1)).flatten
structure ZN (F : Nat → Prop) (ps : List (List Nat × Nat)) (s : St) : Prop where
 z : ∀ b, F b ↔ s.g b = 0
 lo : ∀ b, b ∉ fl_ ps → s.g b < 2
 pt : ∀ p ∈ ps, ∀ b ∈ p.1, s.g b = p.2
noncomputable def colN (ps : List (List Nat × Nat)) (b : Nat) : Nat := match ps with
 | [] => 1
 | p :: ps => open Classical in if b ∈ p.1 then p.2 else colN ps b
theorem colN_out {ps : List (List Nat × Nat)} {b : Nat} (h : b ∉ fl_ ps) : colN ps b = 1 := by
 induction ps with
 | nil => rfl
 | cons p ps ih =>
  simp only [fl_, List.map_cons, List.flatten_cons, List.mem_append, not_or] at h
  unfold colN
  rw [if_neg h.1]
  exact ih h.2
theorem colN_in {ps : List (List Nat × Nat)} (hn : (fl_ ps).Nodup) : ∀ p ∈ ps, ∀ b ∈ p.1, colN ps b = p.2 := by
 induction ps with
 | nil => intro p hp; cases hp
 | cons q ps ih =>
  intro p hp b hb
  have hn' := List.nodup_append.1 (show (q.1 ++ fl_ ps).Nodup from hn)
  unfold colN
  rcases List.mem_cons.1 hp with rfl | hp
  · rw [if_pos hb]
  · have : b ∉ q.1 := fun h => hn'.2.2 b h b (List.mem_flatten.2 ⟨p.1, List.mem_map.2 ⟨p, hp, rfl⟩, hb⟩) rfl
    rw [if_neg this]
    exact ih hn'.2.1 p hp b hb
theorem colN_ge {ps : List (List Nat × Nat)} (h : ps.all (fun p => Nat.ble 2 p.2) = true) (b : Nat) : 1 ≤ colN ps b := by
 induction ps with
 | nil => exact Nat.le_refl _
 | cons p ps ih =>
  simp only [List.all_cons, Bool.and_eq_true] at h
  unfold colN
  split
  · have := Nat.le_of_ble_eq_true h.1; omega
  · exact ih h.2
theorem startN (w : World) (F : Nat → Prop) (ps : List (List Nat × Nat)) (hn : (fl_ ps).Nodup) (hF : ∀ b, F b → b ∉ fl_ ps) (hc : ps.all (fun p => Nat.ble 2 p.2) = true) : ∃ s : St, s.w = w ∧ Kp s s ∧ ZN F ps s := by
 refine ⟨⟨w, fun b => open Classical in if F b then 0 else colN ps b⟩, rfl, ⟨rfl, rfl, rfl, Nat.le_refl _, fun b hb _ => rfl, fun _ _ _ => rfl⟩, ⟨fun b => ?_, fun b hb => ?_, fun p hp b hb => ?_⟩⟩
 · have := colN_ge hc b
   dsimp only
   constructor
   · intro h; rw [if_pos h]
   · intro h; split at h
     · assumption
     · omega
 · dsimp only
   split
   · omega
   · rw [colN_out hb]; omega
 · dsimp only
   have hm : b ∈ fl_ ps := List.mem_flatten.2 ⟨p.1, List.mem_map.2 ⟨p, hp, rfl⟩, hb⟩
   rw [if_neg fun h => hF b h hm]
   exact colN_in hn p hp b hb
section
variable {F : Nat → Prop} {ps : List (List Nat × Nat)} {s s' : St}
theorem ZN.rd (z : ZN F ps s) {α : Type} {K : Kd α} {cs : List Value} {x : α} (h : K.rd s.w cs x F) : RdF K s cs x [0] :=
 K.rd_mono h fun b hb _ => by rw [(z.z b).1 hb]; rfl
theorem ZN.ow (z : ZN F ps s) {α : Type} {K : Kd α} {cs : List Value} {x : α} {p : List Nat} {c : Nat} (hm : (p, c) ∈ ps) (hn : p.Nodup) (h : K.ow s.w cs x p) : OwF K s cs x c := ⟨p, h, hn, fun b hb => z.pt _ hm b hb⟩
theorem ZN.ky (z : ZN F ps s) (p : Kp s s') : Ky (fl_ ps) s.w s'.w := ⟨p.os, p.tape, p.output, p.size, fun b hb hn => p.same b hb (z.lo b hn)⟩
def OwC {α : Type} (K : Kd α) (s : St) (cs : List Value) (x : α) (C : List Nat) : Prop := ∃ os, K.ow s.w cs x os ∧ os.Nodup ∧ ∀ b ∈ os, memb C (s.g b) = true
theorem oc_ow {α : Type} {K : Kd α} {cs : List Value} {x : α} {c : Nat} (h : OwF K s cs x c) : OwC K s cs x [c] := by
 obtain ⟨os, ho, hn, hc⟩ := h
 exact ⟨os, ho, hn, fun b hb => by rw [hc b hb]; simp [memb]⟩
theorem ZN.fw (z : ZN F ps s) (p : Kp s s') {α : Type} {K : Kd α} {cs : List Value} {x : α} {C : List Nat} (h : OwC K s' cs x C) (hC : C.all (Nat.ble 2 ·) = true) : FW K (fl_ ps) s.w s'.w cs x := by
 obtain ⟨os, ho, hn, hc⟩ := h
 refine ⟨os, ho, hn, fun b hb => ?_⟩
 by_cases hl : b < s.w.heap.size
 · left
   refine Classical.byContradiction fun hne => ?_
   have h1 := z.lo b hne
   have h2 := p.col b hl (by omega)
   have h3 := hc b hb
   rw [h2] at h3
   have := List.all_eq_true.1 hC _ (memb_iff.1 h3)
   have := Nat.le_of_ble_eq_true this
   omega
 · right; omega
theorem ZN.ky' (z : ZN F ps s) {os : List Nat} (e : fl_ ps = os) (p : Kp s s') : Ky os s.w s'.w := e ▸ z.ky p
theorem ZN.fw' (z : ZN F ps s) {os : List Nat} (e : fl_ ps = os) (p : Kp s s') {α : Type} {K : Kd α} {cs : List Value} {x : α} {C : List Nat} (h : OwC K s' cs x C) (hC : C.all (Nat.ble 2 ·) = true) : FW K os s.w s'.w cs x := e ▸ z.fw p h hC
end
structure Nm (s s' : St) (os : List Nat) (c : Nat) : Prop where
 old : ∀ b, b < s.w.heap.size → b ∉ os → s'.g b = s.g b
 mv : ∀ b ∈ os, s'.g b = c
 new : ∀ b, s.w.heap.size ≤ b → s'.g b = c
theorem nwm {s : St} {p : Nat} {os : List Nat} {w' : World} (c : Nat) (hc : ∀ b ∈ os, s.g b = p) (ky : Ky os s.w w') (h40 : Nat.ble 40 p = true) : ∃ s' : St, s'.w = w' ∧ Stp [p] s s' ∧ Nm s s' os c := by
 have h40' := Nat.le_of_ble_eq_true h40
 refine ⟨⟨w', fun b => open Classical in if b ∈ os then c else if b < s.w.heap.size then s.g b else c⟩, rfl, ⟨ky.os, ky.tape, ky.output, ky.size, fun b hb hl => ?_, fun b hb hm => ?_⟩, ⟨fun b hb hn => by simp [hb, hn], fun b hb => by simp [hb], fun b hb => ?_⟩⟩
 · have : b ∉ os := fun h => by have := hc b h; omega
   simp [this, hb]
 · have : b ∉ os := fun h => by rw [hc b h] at hm; simp [memb] at hm
   exact ⟨by simp [this, hb], ky.same b hb this⟩
 · have : ¬ b < s.w.heap.size := by omega
   simp [this]
theorem FW.m {α : Type} {K : Kd α} {s s' : St} {os : List Nat} {cs : List Value} {x : α} {c : Nat} (h : FW K os s.w s'.w cs x) (n : Nm s s' os c) : OwF K s' cs x c := by
 obtain ⟨os', ho, hn, hf⟩ := h
 refine ⟨os', ho, hn, fun b hb => ?_⟩
 rcases hf b hb with h | h
 · exact n.mv b h
 · exact n.new b h
theorem BlF.rc {s : St} {b : Nat} {t : TypeId} {cs : List Value} {d : Nat} (h : BlF s b t cs d) (c : Nat) (hd : Nat.ble 40 d = true) : ∃ s' : St, s.w = s'.w ∧ Stp [d] s s' ∧ BlF s' b t cs c := by
 have hd' := Nat.le_of_ble_eq_true hd
 refine ⟨⟨s.w, fun b => if s.g b = d then c else s.g b⟩, rfl, ⟨rfl, rfl, rfl, Nat.le_refl _, fun b hb hl => ?_, fun b hb hm => ⟨?_, rfl⟩⟩, h.1, ?_⟩
 · have : ¬ s.g b = d := by omega
   simp [this]
 · have : ¬ s.g b = d := fun h => by rw [h] at hm; simp [memb] at hm
   simp [this]
 · simp [h.2]
section
variable {P : Program} {f : Who} {N : Nat} {O ρ : Type} {m : Option O} {G : O → Option ρ} {R : ρ → Ending → World → Prop} {e : Env} {s : St} {k : List Item} {ops : Array Oper} {i d : Nat} {rest : List Nat} {o : Oper}
end
end Go.Proofs.YtcgbhldenkeplaaGreat.V
set_option linter.unusedVariables false
set_option linter.unusedSimpArgs false
namespace Go.Proofs.YtcgbhldenkeplaaGreat.V
open Go
abbrev MD := List (Int × Bool)
def mcell (p : Int × Bool) : Value × Value := (.int .i64 p.1, .bool p.2)
def MpF (s : St) (b : Nat) (m : MD) (c : Nat) : Prop := ∃ es clock, s.w.heap[b]? = some (.map es clock) ∧ s.g b = c ∧ es.toList.map (fun e => (e.key, e.val)) = m.map mcell
theorem MpF.st {s s' : St} {S : List Nat} {b c : Nat} {m : MD} (h : MpF s b m c) (p : Stp S s s') (d : memb S c = false) : MpF s' b m c := by
 obtain ⟨es, cl, hb, hc, he⟩ := h
 have hl : b < s.w.heap.size := (Array.getElem?_eq_some_iff.1 hb).1
 have := p.same b hl (by rw [hc]; exact d)
 exact ⟨es, cl, by rw [this.2]; exact hb, by rw [this.1]; exact hc, he⟩
section
variable {P : Program} {f : Who} {N : Nat} {O ρ : Type} {m : Option O} {G : O → Option ρ} {R : ρ → Ending → World → Prop} {e : Env} {s : St} {k : List Item} {ops : Array Oper} {i d : Nat} {rest : List Nat} {o : Oper}
end
end Go.Proofs.YtcgbhldenkeplaaGreat.V
set_option linter.unusedVariables false
set_option linter.unusedSimpArgs false
namespace Go.Proofs.YtcgbhldenkeplaaGreat.V
open Go
theorem Ky.tr {M : List Nat} {w w' w'' : World} (h : Ky M w w') (h2 : Ky [] w' w'') : Ky M w w'' :=
 ⟨h2.os.trans h.os, h2.tape.trans h.tape, h2.output.trans h.output, Nat.le_trans h.size h2.size, fun b hb hn => by rw [h2.same b (Nat.lt_of_lt_of_le hb h.size) (by simp), h.same b hb hn]⟩
theorem RdF.kyo {α : Type} {K : Kd α} {s : St} {cs : List Value} {x : α} {C os : List Nat} {w' : World} {p : Nat} (h : RdF K s cs x C) (hc : ∀ b ∈ os, s.g b = p) (k : Ky os s.w w') (d : memb C p = false) : K.rd w' cs x (fun _ => True) :=
 K.rd_mono (K.rd_frame h fun b hb hl => k.same b hl fun hm => by rw [hc b hm] at hb; rw [hb] at d; cases d) fun _ _ _ => trivial
theorem BlF.kyo {s : St} {b c : Nat} {t : TypeId} {cs : List Value} {os : List Nat} {w' : World} {p : Nat} (h : BlF s b t cs c) (hc : ∀ b ∈ os, s.g b = p) (k : Ky os s.w w') (d : Nat.beq p c = false) : BlW w' b t cs := by
 have hl : b < s.w.heap.size := (Array.getElem?_eq_some_iff.1 h.1).1
 have := k.same b hl fun hm => by
  have h1 := hc b hm
  rw [h.2] at h1
  rw [h1, Nat.beq_refl] at d; cases d
 exact this.trans h.1
theorem kyn {s0 s : St} {os : List Nat} {w' : World} {p : Nat} (ky0 : Ky [] s0.w s.w) (kp : Kp s0 s) (hz : ∀ b, s0.g b < 40) (hc : ∀ b ∈ os, s.g b = p) (h40 : Nat.ble 40 p = true) (k : Ky os s.w w') : Ky [] s0.w w' := by
 have h40' := Nat.le_of_ble_eq_true h40
 refine ⟨k.os.trans ky0.os, k.tape.trans ky0.tape, k.output.trans ky0.output, Nat.le_trans ky0.size k.size, fun b hb hn => ?_⟩
 rw [k.same b (Nat.lt_of_lt_of_le hb ky0.size) fun hm => ?_, ky0.same b hb hn]
 have h1 := kp.col b hb (hz b)
 rw [hc b hm] at h1
 have := hz b
 omega
structure Pk (β : Type) where
 cs : List Value
 x : β
instance {β : Type} [Inhabited β] : Inhabited (Pk β) := ⟨⟨[], default⟩⟩
def Kd.pk (β : Type) (n : Nat) : Kd (Pk β) where
 n := n
 rd := fun _ cs p _ => cs = p.cs ∧ cs.length = n ∧ ∀ v ∈ cs, v.oneCell' = true
 ow := fun _ cs p os => (cs = p.cs ∧ cs.length = n ∧ ∀ v ∈ cs, v.oneCell' = true) ∧ os = []
 rd_len := fun h => h.2.1
 rd_one := fun h => h.2.2
 rd_frame := fun h _ => h
 rd_mono := fun h _ => h
 ow_frame := fun h _ => h
 ow_lt := fun h b hb => by rw [h.2] at hb; cases hb
 ow_rd := fun h => h.1
theorem fl_pk {β : Type} {n : Nat} : FlK (Kd.pk β n) := fun _ _ _ _ h _ => ⟨h, rfl⟩
theorem pk_of {β : Type} {K : Kd β} {w : World} : ∀ {xs : List β} {cells : List Value} {os : List Nat}, ElsO K w xs cells os →
    ∃ ps : List (Pk β × List Nat), ps.map (fun p => p.1.x) = xs ∧ (ps.map (·.2)).flatten = os ∧ (ps.map fun p => p.1.cs).flatten = cells ∧ ∀ p ∈ ps, K.ow w p.1.cs p.1.x p.2
  | [], cells, os, h => by obtain ⟨rfl, rfl⟩ := h; exact ⟨[], rfl, rfl, rfl, fun p hp => by cases hp⟩
  | x :: xs, cells, os, ⟨c1, c2, o1, o2, e1, e2, h1, h2⟩ => by
    obtain ⟨ps, hx, ho, hc, hp⟩ := pk_of h2
    refine ⟨(⟨c1, x⟩, o1) :: ps, by simp [hx], by simp [ho, e2], by simp [hc, e1], fun p hp' => ?_⟩
    rcases List.mem_cons.1 hp' with rfl | hp'
    · exact h1
    · exact hp p hp'
theorem pk_els {β : Type} {K : Kd β} {w : World} (w' : World) : ∀ (ps : List (Pk β × List Nat)), (∀ p ∈ ps, K.ow w p.1.cs p.1.x p.2) → ElsO (Kd.pk β K.n) w' (ps.map (·.1)) (ps.map fun p => p.1.cs).flatten []
 | [], _ => ⟨rfl, rfl⟩
 | p :: ps, h => ⟨p.1.cs, _, [], [], rfl, rfl, ⟨⟨rfl, K.rd_len (K.ow_rd (h p (by simp))), K.rd_one (K.ow_rd (h p (by simp)))⟩, rfl⟩, pk_els w' ps fun q hq => h q (by simp [hq])⟩
theorem pk_cells {β : Type} {n : Nat} {w : World} : ∀ {ps : List (Pk β)} {cells : List Value} {os : List Nat}, ElsO (Kd.pk β n) w ps cells os → cells = (ps.map (·.cs)).flatten ∧ os = []
 | [], cells, os, h => by obtain ⟨rfl, rfl⟩ := h; exact ⟨rfl, rfl⟩
 | p :: ps, cells, os, ⟨c1, c2, o1, o2, e1, e2, ⟨⟨h1, _⟩, h1'⟩, h2⟩ => by
  obtain ⟨hc, ho⟩ := pk_cells h2
  subst e1; subst e2; subst h1'; subst ho; subst hc; subst h1
  exact ⟨rfl, rfl⟩
theorem pk_back {β : Type} {K : Kd β} {w : World} : ∀ (ps : List (Pk β × List Nat)), (∀ p ∈ ps, K.ow w p.1.cs p.1.x p.2) → ElsO K w (ps.map fun p => p.1.x) (ps.map fun p => p.1.cs).flatten (ps.map (·.2)).flatten
 | [], _ => ⟨rfl, rfl⟩
 | p :: ps, h => ⟨p.1.cs, _, p.2, _, rfl, rfl, h p (by simp), pk_back ps fun q hq => h q (by simp [hq])⟩
theorem flat_sub {β : Type} (g : β → List Nat) {l m : List β} (h : l.Sublist m) : ((l.map g).flatten).Sublist ((m.map g).flatten) := by
 induction h with
 | slnil => exact .slnil
 | cons a h ih => simpa using ih.trans (List.sublist_append_right _ _)
 | cons_cons a h ih => simpa using (List.Sublist.refl (g a)).append ih
def delF {β : Type} : List β → (β → Option Bool) → Option (List β)
 | [], _ => some []
 | x :: xs, d => (d x).bind fun b => (delF xs d).map fun l => if b = true then l else x :: l
theorem delF_out {β : Type} {d : β → Option Bool} : ∀ {xs r : List β}, delF xs d = some r → (∀ x ∈ xs, ∃ b, d x = some b) ∧ r = xs.filter fun x => !((d x).getD false)
 | [], r, h => by cases h; exact ⟨fun x hx => (List.not_mem_nil hx).elim, rfl⟩
 | x :: xs, r, h => by
  unfold delF at h
  cases hd : d x with
  | none => rw [hd] at h; cases h
  | some b =>
   rw [hd, Option.bind_some] at h
   cases hr : delF xs d with
   | none => rw [hr] at h; cases h
   | some l =>
    rw [hr] at h
    obtain ⟨h1, h2⟩ := delF_out hr
    simp only [Option.map_some, Option.some.injEq] at h
    refine ⟨fun y hy => ?_, ?_⟩
    · rcases List.mem_cons.1 hy with rfl | hy
      · exact ⟨b, hd⟩
      · exact h1 y hy
    · rw [← h, List.filter_cons, hd, ← h2]
      cases b <;> simp
theorem delF_eq {β : Type} (d : β → Option Bool) (g : β → Bool) : ∀ (xs : List β), (∀ x ∈ xs, d x = some (g x)) → delF xs d = some (xs.filter fun x => !g x)
 | [], _ => rfl
 | x :: xs, h => by
  unfold delF
  rw [h x (by simp), delF_eq d g xs fun y hy => h y (by simp [hy])]
  simp only [Option.bind_some, Option.map_some, List.filter_cons]
  cases g x <;> simp
end Go.Proofs.YtcgbhldenkeplaaGreat.V
set_option linter.unusedVariables false
set_option linter.unusedSimpArgs false
namespace Go.Proofs.YtcgbhldenkeplaaGreat.V
open Go
def bcmpS (xs ys : List Int) : Int := Extern.BytealgCompare.cmp (str xs) (str ys)
def bcmp : List Int → List Int → Int
 | [], [] => 0
 | [], _ :: _ => -1
 | _ :: _, [] => 1
 | x :: xs, y :: ys => bif x == y then bcmp xs ys else bif decide (x < y) then -1 else 1
section
variable {P : Program} {f : Who} {N : Nat} {O ρ : Type} {m : Option O} {G : O → Option ρ} {R : ρ → Ending → World → Prop} {e : Env} {s : St} {k : List Item} {ops : Array Oper} {i d : Nat} {rest : List Nat} {o : Oper}
theorem add1 (a : Addr) (j : Nat) : (a.add 1).add j = a.add (j + 1) := by
 rw [Addr.add_add', Nat.add_comm]
theorem load_bytes {w : World} : ∀ (xs : List Int) (a : Addr) (acc : ByteArray), (∀ j u, (xs.map (Value.int .u8))[j]? = some u → w.cell? (a.add j) = some u) →
    (Extern.Bytes.loadBytes a xs.length acc).run P w = .ok (xs.foldl (fun r n => r.push (UInt8.ofNat n.toNat)) acc) w
  | [], a, acc, _ => by simp [Extern.Bytes.loadBytes]
  | x :: xs, a, acc, h => by
    have h0 := h 0 (.int .u8 x) rfl
    rw [V.add_zero] at h0
    have hl : (load a).run P w = .ok (.int .u8 x) w := by simp [load, Sem.run, h0]
    simp only [List.length_cons]
    unfold Extern.Bytes.loadBytes
    rw [Sem.run_bind', hl]
    simp only [Result.andThen, List.foldl_cons]
    exact load_bytes xs (a.add 1) _ fun j u hj => by rw [add1]; exact h (j + 1) u hj
theorem bytes_run {tg : TypeId} {v : Value} {xs : List Int} {C : List Nat} (hF : RdF (Kd.sl tg (Kd.int .u8)) s [v] xs C) : (Extern.Bytes.bytesOf v).run P s.w = .ok (str xs) s.w := by
 obtain ⟨v1, e1, A, cap, cells, rfl, hcap, hels, hc⟩ := hF
 obtain rfl : v = .slice A xs.length cap := by simpa using e1
 have hcells : cells = xs.map (.int .u8) := els_u8 hels
 cases A with
 | none =>
  have : xs = [] := by
   cases xs with
   | nil => rfl
   | cons x xs =>
    obtain ⟨ad, h, _⟩ := hc (by rw [hcells]; simp)
    cases h
  subst this
  simp [Extern.Bytes.bytesOf, str]
 | some a =>
  refine load_bytes xs a _ ?_
  rw [← hcells]
  by_cases hne : cells = []
  · rw [hne]; intro j u h; cases h
  · obtain ⟨ad, h, _, hcell⟩ := hc hne
    obtain rfl := Option.some.inj h
    exact hcell
theorem bcx {g : FuncId} {fn : Func} {X Y : Operand} {ts : Array TypeId} {t1 t2 : TypeId} {v u : Value} {xs ys : List Int} {C D : List Nat} (hX : RdF (Kd.sl t1 (Kd.int .u8)) s [v] xs C) (hY : RdF (Kd.sl t2 (Kd.int .u8)) s [u] ys D)
    (ho : ops[i]? = some o) (hd : o.dst = some d) (hN : Nat.blt d N = true) (hw : Region.wanted o (yv e ops) = true) (hop : o.op = .call { callee := .value (.func g), args := #[X, Y], argTypes := ts }) (hg : P.funcs[g]? = some fn) (hb : fn.body = none)
    (hn : (fn.name == "runtime.NumGoroutine") = false) (hnx : Extern.findNext fn = none) (hf : Extern.find fn = some Extern.BytealgCompare.compare) (hx : ev e X = v) (hy : ev e Y = u)
    (h : TM P f N m G R (.inRegion ops rest :: k) (upd e d (.int .i64 (bcmpS xs ys))) s.w) : TM P f N m G R (.inRegion ops (i :: rest) :: k) e s.w :=
  vl ho hd hN hw (ext_run hop hg hb hn hnx hf (by
    rw [show (#[X, Y] : Array Operand).map (ev e) = #[ev e X, ev e Y] from by simp, hx, hy]
    show Sem.run P (do let a ← Extern.Bytes.bytesOf v; let b ← Extern.Bytes.bytesOf u; pure (goInt (Extern.BytealgCompare.cmp a b))) s.w = _
    rw [Sem.run_bind', bytes_run hX]
    simp only [Result.andThen]
    rw [Sem.run_bind', bytes_run hY]
    rfl)) h
end
end Go.Proofs.YtcgbhldenkeplaaGreat.V
set_option linter.unusedVariables false
set_option linter.unusedSimpArgs false
namespace Go.Proofs.YtcgbhldenkeplaaGreat.V
open Go
def HoL {α β : Type} [Inhabited α] (te : TypeId) (K : Kd α) (A : Kd β) (q : Nat) (set : α → β → α) (s : St) (v : Value) (xs : List α) (ii : Int) (c : Nat) : Prop :=
 ∃ g cap cur c1 u0 c3 p1 p3, v = .slice (some ⟨g, 0, none⟩) xs.length cap ∧ Hr s.w g cur te ∧ xs.length ≤ cap ∧ cap ≤ maxLen ∧ cur.size = cap * K.n ∧
  cur.toList.take (xs.length * K.n) = c1 ++ (u0 ++ c3) ∧ u0.length = A.n ∧ c1.length = ii.toNat * K.n + q ∧ (g :: (p1 ++ p3)).Nodup ∧ (∀ b ∈ g :: (p1 ++ p3), s.g b = c ∧ b < s.w.heap.size) ∧ ii.toNat < xs.length ∧
  ∀ w' e2 y o2, A.ow w' e2 y o2 → Agr s.w w' (· ∈ p1 ++ p3) → ElsO K w' (xs.set ii.toNat (set (at_ xs ii) y)) (c1 ++ (e2 ++ c3)) (p1 ++ (o2 ++ p3))
theorem HoL.st {α β : Type} [Inhabited α] {te : TypeId} {K : Kd α} {A : Kd β} {q : Nat} {set : α → β → α} {s s' : St} {v : Value} {xs : List α} {ii : Int} {c : Nat} {S : List Nat} (h : HoL te K A q set s v xs ii c) (p : Stp S s s') (d : memb S c = false) : HoL te K A q set s' v xs ii c := by
 obtain ⟨g, cap, cur, c1, u0, c3, p1, p3, e1, e2, e3, e4, e5, e6, e7, e8, e9, e10, e11, e12⟩ := h
 have hs : ∀ b ∈ g :: (p1 ++ p3), s'.g b = s.g b ∧ s'.w.heap[b]? = s.w.heap[b]? := fun b hb => p.same b (e10 b hb).2 (by rw [(e10 b hb).1]; exact d)
 refine ⟨g, cap, cur, c1, u0, c3, p1, p3, e1, e2.eq (hs g (by simp)).2, e3, e4, e5, e6, e7, e8, e9, fun b hb => ⟨by rw [(hs b hb).1]; exact (e10 b hb).1, Nat.lt_of_lt_of_le (e10 b hb).2 p.size⟩, e11, fun w' e2 y o2 hy ha => e12 w' e2 y o2 hy fun b hb hl => ?_⟩
 rw [ha b hb (Nat.lt_of_lt_of_le hl p.size), (hs b (by simp at hb ⊢; rcases hb with hb | hb <;> simp [hb])).2]
section
variable {P : Program} {f : Who} {N : Nat} {O ρ : Type} {m : Option O} {G : O → Option ρ} {R : ρ → Ending → World → Prop} {e : Env} {s : St} {k : List Item} {ops : Array Oper} {i d : Nat} {rest : List Nat} {o : Oper}
end
theorem RwF.sub {α : Type} {e : TypeId} {K : Kd α} {s : St} {v : Value} {xs : List α} {c : Nat} {C : List Nat} (h : RwF e K s v xs c C) {D : List Nat} (d : V.sub C D = true) : RwF e K s v xs c D := by
 obtain ⟨cells, os, h1, h2, h3⟩ := h
 exact ⟨cells, os, h1, h2, h3.mono fun b hb _ => sub_out d hb⟩
end Go.Proofs.YtcgbhldenkeplaaGreat.V
set_option linter.unusedVariables false
set_option linter.unusedSimpArgs false
namespace Go.Proofs.YtcgbhldenkeplaaGreat.V
open Go
theorem ElsR.set {α : Type} {K : Kd α} {w : World} {F : Nat → Prop} {xs : List α} {cells c' : List Value} {y : α} (h : ElsR K w F xs cells) (i : Nat) (hi : i < xs.length) (hy : K.rd w c' y F) : ElsR K w F (xs.set i y) (cells.take (i * K.n) ++ c' ++ cells.drop ((i + 1) * K.n)) := by
 rw [List.set_eq_take_append_cons_drop, if_pos hi, List.append_assoc]
 exact (h.take i).append ⟨c', _, rfl, hy, h.drop (i + 1)⟩
section
variable {P : Program} {f : Who} {N : Nat} {O ρ : Type} {m : Option O} {G : O → Option ρ} {R : ρ → Ending → World → Prop} {e : Env} {s : St} {k : List Item} {ops : Array Oper} {i d : Nat} {rest : List Nat} {o : Oper}
theorem apRR {α : Type} {K : Kd α} {t te : TypeId} {x y : Operand} {v u : Value} {xs ys : List α} {c c2 : Nat} {C D : List Nat} (hT : SlT P t te K.n) (hD : RwF te K s v xs c C) (hS : RwF te K s u ys c2 D) (hc : memb (C ++ D) c = false)
    (ho : ops[i]? = some o) (hd : o.dst = some d) (hN : Nat.blt d N = true) (hw : Region.wanted o (yv e ops) = true) (hop : o.op = .call { callee := .builtin .append, args := #[x, y], argTypes := #[t, t] }) (hx : ev e x = v) (hy : ev e y = u)
    (h : ∀ v' s', Stp [c] s s' → RwF te K s' v' (xs ++ ys) c (C ++ D) → TM P f N m G R (.inRegion ops rest :: k) (upd e d v') s'.w) :
    TM P f N (if xs.length + ys.length ≤ Lim then m else none) G R (.inRegion ops (i :: rest) :: k) e s.w := by
  refine mg fun hl => ?_
  obtain ⟨cells, os, hR, hcol, hE⟩ := hD
  obtain ⟨cells', os', hR2, hcol2, hE'⟩ := hS
  obtain ⟨v', w', hr, hR', hg, hb⟩ := append_core (P := P) (ty := o.type) hT hR (hR2.slv hE'.one) hl
  refine vl (v := v') (w' := w') ho hd hN hw (by simp [execOp, hop, resolve, invoke, builtin, hx, hy, hr, Result.andThen]) ?_
  have hp : ∃ s' : St, s'.w = w' ∧ Stp [c] s s' ∧ (∀ b, b < s.w.heap.size → s'.g b = s.g b) ∧ (∀ b, s.w.heap.size ≤ b → s'.g b = c) := by
    refine ⟨⟨w', fun b => if b < s.w.heap.size then s.g b else c⟩, rfl, ⟨hg.os, hg.tape, hg.output, hg.size, fun b hb _ => by simp [hb], fun b hb hm => ⟨by simp [hb], hg.block b hb fun h => ?_⟩⟩, fun b hb => by simp [hb], fun b hb => ?_⟩
    · have := hcol b (blk_own hR h.symm)
      rw [this] at hm; simp [memb] at hm
    · have : ¬ b < s.w.heap.size := by omega
      simp [this]
  obtain ⟨s', rfl, p, hold, hnew⟩ := hp
  have hsub : ∀ n, memb C n = true → memb (C ++ D) n = true := fun n hn => memb_iff.2 (List.mem_append_left _ (memb_iff.1 hn))
  have hsub' : ∀ n, memb D n = true → memb (C ++ D) n = true := fun n hn => memb_iff.2 (List.mem_append_right _ (memb_iff.1 hn))
  refine h v' s' p ⟨cells ++ cells', Value.blk v', by rw [List.length_append]; exact hR', fun b hb' => ?_, ?_⟩
  · rcases hb b hb' with h1 | h1
    · rw [hold b (hR.lt b h1)]; exact hcol b h1
    · exact hnew b h1
  · have h1 : ElsR K s.w (fun b => b < s.w.heap.size ∧ memb (C ++ D) (s.g b) = true) (xs ++ ys) (cells ++ cells') := (hE.mono fun b hb hl => ⟨hl, hsub _ hb⟩).append (hE'.mono fun b hb hl => ⟨hl, hsub' _ hb⟩)
    refine (h1.frame fun b hb hl => (p.same b hl ?_).2).mono fun b hb _ => by rw [hold b hb.1]; exact hb.2
    cases hm : memb [c] (s.g b) with
    | false => rfl
    | true =>
      have := memb_iff.1 hm
      simp at this
      rw [this] at hb
      rw [hb.2] at hc; cases hc
end
end Go.Proofs.YtcgbhldenkeplaaGreat.V
set_option linter.unusedVariables false
set_option linter.unusedSimpArgs false
namespace Go.Proofs.YtcgbhldenkeplaaGreat.V
open Go
section
variable {P : Program} {f : Who} {N : Nat} {O ρ : Type} {m : Option O} {G : O → Option ρ} {R : ρ → Ending → World → Prop} {e : Env} {s : St} {k : List Item} {ops : Array Oper} {i d : Nat} {rest : List Nat} {o : Oper}
end
end Go.Proofs.YtcgbhldenkeplaaGreat.V
set_option linter.unusedVariables false
set_option linter.unusedSimpArgs false
namespace Go.Proofs.YtcgbhldenkeplaaGreat.V
open Go
section
variable {P : Program} {f : Who} {N : Nat} {O ρ : Type} {m : Option O} {G : O → Option ρ} {R : ρ → Ending → World → Prop} {e : Env} {k : List Item} {ops : Array Oper}
variable {s : St} {i d : Nat} {rest : List Nat} {o : Oper}
end
end Go.Proofs.YtcgbhldenkeplaaGreat.V
set_option linter.unusedVariables false
set_option linter.unusedSimpArgs false
namespace Go.Proofs.YtcgbhldenkeplaaGreat.V
open Go
theorem rw_cells {α : Type} [Inhabited α] {K : Kd α} {te : TypeId} {s : St} {v : Value} {xs : List α} {c : Nat} {C : List Nat} {ii : Int} {ad : Addr} {es : List Value} (hO : RwF te K s v xs c C) (h0 : 0 ≤ ii) (h1 : ii < xs.length) (hA : IxA v K.n ii ad) (hel : es.length = K.n)
    (hC : ∀ j u, es[j]? = some u → s.w.cell? (ad.add j) = some u) : RdF K s es (at_ xs ii) C := by
  obtain ⟨cells, os, hR, hcol, hE⟩ := hO
  obtain ⟨Aa, l, cap2, hv, rfl⟩ := hA
  have hi : ii.toNat < xs.length := by omega
  obtain ⟨hl, hR2⟩ := hR
  rcases hR2 with ⟨h2, _⟩ | ⟨g, cap, cur, h2, hg, hlc, hcm, hsz, htk, rfl⟩
  · rw [h2] at hv; cases hv
  rw [h2] at hv
  simp only [Value.slice.injEq, Option.some.injEq] at hv
  obtain ⟨rfl, rfl, rfl⟩ := hv
  have hmul : (ii.toNat + 1) * K.n ≤ xs.length * K.n := Nat.mul_le_mul_right _ hi
  rw [Nat.add_mul, Nat.one_mul] at hmul
  have hK := hE.at_ ii.toNat hi
  have hchunk : (cells.drop (ii.toNat * K.n)).take K.n = es := by
    apply List.ext_getElem?
    intro j
    by_cases hj : j < K.n
    · have hcell := hC j es[j] (List.getElem?_eq_getElem (by omega))
      rw [Addr.add_add', Addr.add_mid, Nat.zero_add] at hcell
      have hw2 : s.w.cell? ⟨g, ii.toNat * K.n + j, none⟩ = cur[ii.toNat * K.n + j]? := hg.cell _
      rw [hw2, ← Array.getElem?_toList] at hcell
      rw [List.getElem?_take, if_pos hj, List.getElem?_drop, ← htk, List.getElem?_take, if_pos (by omega), hcell, List.getElem?_eq_getElem (by omega)]
    · rw [List.getElem?_eq_none (by simp; omega), List.getElem?_eq_none (by omega)]
  rw [hchunk] at hK
  rw [at_eq xs ii hi]
  exact hK
theorem rw_sharp {α : Type} [Inhabited α] {K : Kd α} {te : TypeId} {s : St} {v : Value} {xs : List α} {c : Nat} {C D E : List Nat} {ii : Int} {ad : Addr} {es : List Value} (hO : RwF te K s v xs c C) (h0 : 0 ≤ ii) (h1 : ii < xs.length) (hA : IxA v K.n ii ad) (hC : CeF s ad es D) (hX : RdF K s es (at_ xs ii) E) : RdF K s es (at_ xs ii) C :=
 rw_cells hO h0 h1 hA (K.rd_len hX) hC.2
abbrev RT {ρ : Type} (Q : ρ → Value → World → Prop) (r : ρ) (en : Ending) (w' : World) : Prop := ∃ v, en = .returned v ∧ Q r v w'
end Go.Proofs.YtcgbhldenkeplaaGreat.V
set_option linter.unusedVariables false
set_option linter.unusedSimpArgs false
namespace Go.Proofs.YtcgbhldenkeplaaGreat.V
open Go
def CutV (n L : Nat) (v : Value) (a b : Nat) (v' : Value) : Prop := ∃ A cap, v = .slice A L cap ∧ a ≤ b ∧ b ≤ cap ∧ v' = .slice (if cap = a then A else A.map (·.add (a * n))) (b - a) (cap - a)
def CapV (v : Value) (N : Nat) : Prop := ∃ A l cap, v = .slice A l cap ∧ N ≤ cap
section
variable {α : Type} {K : Kd α} {te : TypeId} {s : St} {v v' : Value} {xs : List α} {c : Nat}
theorem cut_e (hO : OwF (Kd.sl te K) s [v] xs c) {a b : Nat} (hab : a ≤ b) (hb : b ≤ xs.length) : ∃ v', CutV K.n xs.length v a b v' := by
 obtain ⟨os, ⟨v1, e1, cells, o1, o2, rfl, hR, hE⟩, hnd, hcol⟩ := hO
 obtain rfl : v = v1 := by simpa using e1
 rcases hR.2 with ⟨rfl, h2, _⟩ | ⟨g, cap, cur, rfl, _, hnc, _⟩
 · exact ⟨_, none, 0, by rw [h2], hab, by omega, rfl⟩
 · exact ⟨_, _, cap, rfl, hab, by omega, rfl⟩
theorem cut_ow (hK : FlK K) (hO : OwF (Kd.sl te K) s [v] xs c) {b : Nat} (hb : b ≤ xs.length) (hC : CutV K.n xs.length v 0 b v') : OwF (Kd.sl te K) s [v'] (xs.take b) c ∧ CapV v' xs.length := by
 obtain ⟨os, ⟨v1, e1, cells, o1, o2, rfl, hR, hE⟩, hnd, hcol⟩ := hO
 obtain rfl : v = v1 := by simpa using e1
 obtain ⟨A, cap', e2, _, hbc, rfl⟩ := hC
 have hE2 := hE.rd.take b
 have hlt : (xs.take b).length = b := by simp; omega
 have hA : ∀ B : Option Addr, (if cap' = 0 then B else Option.map (fun a : Addr => a.add (0 * K.n)) B) = B := fun B => by
  split
  · rfl
  · cases B <;> simp [add_zero]
 rw [hA, Nat.sub_zero, Nat.sub_zero]
 rcases hR.2 with ⟨e3, h2, rfl⟩ | ⟨g, cap, cur, e3, hg2, hnc, hcm, hcs, htake, rfl⟩
 · rw [e3] at e2
   simp only [Value.slice.injEq] at e2
   obtain ⟨rfl, _, rfl⟩ := e2
   have hb0 : b = 0 := by omega
   subst hb0
   exact ⟨ow_nil te K s c, ⟨_, _, _, rfl, by omega⟩⟩
 · rw [e3] at e2
   simp only [Value.slice.injEq, true_and] at e2
   obtain ⟨rfl, rfl⟩ := e2
   refine ⟨⟨[g] ++ [], ⟨_, rfl, cells.take (b * K.n), [g], [], rfl, ?_, hK.els _ hE2⟩, by simp, fun b' hb' => hcol b' (by simp at hb'; simp [hb'])⟩, ⟨_, _, _, rfl, hnc⟩⟩
   have hmul : b * K.n ≤ xs.length * K.n := Nat.mul_le_mul_right _ hb
   rw [hlt]
   refine ⟨by rw [List.length_take, hR.1]; omega, .inr ⟨g, cap, cur, rfl, hg2, by omega, hcm, hcs, ?_, rfl⟩⟩
   rw [← htake, List.take_take]
   congr 1
   omega
end
section
variable {P : Program} {f : Who} {N : Nat} {O ρ : Type} {m : Option O} {G : O → Option ρ} {R : ρ → Ending → World → Prop} {e : Env} {s : St} {k : List Item} {ops : Array Oper} {i d : Nat} {rest : List Nat} {o : Oper}
theorem cutRun {w : World} {t te n L : Nat} {v v' : Value} {a b : Nat} {lo hi : Option Value} (hC : CutV n L v a b v') (hu : P.underlying t = some (.slice te)) (hs : (P.info? te).map (·.size) = some n)
    (hlo : (lo = none ∧ a = 0) ∨ ∃ k, lo = some (.int k a)) (hhi : (hi = none ∧ b = L) ∨ ∃ k, hi = some (.int k b)) : (Instr.sliceAt t v lo hi none).run P w = .ok v' w := by
  obtain ⟨A, cap, rfl, hab, hb, rfl⟩ := hC
  exact cut_run hu hs hab hb hlo hhi
theorem slA_ {t te n L : Nat} {v v' : Value} {a : Int} {k1 : IntKind} {x p : Operand} (h0 : 0 ≤ a) (hC : CutV n L v a.toNat L v') (hu : P.underlying t = some (.slice te)) (hs : (P.info? te).map (·.size) = some n)
    (ho : ops[i]? = some o) (hd : o.dst = some d) (hN : Nat.blt d N = true) (hw : Region.wanted o (yv e ops) = true) (hop : o.op = .slice t x (some p) none none) (hx : ev e x = v) (hp : ev e p = .int k1 a)
    (h : TM P f N m G R (.inRegion ops rest :: k) (upd e d v') s.w) : TM P f N m G R (.inRegion ops (i :: rest) :: k) e s.w := by
  have hr := cutRun (P := P) (w := s.w) (lo := some (.int k1 a)) (hi := none) hC hu hs (.inr ⟨k1, by rw [Int.toNat_of_nonneg h0]⟩) (.inl ⟨rfl, rfl⟩)
  exact vl ho hd hN hw (by simp [execOp, hop, hx, hp, hr, Result.andThen]) h
theorem slH_ {t te n L : Nat} {v v' : Value} {b : Int} {k1 : IntKind} {x p : Operand} (h0 : 0 ≤ b) (hC : CutV n L v 0 b.toNat v') (hu : P.underlying t = some (.slice te)) (hs : (P.info? te).map (·.size) = some n)
    (ho : ops[i]? = some o) (hd : o.dst = some d) (hN : Nat.blt d N = true) (hw : Region.wanted o (yv e ops) = true) (hop : o.op = .slice t x none (some p) none) (hx : ev e x = v) (hp : ev e p = .int k1 b)
    (h : TM P f N m G R (.inRegion ops rest :: k) (upd e d v') s.w) : TM P f N m G R (.inRegion ops (i :: rest) :: k) e s.w := by
  have hr := cutRun (P := P) (w := s.w) (lo := none) (hi := some (.int k1 b)) hC hu hs (.inl ⟨rfl, rfl⟩) (.inr ⟨k1, by rw [Int.toNat_of_nonneg h0]⟩)
  exact vl ho hd hN hw (by simp [execOp, hop, hx, hp, hr, Result.andThen]) h
theorem clr_ {α : Type} {K : Kd α} {t te : TypeId} {y : Operand} {v u : Value} {xs : List α} {c a b : Nat} {z : Value} {x0 : α} (hK : FlK K) (hO : OwF (Kd.sl te K) s [v] xs c) (hC : CutV K.n xs.length v a b u) (ha : a ≤ xs.length) (hb : xs.length ≤ b)
    (hu : P.underlying t = some (.slice te)) (hz : (P.info? te).bind (·.zero) = some z) (hzs : Nat.beq z.cells.size K.n = true) (hn : Nat.ble 1 K.n = true) (h0 : ∀ w, K.ow w z.cells.toList x0 [])
    (ho : ops[i]? = some o) (hd : o.dst = none) (hw : Region.wanted o (yv e ops) = true) (hop : o.op = .call { callee := .builtin .clear, args := #[y], argTypes := #[t] }) (hy : ev e y = u)
    (h : ∀ s', Stp [c] s s' → OwF (Kd.sl te K) s' [v] (xs.take a ++ List.replicate (xs.length - a) x0) c → TM P f N m G R (.inRegion ops rest :: k) e s'.w) : TM P f N m G R (.inRegion ops (i :: rest) :: k) e s.w := by
  have hzs' := Nat.eq_of_beq_eq_true hzs
  have hn' := Nat.le_of_ble_eq_true hn
  have hrefl : Stp [c] s s := ⟨rfl, rfl, rfl, Nat.le_refl _, fun _ _ _ => rfl, fun _ _ _ => ⟨rfl, rfl⟩⟩
  have hO' := hO
  obtain ⟨os, ⟨v1, e1, cells, o1, o2, rfl, hR, hE⟩, hnd, hcol⟩ := hO
  obtain rfl : v = v1 := by simpa using e1
  obtain ⟨A, cap', e2, hab, hbc, rfl⟩ := hC
  have noop : a = b → (Builtin.clear_ #[t] o.type #[.slice (if cap' = a then A else A.map (·.add (a * K.n))) (b - a) (cap' - a)]).run P s.w = .ok (.tuple #[]) s.w := fun hab' => by
    subst hab'
    rw [Nat.sub_self]
    unfold Builtin.clear_
    generalize (if cap' = a then A else A.map (·.add (a * K.n))) = B
    cases B <;> simp [run_underlying hu, Result.andThen]
  have noop2 : a = b → TM P f N m G R (.inRegion ops (i :: rest) :: k) e s.w := fun hab' => by
    have hr := noop hab'
    refine TM.of (fun _ h => T_value0 (v := .tuple #[]) (w' := s.w) ho hd hw (by simp [execOp, hop, resolve, invoke, builtin, hy, hr, Result.andThen]) h) (h s hrefl ?_)
    have : a = xs.length := by omega
    subst this
    rw [List.take_length, Nat.sub_self]; simpa using hO'
  rcases hR.2 with ⟨e3, h2, _⟩ | ⟨g, cap, cur, e3, hg, hlc, hcm, hsz, htk, rfl⟩
  · rw [e3] at e2
    simp only [Value.slice.injEq] at e2
    exact noop2 (by omega)
  by_cases hab' : a = b
  · exact noop2 hab'
  rw [e3] at e2
  simp only [Value.slice.injEq, true_and] at e2
  obtain ⟨rfl, rfl⟩ := e2
  have hac : ¬ cap = a := by omega
  rw [if_neg hac] at hy
  simp only [Option.map_some, Addr.add_mid, Nat.zero_add] at hy
  have hzE : ∀ w l, ElsO K w (List.replicate l x0) (Builtin.zeroCells z.cells l).toList [] := fun w l => by rw [zero_made, hzs']; exact made_els hzs' hn' h0 w l
  have hzl : (Builtin.zeroCells z.cells (b - a)).toList.length = (b - a) * K.n := by rw [Array.length_toList, size_zeroCells, hzs']
  have hm1 : a * K.n ≤ b * K.n := Nat.mul_le_mul_right _ hab
  have hm2 : b * K.n ≤ cap * K.n := Nat.mul_le_mul_right _ hbc
  have hm3 : a * K.n ≤ xs.length * K.n := Nat.mul_le_mul_right _ ha
  have hm4 : xs.length * K.n ≤ b * K.n := Nat.mul_le_mul_right _ hb
  have hsub : (b - a) * K.n = b * K.n - a * K.n := Nat.sub_mul _ _ _
  have hst := storeCells_hr P g (a * K.n) te (Builtin.zeroCells z.cells (b - a)).toList 0 cur s.w hg (by rw [hzl, hsz]; omega) (hzE s.w (b - a)).rd.one
  simp only [Nat.add_zero, hzl] at hst
  have hrun : (Builtin.clear_ #[t] o.type #[.slice (some ⟨g, a * K.n, none⟩) (b - a) (cap - a)]).run P s.w = .ok (.tuple #[]) (s.w.setRow g (cur.toList.take (a * K.n) ++ (Builtin.zeroCells z.cells (b - a)).toList ++ cur.toList.drop (a * K.n + (b - a) * K.n)).toArray) := by
    obtain ⟨q, hq⟩ : ∃ q, b - a = q + 1 := ⟨b - a - 1, by omega⟩
    rw [hq] at hst ⊢
    simp [Builtin.clear_, run_underlying hu, zero_run hz, hst, Result.andThen]
  refine TM.of (fun _ h => T_value0 (v := .tuple #[]) (w' := s.w.setRow g (cur.toList.take (a * K.n) ++ (Builtin.zeroCells z.cells (b - a)).toList ++ cur.toList.drop (a * K.n + (b - a) * K.n)).toArray) ho hd hw (by simp [execOp, hop, resolve, invoke, builtin, hy, hrun, Result.andThen]) h) (h ⟨_, s.g⟩ ⟨rfl, rfl, rfl, by simp, fun _ _ _ => rfl, fun b' hb' hm => ⟨rfl, setRow_other s.w g b' _ fun e => ?_⟩⟩ ?_)
  · rw [e, hcol g (by simp)] at hm; simp [memb] at hm
  · have hcl : cells.length = xs.length * K.n := hR.1
    have hlen : (xs.take a ++ List.replicate (xs.length - a) x0).length = xs.length := by simp; omega
    have hE1 := ((hE.rd.take a).mono (F' := fun _ => True) fun _ _ _ => trivial).append ((hzE s.w (xs.length - a)).rd.mono (F' := fun _ => True) fun _ _ _ => trivial)
    have hE2 := hK.els (s.w.setRow g (cur.toList.take (a * K.n) ++ (Builtin.zeroCells z.cells (b - a)).toList ++ cur.toList.drop (a * K.n + (b - a) * K.n)).toArray) hE1
    refine ⟨[g] ++ [], ⟨v, rfl, _, [g], [], rfl, ⟨?_, .inr ⟨g, cap, _, by rw [hlen]; exact e3, (by have := hg.row3 (a * K.n) (Builtin.zeroCells z.cells (b - a)).toList (by rw [hzl, hsz]; omega); rw [hzl] at this; exact this), by rw [hlen]; exact hlc, hcm, ?_, ?_, rfl⟩⟩, hE2⟩, by simp, fun b' hb' => hcol b' (by simp at hb'; simp [hb'])⟩
    · have hz2 : (Builtin.zeroCells z.cells (xs.length - a)).toList.length = (xs.length - a) * K.n := by rw [Array.length_toList, size_zeroCells, hzs']
      rw [hlen, List.length_append, List.length_take, hz2, hcl, Nat.sub_mul]; omega
    · simp only [List.size_toArray, List.length_append, List.length_take, List.length_drop, Array.length_toList, hsz, size_zeroCells, hzs']; omega
    · rw [hlen]
      have e5 : (cells.take (a * K.n)) = cur.toList.take (a * K.n) := by rw [← htk, List.take_take]; congr 1; omega
      have e6 : (Builtin.zeroCells z.cells (b - a)).toList.take (xs.length * K.n - a * K.n) = (Builtin.zeroCells z.cells (xs.length - a)).toList := by
        apply List.ext_getElem
        · have hz2 : (Builtin.zeroCells z.cells (xs.length - a)).toList.length = (xs.length - a) * K.n := by rw [Array.length_toList, size_zeroCells, hzs']
          have hsub2 : (xs.length - a) * K.n = xs.length * K.n - a * K.n := Nat.sub_mul _ _ _
          rw [List.length_take, hzl, hz2, hsub, hsub2]; omega
        · intro j h1 h2
          simp [Builtin.zeroCells]
      rw [e5]
      have hla : (cur.toList.take (a * K.n)).length = a * K.n := by rw [List.length_take, Array.length_toList, hsz]; omega
      rw [List.append_assoc, List.take_append, hla, List.take_of_length_le (by rw [hla]; omega), List.take_append, hzl, e6, show xs.length * K.n - a * K.n - (b - a) * K.n = 0 by omega, List.take_zero, List.append_nil]
theorem sets_all : ∀ (vs cs : List Value), cs.length = vs.length → sets cs 0 vs = vs := by
 have key : ∀ (vs : List Value) (q : Nat) (cs : List Value), cs.length = q + vs.length → sets cs q vs = cs.take q ++ vs := by
  intro vs
  induction vs with
  | nil => intro q cs h; simp only [sets]; rw [List.take_of_length_le (by simp at h; omega), List.append_nil]
  | cons v vs ih =>
   intro q cs h
   simp only [sets]
   rw [ih (q + 1) (cs.set q v) (by rw [List.length_set, h, List.length_cons]; omega), List.take_succ_eq_append_getElem (by rw [List.length_set, h, List.length_cons]; omega)]
   simp [List.take_set_of_le]
 intro vs cs h
 simpa using key vs 0 cs (by simpa using h)
theorem svp {t b : Nat} {tb : TypeId} {x y : Operand} {cs vs : List Value} {c : Nat} (hB : BlF s b tb cs c) (hs : (P.info? t).map (·.size) = some vs.length) (hv : ∀ v ∈ vs, v.oneCell' = true) (hl : cs.length = vs.length)
    (ho : ops[i]? = some o) (hd : o.dst = none) (hw : Region.wanted o (yv e ops) = true) (hop : o.op = .store t x y) (hx : ev e x = .pointer (some ⟨b, 0, none⟩)) (hy : ev e y = .agg vs.toArray)
    (h : ∀ s', Stp [c] s s' → BlF s' b tb vs c → TM P f N m G R (.inRegion ops rest :: k) e s'.w) : TM P f N m G R (.inRegion ops (i :: rest) :: k) e s.w :=
  sva (q := 0) hB hs ho hd hw hop hx hy (List.all_eq_true.2 hv) (by rw [Nat.zero_add, hl]; exact Nat.ble_self_eq_true _) fun s' p hB' => h s' p (by rw [sets_all vs cs hl] at hB'; exact hB')
theorem ldp {t b : Nat} {tb : TypeId} {dd : TypeDesc} {x : Operand} {cs : List Value} {c : Nat} (hB : BlF s b tb cs c) (hu : P.underlying t = some dd) (hs : (P.info? t).map (·.size) = some cs.length)
    (ho : ops[i]? = some o) (hd : o.dst = some d) (hN : Nat.blt d N = true) (hw : Region.wanted o (yv e ops) = true) (hop : o.op = .load t x) (hr : dd.isRow = true) (hx : ev e x = .pointer (some ⟨b, 0, none⟩))
    (h : TM P f N m G R (.inRegion ops rest :: k) (upd e d (.agg cs.toArray)) s.w) : TM P f N m G R (.inRegion ops (i :: rest) :: k) e s.w :=
  lda (q := 0) hB hu hs ho hd hN hw hop hr hx (by simp) h
end
end Go.Proofs.YtcgbhldenkeplaaGreat.V
set_option linter.unusedVariables false
set_option linter.unusedSimpArgs false
set_option linter.unusedSectionVars false
namespace Go.Proofs.YtcgbhldenkeplaaGreat.V
open Go
section
variable {α : Type} [Inhabited α]
theorem wr64 {n : Int} (h0 : -9223372036854775808 ≤ n) (h1 : n ≤ 9223372036854775807) : IntKind.i64.wrap n = n := by
 rw [IntKind.wrap_i64]; omega
theorem at_n (xs : List α) (k : Nat) (h : k < xs.length) : at_ xs (k : Int) = xs[k] := by rw [at_eq xs _ (by simpa using h)]; simp
theorem it_l {S O : Type} {body : S → Option (S ⊕ O)} {s s' : S} (h : body s = some (.inl s')) : iter body s = iter body s' := by rw [iter_eq, h]; rfl
theorem it_r {S O : Type} {body : S → Option (S ⊕ O)} {s : S} {o : O} (h : body s = some (.inr o)) : iter body s = some o := by rw [iter_eq, h]; rfl
noncomputable def ixB (a0 : List α) (a1 : α → Option Bool) (x2 : Int) : Option (Int ⊕ Int) :=
 (if (decide (x2 < (a0.length : Int))) = true then (if 0 ≤ x2 ∧ x2 < (a0.length : Int) then ((a1 (at_ a0 x2)).bind fun r8 => (if r8 = true then (some (Sum.inr x2)) else (some (Sum.inl (IntKind.wrap .i64 (x2 + (1 : Int))))))) else none) else ((some (-1 : Int)).bind fun o => some (Sum.inr o)))
noncomputable def dfB (z : α) (a1 : α → Option Bool) (x7 : List α × Int × Int) : Option ((List α × Int × Int) ⊕ List α) :=
 (if (decide (x7.2.2 < (x7.1.length : Int))) = true then (if 0 ≤ x7.2.2 ∧ x7.2.2 < (x7.1.length : Int) then ((a1 (at_ x7.1 x7.2.2)).bind fun r20 => ((if (!r20) = true then (if 0 ≤ x7.2.1 ∧ x7.2.1 < (x7.1.length : Int) then (some ((x7.1.set (x7.2.1).toNat (at_ x7.1 x7.2.2)), (IntKind.wrap .i64 (x7.2.1 + (1 : Int))))) else none) else (some (x7.1, x7.2.1))).bind fun y22 => (some (Sum.inl (y22.1, y22.2, (IntKind.wrap .i64 (x7.2.2 + (1 : Int)))))))) else none) else ((if 0 ≤ x7.2.1 ∧ x7.2.1 ≤ (x7.1.length : Int) then (if 0 ≤ x7.2.1 ∧ x7.2.1 ≤ ((x7.1.take (x7.2.1).toNat ++ List.replicate (x7.1.length - (x7.2.1).toNat) z).length : Int) then (some ((x7.1.take (x7.2.1).toNat ++ List.replicate (x7.1.length - (x7.2.1).toNat) z).take (x7.2.1).toNat)) else none) else none).bind fun o => some (Sum.inr o)))
noncomputable def dfM (z : α) (a0 : List α) (a1 : α → Option Bool) : Option (List α) := ((iter (ixB a0 a1) (0 : Int)).bind fun r2 => (if (r2 == (-1 : Int)) = true then (some a0) else (iter (dfB z a1) (a0, r2, (IntKind.wrap .i64 (r2 + (1 : Int)))))))
theorem ix_some (a0 : List α) (a1 : α → Option Bool) (g : α → Bool) (hl : a0.length ≤ maxLen) (h : ∀ x ∈ a0, a1 x = some (g x)) : ∃ r, iter (ixB a0 a1) (0 : Int) = some r ∧ ((r = -1 ∧ ∀ x ∈ a0, g x = false) ∨ ∃ (k : Nat) (hk : k < a0.length), r = (k : Int) ∧ g a0[k] = true ∧ ∀ x ∈ a0.take k, g x = false) := by
 have hl' := hl
 simp only [maxLen] at hl'
 have key : ∀ (m k : Nat), k + m = a0.length → (∀ x ∈ a0.take k, g x = false) → ∃ r, iter (ixB a0 a1) (k : Int) = some r ∧ ((r = -1 ∧ ∀ x ∈ a0, g x = false) ∨ ∃ (k : Nat) (hk : k < a0.length), r = (k : Int) ∧ g a0[k] = true ∧ ∀ x ∈ a0.take k, g x = false) := by
  intro m
  induction m with
  | zero =>
   intro k hk hb
   have : k = a0.length := by omega
   subst this
   refine ⟨-1, it_r ?_, .inl ⟨rfl, by simpa using hb⟩⟩
   unfold ixB
   rw [if_neg (by simp)]; rfl
  | succ m ih =>
   intro k hk hb
   have hk1 : k < a0.length := by omega
   have hx := h _ (List.getElem_mem hk1)
   cases hg : g a0[k] with
   | true =>
    refine ⟨(k : Int), it_r ?_, .inr ⟨k, hk1, rfl, hg, hb⟩⟩
    unfold ixB
    rw [if_pos (by simp; omega), if_pos ⟨by omega, by omega⟩, at_n _ k hk1, hx, Option.bind_some, hg, if_pos rfl]
   | false =>
    obtain ⟨r, hr, hq⟩ := ih (k + 1) (by omega) (fun x hx' => by
     rw [List.take_succ_eq_append_getElem hk1] at hx'
     rcases List.mem_append.1 hx' with h1 | h1
     · exact hb x h1
     · simp at h1; rw [h1]; exact hg)
    refine ⟨r, ?_, hq⟩
    rw [← hr]
    refine it_l ?_
    unfold ixB
    rw [if_pos (by simp; omega), if_pos ⟨by omega, by omega⟩, at_n _ k hk1, hx, Option.bind_some, hg, if_neg (by decide), wr64 (by omega) (by omega)]; rfl
 exact key a0.length 0 (by omega) (by simp)
theorem dfM_eq (z : α) (a0 : List α) (a1 : α → Option Bool) (g : α → Bool) (hl : a0.length ≤ maxLen) (h : ∀ x ∈ a0, a1 x = some (g x)) : dfM z a0 a1 = some (a0.filter fun x => !g x) := by
 have hl' := hl
 simp only [maxLen] at hl'
 obtain ⟨r, hr, hq⟩ := ix_some a0 a1 g hl h
 unfold dfM
 rw [hr, Option.bind_some]
 rcases hq with ⟨rfl, hall⟩ | ⟨k0, hk0, rfl, hgk, hb⟩
 · rw [if_pos (by decide), List.filter_eq_self.2 fun x hx => by rw [hall x hx]; rfl]
 · rw [if_neg (by simp), wr64 (by omega) (by omega)]
   -- behind j elements of the row, those that stay lie ahead
   have key : ∀ (m j : Nat) (l : List α) (i : Nat), j + m = a0.length → l.length = a0.length → i ≤ j → (∀ q, j ≤ q → l[q]? = a0[q]?) → l.take i = (a0.take j).filter (fun x => !g x) → iter (dfB z a1) (l, (i : Int), (j : Int)) = some (a0.filter fun x => !g x) := by
    intro m
    induction m with
    | zero =>
     intro j l i hj hll hij hrest htk
     have : j = a0.length := by omega
     subst this
     refine it_r ?_
     unfold dfB
     simp only []
     rw [if_neg (by rw [hll]; simp), if_pos ⟨by omega, by omega⟩, if_pos ⟨by omega, by simp; omega⟩, Option.bind_some, Int.toNat_natCast]
     rw [List.take_append_of_le_length (by rw [List.length_take]; omega), List.take_take, Nat.min_self, htk, List.take_length]
    | succ m ih =>
     intro j l i hj hll hij hrest htk
     have hj1 : j < a0.length := by omega
     have hlj : l[j]'(by omega) = a0[j] := by
      have := hrest j (Nat.le_refl _)
      rw [List.getElem?_eq_getElem (by omega), List.getElem?_eq_getElem hj1] at this
      exact Option.some.inj this
     have hx := h _ (List.getElem_mem hj1)
     have hbody : dfB z a1 (l, (i : Int), (j : Int)) = if g a0[j] = true then some (.inl (l, (i : Int), ((j + 1 : Nat) : Int))) else some (.inl (l.set i a0[j], ((i + 1 : Nat) : Int), ((j + 1 : Nat) : Int))) := by
      unfold dfB
      simp only []
      rw [if_pos (by rw [hll]; simp; omega), if_pos ⟨by omega, by omega⟩, at_n l j (by omega), hlj, hx, Option.bind_some]
      cases hg : g a0[j] with
      | true => rw [if_neg (by decide), Option.bind_some, if_pos rfl, wr64 (by omega) (by omega)]; rfl
      | false =>
       rw [if_pos (by decide), if_pos ⟨by omega, by omega⟩, Option.bind_some, if_neg (by decide), wr64 (by omega) (by omega), wr64 (by omega) (by omega)]; rfl
     cases hg : g a0[j] with
     | true =>
      rw [hg, if_pos rfl] at hbody
      rw [it_l hbody]
      refine ih (j + 1) l i (by omega) hll (by omega) (fun q hq => hrest q (by omega)) ?_
      rw [htk, List.take_succ_eq_append_getElem hj1, List.filter_append]
      simp [hg]
     | false =>
      rw [hg, if_neg (by decide)] at hbody
      rw [it_l hbody]
      refine ih (j + 1) (l.set i a0[j]) (i + 1) (by omega) (by rw [List.length_set]; exact hll) (by omega) (fun q hq => by rw [List.getElem?_set_ne (by omega)]; exact hrest q (by omega)) ?_
      rw [List.take_succ_eq_append_getElem (by rw [List.length_set]; omega), List.take_set_of_le (Nat.le_refl _), htk, List.take_succ_eq_append_getElem hj1, List.filter_append]
      simp [hg]
   refine key (a0.length - (k0 + 1)) (k0 + 1) a0 k0 (by omega) rfl (by omega) (fun _ _ => rfl) ?_
   rw [List.take_succ_eq_append_getElem hk0, List.filter_append, List.filter_eq_self.2 fun x hx => by rw [hb x hx]; rfl]
   simp [hgk]
end
section
variable {β : Type} [Inhabited β] {K : Kd β} {te : TypeId}
def PkB (K : Kd β) (s : St) (ps : List (Pk β × List Nat)) (c : Nat) : Prop := (∀ p ∈ ps, K.ow s.w p.1.cs p.1.x p.2) ∧ ((ps.map (·.2)).flatten).Nodup ∧ ∀ b ∈ (ps.map (·.2)).flatten, s.g b = c
theorem mem_fl {ps : List (Pk β × List Nat)} {p : Pk β × List Nat} (h : p ∈ ps) {b : Nat} (hb : b ∈ p.2) : b ∈ (ps.map (·.2)).flatten := List.mem_flatten.2 ⟨p.2, List.mem_map.2 ⟨p, h, rfl⟩, hb⟩
theorem PkB.st {s s' : St} {S : List Nat} {ps : List (Pk β × List Nat)} {c : Nat} (h : PkB K s ps c) (p : Stp S s s') (d : memb S c = false) : PkB K s' ps c := by
 refine ⟨fun q hq => K.ow_frame (h.1 q hq) fun b hb hl => (p.same b hl (by rw [h.2.2 b (mem_fl hq hb)]; exact d)).2, h.2.1, fun b hb => ?_⟩
 obtain ⟨l, hl, hbl⟩ := List.mem_flatten.1 hb
 obtain ⟨q, hq, rfl⟩ := List.mem_map.1 hl
 rw [(p.same b (K.ow_lt (h.1 q hq) b hbl) (by rw [h.2.2 b hb]; exact d)).1, h.2.2 b hb]
theorem pk_fw {w w' : World} {v : Value} {ps qs : List (Pk β × List Nat)} {o1 o2 : List Nat} (hn : (o1 ++ o2).Nodup) (ho : (ps.map (·.2)).flatten = o2) (hlt : ∀ b ∈ o2, b < w.heap.size) (hsl : qs.Sublist ps) (hst : ∀ p ∈ ps, K.ow w' p.1.cs p.1.x p.2)
    (hfw : FW (Kd.sl te (Kd.pk β K.n)) o1 w w' [v] (qs.map (·.1))) : FW (Kd.sl te K) (o1 ++ o2) w w' [v] (qs.map fun p => p.1.x) := by
  obtain ⟨os', ⟨v', e5, cells', p1, p2, rfl, hrow5, hels5⟩, hnd5, hsub5⟩ := hfw
  obtain rfl : v = v' := by simpa using e5
  obtain ⟨hcs5, hp2⟩ := pk_cells hels5
  subst hp2
  have hos2 : ((qs.map (·.2)).flatten).Sublist o2 := by rw [← ho]; exact flat_sub _ hsl
  refine ⟨p1 ++ (qs.map (·.2)).flatten, ⟨v, rfl, cells', p1, _, rfl, ?_, ?_⟩, ?_, fun b hb => ?_⟩
  · rw [List.length_map] at hrow5 ⊢; exact hrow5
  · rw [hcs5, List.map_map]; exact pk_back qs fun p hp => hst p (hsl.subset hp)
  · refine List.nodup_append.2 ⟨by simpa using hnd5, hos2.nodup (List.nodup_append.1 hn).2.1, fun a ha b hb hab => ?_⟩
    subst hab
    have hb2 := hos2.subset hb
    rcases hsub5 a (by simpa using ha) with h | h
    · exact (List.nodup_append.1 hn).2.2 a h a hb2 rfl
    · have := hlt a hb2
      omega
  · rcases List.mem_append.1 hb with hb | hb
    · rcases hsub5 b (by simpa using hb) with h | h
      · exact .inl (List.mem_append_left _ h)
      · exact .inr h
    · exact .inl (List.mem_append_right _ (hos2.subset hb))
end
end Go.Proofs.YtcgbhldenkeplaaGreat.V
set_option linter.unusedVariables false
set_option linter.unusedSimpArgs false
namespace Go.Proofs.YtcgbhldenkeplaaGreat.V
open Go
def cov : List Nat → List Nat → List Nat → Bool
 | [], _, _ => true
 | c :: D, E, C => (memb E c || memb C c) && cov D E C
theorem cov_out {D E C : List Nat} (h : cov D E C = true) {n : Nat} (hn : memb D n = true) : memb E n = true ∨ memb C n = true := by
 induction D with
 | nil => cases hn
 | cons c D ih =>
  simp only [cov, Bool.and_eq_true, Bool.or_eq_true] at h
  simp only [memb, Bool.or_eq_true] at hn
  rcases hn with hn | hn
  · have := Nat.eq_of_beq_eq_true hn
    subst this; exact h.1
  · exact ih h.2 hn
structure Rc (E : List Nat) (q : Nat) (s s' : St) : Prop where
 w : s.w = s'.w
 inn : ∀ b, memb E (s.g b) = true → s'.g b = q
 out : ∀ b, memb E (s.g b) = false → s'.g b = s.g b
theorem RdF.rc {α : Type} {K : Kd α} {s s' : St} {cs : List Value} {x : α} {D E C : List Nat} {q : Nat} (h : RdF K s cs x D) (r : Rc E q s s') (hq : memb C q = true) (hc : cov D E C = true) : RdF K s' cs x C := by
 unfold RdF at h ⊢
 rw [← r.w]
 refine K.rd_mono h fun b hb _ => ?_
 rcases cov_out hc hb with h1 | h1
 · rw [r.inn b h1]; exact hq
 · cases hm : memb E (s.g b) with
   | true => rw [r.inn b hm]; exact hq
   | false => rw [r.out b hm]; exact h1
end Go.Proofs.YtcgbhldenkeplaaGreat.V
set_option linter.unusedVariables false
set_option linter.unusedSimpArgs false
namespace Go.Proofs.YtcgbhldenkeplaaGreat.V
open Go
theorem ZN.bl {F : Nat → Prop} {ps : List (List Nat × Nat)} {s : St} (z : ZN F ps s) {b c : Nat} {t : TypeId} {cs : List Value} (hm : ([b], c) ∈ ps) (h : BlW s.w b t cs) : BlF s b t cs c := ⟨h, z.pt _ hm b (by simp)⟩
section
variable {P : Program} {N : Nat} {e : Env} {s : St} {ops : Array Oper} {i d : Nat} {o : Oper}
end
end Go.Proofs.YtcgbhldenkeplaaGreat.V
set_option linter.unusedVariables false
set_option linter.unusedSimpArgs false
set_option linter.unusedSectionVars false
namespace Go.Proofs.YtcgbhldenkeplaaGreat.V
open Go
theorem delG {P : Program} {f te : Nat} {β : Type} [Inhabited β] {K : Kd β} {D : List (Pk β) → (Pk β → Option Bool) → Option (List (Pk β))}
    (hc : ∀ (a0 : List (Pk β)) (a1 : Pk β → Option Bool) (w : World) (F : Nat → Prop) (w0 f1 : Value) (os : List Nat) (h0 : (Kd.sl te (Kd.pk β K.n)).ow w [w0] a0 os) (hn : os.Nodup) (hF : ∀ b, F b → b ∉ os)
      (hf1 : ∀ (x0 : Pk β) (w' : World), Ky os w w' → ∀ r, a1 x0 = some r → CallV P f1 [.agg x0.cs.toArray] w' fun en w'' => ∃ v, en = .returned v ∧ v = .bool r ∧ Ky [] w' w'') (ho1 : f1.cells = #[f1])
      (r : List (Pk β)) (m : D a0 a1 = some r),
      Calls P f #[w0, f1] w fun en w' => ∃ v, en = .returned v ∧ FW (Kd.sl te (Kd.pk β K.n)) os w w' [v] r ∧ Ky os w w')
    (hD : ∀ (a0 : List (Pk β)) (a1 : Pk β → Option Bool) (g : Pk β → Bool), a0.length ≤ maxLen → (∀ p ∈ a0, a1 p = some (g p)) → D a0 a1 = some (a0.filter fun p => !g p))
    (a0 : List β) (a1 : β → Option Bool) (w : World) (w0 f1 : Value) (os : List Nat) (h0 : (Kd.sl te K).ow w [w0] a0 os) (hn : os.Nodup)
    (hf1 : ∀ (x0 : β) (cs : List Value) (w' : World), Ky os w w' → K.rd w' cs x0 (fun _ => True) → ∀ r, a1 x0 = some r → CallV P f1 [.agg cs.toArray] w' fun en w'' => ∃ v, en = .returned v ∧ v = .bool r ∧ Ky [] w' w'') (ho1 : f1.cells = #[f1])
    (r : List β) (m : delF a0 a1 = some r) :
    Calls P f #[w0, f1] w fun en w' => ∃ v, en = .returned v ∧ FW (Kd.sl te K) os w w' [v] r ∧ Ky os w w' := by
  obtain ⟨v, e1, cells, o1, o2, rfl, hrow, hels⟩ := h0
  obtain rfl : w0 = v := by simpa using e1
  obtain ⟨ps, hx, ho, hcs, hp⟩ := pk_of hels
  have hl : (ps.map (·.1)).length = a0.length := by rw [← hx]; simp
  have hn1 : o1.Nodup := (List.nodup_append.1 hn).1
  have hpk : (Kd.sl te (Kd.pk β K.n)).ow w [w0] (ps.map (·.1)) o1 := ⟨_, rfl, cells, o1, [], by simp, by rw [hl]; exact hrow, by rw [← hcs]; exact pk_els w ps hp⟩
  have hml : a0.length ≤ maxLen := by
    rcases hrow.2 with ⟨_, h, _⟩ | ⟨g, cap, cur, _, _, h1, h2, _⟩
    · rw [h]; exact Nat.zero_le _
    · omega
  obtain ⟨hall, hr⟩ := delF_out m
  have hstay : ∀ w', Ky o1 w w' → ∀ p ∈ ps, K.ow w' p.1.cs p.1.x p.2 := fun w' k p hpm => K.ow_frame (hp p hpm) fun b hb hl => k.same b hl fun hm => (List.nodup_append.1 hn).2.2 b hm b (by rw [← ho]; exact mem_fl hpm hb) rfl
  let A : Pk β → Option Bool := fun q => open Classical in if q ∈ ps.map (·.1) then a1 q.x else none
  have hA : ∀ q ∈ ps.map (·.1), A q = some ((a1 q.x).getD false) := fun q hq => by
    have hq2 : q.x ∈ a0 := by
      obtain ⟨p, hp1, rfl⟩ := List.mem_map.1 hq
      rw [← hx]; exact List.mem_map.2 ⟨p, hp1, rfl⟩
    obtain ⟨b, hb⟩ := hall _ hq2
    simp only [A, if_pos hq, hb, Option.getD_some]
  have hm := hD (ps.map (·.1)) A (fun q => (a1 q.x).getD false) (by rw [hl]; exact hml) hA
  have key := hc (ps.map (·.1)) A w (fun b => b ∈ o2) w0 f1 o1 hpk hn1 (fun b hb hm => (List.nodup_append.1 hn).2.2 b hm b hb rfl) (fun q w' k r hqr => by
    by_cases hq : q ∈ ps.map (·.1)
    · simp only [A, if_pos hq] at hqr
      obtain ⟨p, hp1, rfl⟩ := List.mem_map.1 hq
      exact hf1 p.1.x p.1.cs w' ⟨k.os, k.tape, k.output, k.size, fun b hb hm => k.same b hb fun h => hm (List.mem_append_left _ h)⟩ (K.rd_mono (K.ow_rd (hstay w' k p hp1)) fun _ _ _ => trivial) r hqr
    · simp only [A, if_neg hq] at hqr; cases hqr) ho1 _ hm
  have hfil : (ps.map (·.1)).filter (fun q => !(a1 q.x).getD false) = (ps.filter fun p => !(a1 p.1.x).getD false).map (·.1) := by rw [List.filter_map]; rfl
  have hr2 : r = (ps.filter fun p => !(a1 p.1.x).getD false).map fun p => p.1.x := by rw [hr, ← hx, List.filter_map]; rfl
  refine key.mono fun en w' ⟨v, he, hfw, ky⟩ => ⟨v, he, ?_, ⟨ky.os, ky.tape, ky.output, ky.size, fun b hb hm => ky.same b hb fun h => hm (List.mem_append_left _ h)⟩⟩
  rw [hfil] at hfw
  rw [hr2]
  exact pk_fw hn ho (fun b hb => hels.lt b hb) List.filter_sublist (hstay w' ky) hfw
end Go.Proofs.YtcgbhldenkeplaaGreat.V
set_option linter.unusedVariables false
set_option linter.unusedSimpArgs false
namespace Go.Proofs.YtcgbhldenkeplaaGreat.V
open Go
structure Wg (w w' : World) : Prop where
 os : w'.os = w.os
 tape : w'.tape = w.tape
 output : w'.output = w.output
 size : w.heap.size ≤ w'.heap.size
structure LpZ where
 l : Nat
 D : Nat
 lp : Loop
structure LoopF (Z : LpZ) (c : Nat) (st : LoopState) (s : St) : Prop where
 lh : s.w.heap[Z.l]? = some (.loop { Z.lp with state := st })
 dh : s.w.heap[Z.D]? = some (.deferred (some []))
 lc : s.g Z.l = c
 dc : s.g Z.D = c
 ne : Z.l ≠ Z.D
 pe : Z.lp.pending = none
theorem LoopF.st {Z : LpZ} {c : Nat} {st : LoopState} {s s' : St} {S : List Nat} (h : LoopF Z c st s) (p : Stp S s s') (d : memb S c = false) : LoopF Z c st s' := by
 have h1 := p.same Z.l (Array.getElem?_eq_some_iff.1 h.lh).1 (by rw [h.lc]; exact d)
 have h2 := p.same Z.D (Array.getElem?_eq_some_iff.1 h.dh).1 (by rw [h.dc]; exact d)
 exact ⟨h1.2.trans h.lh, h2.2.trans h.dh, h1.1.trans h.lc, h2.1.trans h.dc, h.ne, h.pe⟩
theorem LoopF.set {Z : LpZ} {c : Nat} {st : LoopState} {s : St} (h : LoopF Z c st s) (st' : LoopState) : ∃ s' : St, s'.w = s.w.putObj Z.l (.loop { Z.lp with state := st' }) ∧ Stp [c] s s' ∧ LoopF Z c st' s' := by
 refine ⟨⟨s.w.putObj Z.l (.loop { Z.lp with state := st' }), s.g⟩, rfl, ⟨rfl, rfl, rfl, by simp, fun _ _ _ => rfl, fun b hb hm => ⟨rfl, ?_⟩⟩, ⟨World.putObj_heap_same (Array.getElem?_eq_some_iff.1 h.lh).1, ?_, h.lc, h.dc, h.ne, h.pe⟩⟩
 · refine World.putObj_heap_other fun e => ?_
   subst e; rw [h.lc] at hm; simp [memb] at hm
 · exact (World.putObj_heap_other (Ne.symm h.ne)).trans h.dh
theorem Kp.tr {s0 s' s2 : St} (h : Kp s0 s') (k : Kp s' s2) : Kp s0 s2 := by
 refine ⟨k.os.trans h.os, k.tape.trans h.tape, k.output.trans h.output, Nat.le_trans h.size k.size, fun b hb hl => ?_, fun b hb h2 => ?_⟩
 · have h1 := h.col b hb hl
   rw [k.col b (Nat.lt_of_lt_of_le hb h.size) (by rw [h1]; exact hl), h1]
 · have h1 := h.col b hb (by omega)
   rw [k.same b (Nat.lt_of_lt_of_le hb h.size) (by rw [h1]; exact h2)]
   exact h.same b hb h2
def JF {σ : Type} (J : σ → World → Prop) (s : St) (y : σ) : Prop := J y s.w
theorem Stp.ky {s s' : St} (p : Stp [] s s') : Ky [] s.w s'.w := ⟨p.os, p.tape, p.output, p.size, fun b hb _ => (p.same b hb rfl).2⟩
theorem JF.st {σ : Type} {J : σ → World → Prop} {s s' : St} {y : σ} (h : JF J s y) (hJ : ∀ y w w', J y w → Ky [] w w' → J y w') (p : Stp [] s s') : JF J s' y := hJ _ _ _ h p.ky
section
variable {P : Program} {f : Who} {N : Nat} {O ρ : Type} {m : Option O} {G : O → Option ρ} {R : ρ → Ending → World → Prop} {e : Env} {s : St} {w : World} {k : List Item} {ops : Array Oper} {i d : Nat} {rest : List Nat} {o : Oper}
end
end Go.Proofs.YtcgbhldenkeplaaGreat.V
set_option linter.unusedVariables false
set_option linter.unusedSimpArgs false
namespace Go.Proofs.YtcgbhldenkeplaaGreat.V
open Go
theorem Hr.mark {P : Program} {w : World} {g : Nat} {cur : Array Value} {e : TypeId} (h : Hr w g cur e) : (markStringish ⟨g, 0, none⟩).run P w = .ok () (w.freeze ⟨g, cur.size, none⟩ 1) ∧ Hr (w.freeze ⟨g, cur.size, none⟩ 1) g cur e ∧ (∀ b, b ≠ g → (w.freeze ⟨g, cur.size, none⟩ 1).heap[b]? = w.heap[b]?) ∧ (w.freeze ⟨g, cur.size, none⟩ 1).heap.size = w.heap.size := by
 obtain ⟨⟨lo, hi⟩, h, h2⟩ := h
 have hsh : w.shape? g = some (e, cur.size) := by unfold World.shape?; rw [h]
 refine ⟨?_, ⟨(if lo == hi then (cur.size, cur.size + 1) else (min lo cur.size, max hi (cur.size + 1))), ?_, ?_⟩, fun b hb => ?_, ?_⟩
 · simp [markStringish, hsh, Result.andThen]
 · simp only [World.freeze, Nat.one_ne_zero, if_false]
   rw [Array.getElem?_modify, if_pos rfl, h]; rfl
 · right
   split
   · exact Nat.le_refl _
   · rcases h2 with h2 | h2
     · obtain ⟨rfl, rfl⟩ := Prod.mk.inj h2
       rename_i hh; simp at hh
     · simp only at h2 ⊢; omega
 · simp only [World.freeze, Nat.one_ne_zero, if_false]
   rw [Array.getElem?_modify, if_neg (fun e => hb e.symm)]
 · simp [World.freeze]
section
variable {P : Program} {f : Who} {N : Nat} {O ρ : Type} {m : Option O} {G : O → Option ρ} {R : ρ → Ending → World → Prop} {e : Env} {s : St} {k : List Item} {ops : Array Oper} {i d : Nat} {rest : List Nat} {o : Oper}
end
end Go.Proofs.YtcgbhldenkeplaaGreat.V
set_option linter.unusedVariables false
set_option linter.unusedSimpArgs false
namespace Go.Proofs.YtcgbhldenkeplaaGreat.V
open Go
def SitF (s : St) (b : Nat) (a : ByteArray) (off : Nat) (c : Nat) : Prop := s.w.heap[b]? = some (.stringIter a off) ∧ s.g b = c
theorem SitF.st {s s' : St} {S : List Nat} {b c : Nat} {a : ByteArray} {off : Nat} (h : SitF s b a off c) (p : Stp S s s') (d : memb S c = false) : SitF s' b a off c := by
 have hb : b < s.w.heap.size := (Array.getElem?_eq_some_iff.1 h.1).1
 have := p.same b hb (by rw [h.2]; exact d)
 exact ⟨by rw [this.2]; exact h.1, by rw [this.1]; exact h.2⟩
theorem FRF.kp {α : Type} {K : Kd α} {F : Nat → Prop} {s0 s s' : St} {cs : List Value} {x : α} (h : FRF K F s0.w s.w cs x) (z : ∀ b, F b → s0.g b = 0) (p : Kp s0 s) (p' : Kp s0 s') : FRF K F s0.w s'.w cs x :=
 K.rd_mono (K.rd_frame h fun b hb _ => by rw [p'.same b hb.2 (by rw [z b hb.1]; omega), p.same b hb.2 (by rw [z b hb.1]; omega)]) fun b hb _ => hb
theorem FRF.rd {α : Type} {K : Kd α} {F : Nat → Prop} {s0 s : St} {cs : List Value} {x : α} (h : FRF K F s0.w s.w cs x) (z : ∀ b, F b → s0.g b = 0) (p : Kp s0 s) : RdF K s cs x [0] :=
 K.rd_mono h fun b hb _ => by rw [p.col b hb.2 (by rw [z b hb.1]; omega), z b hb.1]; rfl
section
variable {P : Program} {f : Who} {N : Nat} {O ρ : Type} {m : Option O} {G : O → Option ρ} {R : ρ → Ending → World → Prop} {e : Env} {s : St} {k : List Item} {ops : Array Oper} {i d : Nat} {rest : List Nat} {o : Oper}
end
end Go.Proofs.YtcgbhldenkeplaaGreat.V
set_option linter.unusedVariables false
set_option linter.unusedSimpArgs false
namespace Go.Proofs.YtcgbhldenkeplaaGreat.V
open Go
theorem kyw {F : Nat → Prop} {s0 s : St} {os0 os : List Nat} {w' : World} {p : Nat} (z : Z1 F os0 s0) (ky0 : Ky os0 s0.w s.w) (kp : Kp s0 s) (hc : ∀ b ∈ os, s.g b = p) (hp : (Nat.beq p 2 || Nat.ble 40 p) = true) (k : Ky os s.w w') : Ky os0 s0.w w' := by
 refine ⟨k.os.trans ky0.os, k.tape.trans ky0.tape, k.output.trans ky0.output, Nat.le_trans ky0.size k.size, fun b hb hn => ?_⟩
 rw [k.same b (Nat.lt_of_lt_of_le hb ky0.size) fun hm => ?_, ky0.same b hb hn]
 have h1 := kp.col b hb (z.l b)
 rw [hc b hm] at h1
 have h2 := z.l b
 simp only [Bool.or_eq_true] at hp
 rcases hp with hp | hp
 · have := Nat.eq_of_beq_eq_true hp
   exact hn ((z.o b).2 (by omega))
 · have := Nat.le_of_ble_eq_true hp
   omega
end Go.Proofs.YtcgbhldenkeplaaGreat.V
set_option linter.unusedVariables false
set_option linter.unusedSimpArgs false
set_option linter.unusedSectionVars false
namespace Go.Proofs.YtcgbhldenkeplaaGreat.V
open Go
section
variable {α : Type} [Inhabited α]
noncomputable def insM.b1 (a1 : Int) (a3 : (α → α → Option Int)) (x2 : (List α) × Int) (x6 : (List α) × Int) : Option (((List α) × Int) ⊕ ((List α) × Int ⊕ (List α))) :=
 ((if (decide (x6.2 > a1)) = true then (if 0 ≤ x6.2 ∧ x6.2 < (x6.1.length : Int) then (if 0 ≤ (IntKind.wrap .i64 (x6.2 - (1 : Int))) ∧ (IntKind.wrap .i64 (x6.2 - (1 : Int))) < (x6.1.length : Int) then ((a3 (at_ x6.1 x6.2) (at_ x6.1 (IntKind.wrap .i64 (x6.2 - (1 : Int))))).bind fun r31 => (some (decide (r31 < (0 : Int))))) else none) else none) else (some false)).bind fun y14 => (if y14 = true then (if 0 ≤ (IntKind.wrap .i64 (x6.2 - (1 : Int))) ∧ (IntKind.wrap .i64 (x6.2 - (1 : Int))) < (x6.1.length : Int) then (if 0 ≤ x6.2 ∧ x6.2 < (x6.1.length : Int) then (if 0 ≤ x6.2 ∧ x6.2 < (x6.1.length : Int) then (if 0 ≤ (IntKind.wrap .i64 (x6.2 - (1 : Int))) ∧ (IntKind.wrap .i64 (x6.2 - (1 : Int))) < ((x6.1.set (x6.2).toNat (at_ x6.1 (IntKind.wrap .i64 (x6.2 - (1 : Int))))).length : Int) then ((some ((x6.1.set (x6.2).toNat (at_ x6.1 (IntKind.wrap .i64 (x6.2 - (1 : Int))))).set ((IntKind.wrap .i64 (x6.2 - (1 : Int)))).toNat (at_ x6.1 x6.2))).bind fun y84 => (some (Sum.inl (y84, (IntKind.wrap .i64 (x6.2 - (1 : Int))))))) else none) else none) else none) else none) else ((some (Sum.inl (x6.1, (IntKind.wrap .i64 (x2.2 + (1 : Int)))))).bind fun o => some (Sum.inr o))))
noncomputable def insM.b0 (a1 : Int) (a2 : Int) (a3 : (α → α → Option Int)) (x2 : (List α) × Int) : Option (((List α) × Int) ⊕ (List α)) :=
 (if (decide (x2.2 < a2)) = true then (iter (insM.b1 a1 a3 x2) (x2.1, x2.2)) else ((some x2.1).bind fun o => some (Sum.inr o)))
noncomputable def insM.f (a0 : (List α)) (a1 : Int) (a2 : Int) (a3 : (α → α → Option Int)) : Option ((List α)) :=
 (iter (insM.b0 a1 a2 a3) (a0, (IntKind.wrap .i64 (a1 + (1 : Int)))))
noncomputable def swpM.b0 (a1 : Int) (a2 : Int) (a3 : Int) (x2 : (List α) × Int) : Option (((List α) × Int) ⊕ (List α)) :=
 (if (decide (x2.2 < a3)) = true then (if 0 ≤ (IntKind.wrap .i64 (a2 + x2.2)) ∧ (IntKind.wrap .i64 (a2 + x2.2)) < (x2.1.length : Int) then (if 0 ≤ (IntKind.wrap .i64 (a1 + x2.2)) ∧ (IntKind.wrap .i64 (a1 + x2.2)) < (x2.1.length : Int) then (if 0 ≤ (IntKind.wrap .i64 (a1 + x2.2)) ∧ (IntKind.wrap .i64 (a1 + x2.2)) < (x2.1.length : Int) then (if 0 ≤ (IntKind.wrap .i64 (a2 + x2.2)) ∧ (IntKind.wrap .i64 (a2 + x2.2)) < ((x2.1.set ((IntKind.wrap .i64 (a1 + x2.2))).toNat (at_ x2.1 (IntKind.wrap .i64 (a2 + x2.2)))).length : Int) then ((some ((x2.1.set ((IntKind.wrap .i64 (a1 + x2.2))).toNat (at_ x2.1 (IntKind.wrap .i64 (a2 + x2.2)))).set ((IntKind.wrap .i64 (a2 + x2.2))).toNat (at_ x2.1 (IntKind.wrap .i64 (a1 + x2.2))))).bind fun y47 => (some (Sum.inl (y47, (IntKind.wrap .i64 (x2.2 + (1 : Int))))))) else none) else none) else none) else none) else ((some x2.1).bind fun o => some (Sum.inr o)))
noncomputable def swpM.f (a0 : (List α)) (a1 : Int) (a2 : Int) (a3 : Int) (a4 : (α → α → Option Int)) : Option ((List α)) :=
 (iter (swpM.b0 a1 a2 a3) (a0, (0 : Int)))
noncomputable def rotM.b0 (a2 : Int) (a4 : (α → α → Option Int)) (x2 : (List α) × Int × Int) : Option (((List α) × Int × Int) ⊕ (List α)) :=
 (if (x2.2.1 != x2.2.2) = true then ((if (decide (x2.2.1 > x2.2.2)) = true then ((swpM.f x2.1 (IntKind.wrap .i64 (a2 - x2.2.1)) a2 x2.2.2 a4).bind fun r8 => (some (r8, (IntKind.wrap .i64 (x2.2.1 - x2.2.2)), x2.2.2))) else ((swpM.f x2.1 (IntKind.wrap .i64 (a2 - x2.2.1)) (IntKind.wrap .i64 ((IntKind.wrap .i64 (a2 + x2.2.2)) - x2.2.1)) x2.2.1 a4).bind fun r12 => (some (r12, x2.2.1, (IntKind.wrap .i64 (x2.2.2 - x2.2.1)))))).bind fun y6 => (some (Sum.inl (y6.1, y6.2.1, y6.2.2)))) else (((swpM.f x2.1 (IntKind.wrap .i64 (a2 - x2.2.1)) a2 x2.2.1 a4).bind fun r18 => (some r18)).bind fun o => some (Sum.inr o)))
noncomputable def rotM.f (a0 : (List α)) (a1 : Int) (a2 : Int) (a3 : Int) (a4 : (α → α → Option Int)) : Option ((List α)) :=
 (iter (rotM.b0 a2 a4) (a0, (IntKind.wrap .i64 (a2 - a1)), (IntKind.wrap .i64 (a3 - a2))))
noncomputable def symM.b4 (a0 : (List α)) (a1 : Int) (a2 : Int) (a3 : Int) (a4 : (α → α → Option Int)) (R : ((List α) → Int → Int → Int → (α → α → Option Int) → Option ((List α)))) (x145 : Int × Int) : Option ((Int × Int) ⊕ (List α)) :=
 (if (decide (x145.1 < x145.2)) = true then (if 0 ≤ (IntKind.wrap .i64 ((IntKind.wrap .i64 ((IntKind.wrap .i64 ((IntKind.wrap .i64 (ishr .u64 (IntKind.wrap .u64 (IntKind.wrap .i64 (a1 + a3))) (1 : Int))) + a2)) - (1 : Int))) - (IntKind.wrap .i64 (ishr .u64 (IntKind.wrap .u64 (IntKind.wrap .i64 (x145.1 + x145.2))) (1 : Int))))) ∧ (IntKind.wrap .i64 ((IntKind.wrap .i64 ((IntKind.wrap .i64 ((IntKind.wrap .i64 (ishr .u64 (IntKind.wrap .u64 (IntKind.wrap .i64 (a1 + a3))) (1 : Int))) + a2)) - (1 : Int))) - (IntKind.wrap .i64 (ishr .u64 (IntKind.wrap .u64 (IntKind.wrap .i64 (x145.1 + x145.2))) (1 : Int))))) < (a0.length : Int) then (if 0 ≤ (IntKind.wrap .i64 (ishr .u64 (IntKind.wrap .u64 (IntKind.wrap .i64 (x145.1 + x145.2))) (1 : Int))) ∧ (IntKind.wrap .i64 (ishr .u64 (IntKind.wrap .u64 (IntKind.wrap .i64 (x145.1 + x145.2))) (1 : Int))) < (a0.length : Int) then ((a4 (at_ a0 (IntKind.wrap .i64 ((IntKind.wrap .i64 ((IntKind.wrap .i64 ((IntKind.wrap .i64 (ishr .u64 (IntKind.wrap .u64 (IntKind.wrap .i64 (a1 + a3))) (1 : Int))) + a2)) - (1 : Int))) - (IntKind.wrap .i64 (ishr .u64 (IntKind.wrap .u64 (IntKind.wrap .i64 (x145.1 + x145.2))) (1 : Int)))))) (at_ a0 (IntKind.wrap .i64 (ishr .u64 (IntKind.wrap .u64 (IntKind.wrap .i64 (x145.1 + x145.2))) (1 : Int))))).bind fun r166 => ((if (!(decide (r166 < (0 : Int)))) = true then (some ((IntKind.wrap .i64 ((IntKind.wrap .i64 (ishr .u64 (IntKind.wrap .u64 (IntKind.wrap .i64 (x145.1 + x145.2))) (1 : Int))) + (1 : Int))), x145.2)) else (some (x145.1, (IntKind.wrap .i64 (ishr .u64 (IntKind.wrap .u64 (IntKind.wrap .i64 (x145.1 + x145.2))) (1 : Int)))))).bind fun y168 => (some (Sum.inl (y168.1, y168.2))))) else none) else none) else (((if ((decide (x145.1 < a2)) && (decide (a2 < (IntKind.wrap .i64 ((IntKind.wrap .i64 ((IntKind.wrap .i64 (ishr .u64 (IntKind.wrap .u64 (IntKind.wrap .i64 (a1 + a3))) (1 : Int))) + a2)) - x145.1))))) = true then ((rotM.f a0 x145.1 a2 (IntKind.wrap .i64 ((IntKind.wrap .i64 ((IntKind.wrap .i64 (ishr .u64 (IntKind.wrap .u64 (IntKind.wrap .i64 (a1 + a3))) (1 : Int))) + a2)) - x145.1)) a4).bind fun r178 => (some r178)) else (some a0)).bind fun y176 => ((if ((decide (a1 < x145.1)) && (decide (x145.1 < (IntKind.wrap .i64 (ishr .u64 (IntKind.wrap .u64 (IntKind.wrap .i64 (a1 + a3))) (1 : Int)))))) = true then ((R y176 a1 x145.1 (IntKind.wrap .i64 (ishr .u64 (IntKind.wrap .u64 (IntKind.wrap .i64 (a1 + a3))) (1 : Int))) a4).bind fun r187 => (some r187)) else (some y176)).bind fun y185 => (if ((decide ((IntKind.wrap .i64 (ishr .u64 (IntKind.wrap .u64 (IntKind.wrap .i64 (a1 + a3))) (1 : Int))) < (IntKind.wrap .i64 ((IntKind.wrap .i64 ((IntKind.wrap .i64 (ishr .u64 (IntKind.wrap .u64 (IntKind.wrap .i64 (a1 + a3))) (1 : Int))) + a2)) - x145.1)))) && (decide ((IntKind.wrap .i64 ((IntKind.wrap .i64 ((IntKind.wrap .i64 (ishr .u64 (IntKind.wrap .u64 (IntKind.wrap .i64 (a1 + a3))) (1 : Int))) + a2)) - x145.1)) < a3))) = true then ((R y185 (IntKind.wrap .i64 (ishr .u64 (IntKind.wrap .u64 (IntKind.wrap .i64 (a1 + a3))) (1 : Int))) (IntKind.wrap .i64 ((IntKind.wrap .i64 ((IntKind.wrap .i64 (ishr .u64 (IntKind.wrap .u64 (IntKind.wrap .i64 (a1 + a3))) (1 : Int))) + a2)) - x145.1)) a3 a4).bind fun r195 => (some r195)) else (some y185)))).bind fun o => some (Sum.inr o)))
noncomputable def symM.b3 (x73 : Int × Int) (x101 : (List α) × Int) : Option (((List α) × Int) ⊕ (List α)) :=
 (if (decide (x101.2 > x73.1)) = true then (if 0 ≤ (IntKind.wrap .i64 (x101.2 - (1 : Int))) ∧ (IntKind.wrap .i64 (x101.2 - (1 : Int))) < (x101.1.length : Int) then (if 0 ≤ x101.2 ∧ x101.2 < (x101.1.length : Int) then (if 0 ≤ x101.2 ∧ x101.2 < (x101.1.length : Int) then (if 0 ≤ (IntKind.wrap .i64 (x101.2 - (1 : Int))) ∧ (IntKind.wrap .i64 (x101.2 - (1 : Int))) < ((x101.1.set (x101.2).toNat (at_ x101.1 (IntKind.wrap .i64 (x101.2 - (1 : Int))))).length : Int) then ((some ((x101.1.set (x101.2).toNat (at_ x101.1 (IntKind.wrap .i64 (x101.2 - (1 : Int))))).set ((IntKind.wrap .i64 (x101.2 - (1 : Int)))).toNat (at_ x101.1 x101.2))).bind fun y140 => (some (Sum.inl (y140, (IntKind.wrap .i64 (x101.2 - (1 : Int))))))) else none) else none) else none) else none) else ((some x101.1).bind fun o => some (Sum.inr o)))
noncomputable def symM.b2 (a0 : (List α)) (a2 : Int) (a4 : (α → α → Option Int)) (x73 : Int × Int) : Option ((Int × Int) ⊕ (List α)) :=
 (if (decide (x73.1 < x73.2)) = true then (if 0 ≤ a2 ∧ a2 < (a0.length : Int) then (if 0 ≤ (IntKind.wrap .i64 (ishr .u64 (IntKind.wrap .u64 (IntKind.wrap .i64 (x73.1 + x73.2))) (1 : Int))) ∧ (IntKind.wrap .i64 (ishr .u64 (IntKind.wrap .u64 (IntKind.wrap .i64 (x73.1 + x73.2))) (1 : Int))) < (a0.length : Int) then ((a4 (at_ a0 a2) (at_ a0 (IntKind.wrap .i64 (ishr .u64 (IntKind.wrap .u64 (IntKind.wrap .i64 (x73.1 + x73.2))) (1 : Int))))).bind fun r92 => ((if (!(decide (r92 < (0 : Int)))) = true then (some ((IntKind.wrap .i64 ((IntKind.wrap .i64 (ishr .u64 (IntKind.wrap .u64 (IntKind.wrap .i64 (x73.1 + x73.2))) (1 : Int))) + (1 : Int))), x73.2)) else (some (x73.1, (IntKind.wrap .i64 (ishr .u64 (IntKind.wrap .u64 (IntKind.wrap .i64 (x73.1 + x73.2))) (1 : Int)))))).bind fun y94 => (some (Sum.inl (y94.1, y94.2))))) else none) else none) else ((iter (symM.b3 x73) (a0, a2)).bind fun o => some (Sum.inr o)))
noncomputable def symM.b1 (x3 : Int × Int) (x31 : (List α) × Int) : Option (((List α) × Int) ⊕ (List α)) :=
 (if (decide (x31.2 < (IntKind.wrap .i64 (x3.1 - (1 : Int))))) = true then (if 0 ≤ (IntKind.wrap .i64 (x31.2 + (1 : Int))) ∧ (IntKind.wrap .i64 (x31.2 + (1 : Int))) < (x31.1.length : Int) then (if 0 ≤ x31.2 ∧ x31.2 < (x31.1.length : Int) then (if 0 ≤ x31.2 ∧ x31.2 < (x31.1.length : Int) then (if 0 ≤ (IntKind.wrap .i64 (x31.2 + (1 : Int))) ∧ (IntKind.wrap .i64 (x31.2 + (1 : Int))) < ((x31.1.set (x31.2).toNat (at_ x31.1 (IntKind.wrap .i64 (x31.2 + (1 : Int))))).length : Int) then ((some ((x31.1.set (x31.2).toNat (at_ x31.1 (IntKind.wrap .i64 (x31.2 + (1 : Int))))).set ((IntKind.wrap .i64 (x31.2 + (1 : Int)))).toNat (at_ x31.1 x31.2))).bind fun y70 => (some (Sum.inl (y70, (IntKind.wrap .i64 (x31.2 + (1 : Int))))))) else none) else none) else none) else none) else ((some x31.1).bind fun o => some (Sum.inr o)))
noncomputable def symM.b0 (a0 : (List α)) (a1 : Int) (a4 : (α → α → Option Int)) (x3 : Int × Int) : Option ((Int × Int) ⊕ (List α)) :=
 (if (decide (x3.1 < x3.2)) = true then (if 0 ≤ (IntKind.wrap .i64 (ishr .u64 (IntKind.wrap .u64 (IntKind.wrap .i64 (x3.1 + x3.2))) (1 : Int))) ∧ (IntKind.wrap .i64 (ishr .u64 (IntKind.wrap .u64 (IntKind.wrap .i64 (x3.1 + x3.2))) (1 : Int))) < (a0.length : Int) then (if 0 ≤ a1 ∧ a1 < (a0.length : Int) then ((a4 (at_ a0 (IntKind.wrap .i64 (ishr .u64 (IntKind.wrap .u64 (IntKind.wrap .i64 (x3.1 + x3.2))) (1 : Int)))) (at_ a0 a1)).bind fun r22 => ((if (decide (r22 < (0 : Int))) = true then (some ((IntKind.wrap .i64 ((IntKind.wrap .i64 (ishr .u64 (IntKind.wrap .u64 (IntKind.wrap .i64 (x3.1 + x3.2))) (1 : Int))) + (1 : Int))), x3.2)) else (some (x3.1, (IntKind.wrap .i64 (ishr .u64 (IntKind.wrap .u64 (IntKind.wrap .i64 (x3.1 + x3.2))) (1 : Int)))))).bind fun y24 => (some (Sum.inl (y24.1, y24.2))))) else none) else none) else ((iter (symM.b1 x3) (a0, a1)).bind fun o => some (Sum.inr o)))
noncomputable def symM.h (R : ((List α) → Int → Int → Int → (α → α → Option Int) → Option ((List α)))) (a0 : (List α)) (a1 : Int) (a2 : Int) (a3 : Int) (a4 : (α → α → Option Int)) : Option ((List α)) :=
 (if ((IntKind.wrap .i64 (a2 - a1)) == (1 : Int)) = true then (iter (symM.b0 a0 a1 a4) (a2, a3)) else (if ((IntKind.wrap .i64 (a3 - a2)) == (1 : Int)) = true then (iter (symM.b2 a0 a2 a4) (a1, a2)) else ((if (decide (a2 > (IntKind.wrap .i64 (ishr .u64 (IntKind.wrap .u64 (IntKind.wrap .i64 (a1 + a3))) (1 : Int))))) = true then (some ((IntKind.wrap .i64 ((IntKind.wrap .i64 ((IntKind.wrap .i64 (ishr .u64 (IntKind.wrap .u64 (IntKind.wrap .i64 (a1 + a3))) (1 : Int))) + a2)) - a3)), (IntKind.wrap .i64 (ishr .u64 (IntKind.wrap .u64 (IntKind.wrap .i64 (a1 + a3))) (1 : Int))))) else (some (a1, a2))).bind fun y142 => (iter (symM.b4 a0 a1 a2 a3 a4 R) (y142.1, y142.2)))))
noncomputable def symM.g : Nat → ((List α) → Int → Int → Int → (α → α → Option Int) → Option ((List α)))
 | 0 => fun _ _ _ _ _ => none
 | n + 1 => symM.h (symM.g n)
noncomputable def symM.f (a0 : (List α)) (a1 : Int) (a2 : Int) (a3 : Int) (a4 : (α → α → Option Int)) : Option ((List α)) := symM.g 1000 a0 a1 a2 a3 a4
noncomputable def stbM.b2 (a1 : Int) (a2 : (α → α → Option Int)) (x13 : (List α) × Int) (x18 : (List α) × Int × Int) : Option (((List α) × Int × Int) ⊕ ((List α) × Int ⊕ (List α))) :=
 (if (decide (x18.2.2 ≤ a1)) = true then ((symM.f x18.1 x18.2.1 (IntKind.wrap .i64 (x18.2.1 + x13.2)) x18.2.2 a2).bind fun r22 => (some (Sum.inl (r22, x18.2.2, (IntKind.wrap .i64 (x18.2.2 + (IntKind.wrap .i64 ((2 : Int) * x13.2)))))))) else (((if (decide ((IntKind.wrap .i64 (x18.2.1 + x13.2)) < a1)) = true then ((symM.f x18.1 x18.2.1 (IntKind.wrap .i64 (x18.2.1 + x13.2)) a1 a2).bind fun r28 => (some r28)) else (some x18.1)).bind fun y26 => (some (Sum.inl (y26, (IntKind.wrap .i64 (x13.2 * (2 : Int))))))).bind fun o => some (Sum.inr o)))
noncomputable def stbM.b1 (a1 : Int) (a2 : (α → α → Option Int)) (x13 : (List α) × Int) : Option (((List α) × Int) ⊕ (List α)) :=
 (if (decide (x13.2 < a1)) = true then (iter (stbM.b2 a1 a2 x13) (x13.1, (0 : Int), (IntKind.wrap .i64 ((2 : Int) * x13.2)))) else ((some x13.1).bind fun o => some (Sum.inr o)))
noncomputable def stbM.b0 (a1 : Int) (a2 : (α → α → Option Int)) (x2 : (List α) × Int × Int) : Option (((List α) × Int × Int) ⊕ (List α)) :=
 (if (decide (x2.2.2 ≤ a1)) = true then ((insM.f x2.1 x2.2.1 x2.2.2 a2).bind fun r6 => (some (Sum.inl (r6, x2.2.2, (IntKind.wrap .i64 (x2.2.2 + (20 : Int))))))) else (((insM.f x2.1 x2.2.1 a1 a2).bind fun r10 => (iter (stbM.b1 a1 a2) (r10, (20 : Int)))).bind fun o => some (Sum.inr o)))
noncomputable def stbM.f (a0 : (List α)) (a1 : Int) (a2 : (α → α → Option Int)) : Option ((List α)) :=
 (iter (stbM.b0 a1 a2) (a0, (0 : Int), (20 : Int)))
theorem at_app (P R : List α) (x : α) (i : Int) (h : i = (P.length : Int)) : at_ (P ++ x :: R) i = x := by
 subst h
 rw [at_n _ _ (by simp)]
 simp
theorem set_app (P R : List α) (x y : α) (n : Nat) (h : n = P.length) : (P ++ x :: R).set n y = P ++ y :: R := by
 subst h
 simp [List.set_append]
theorem half (x y : Nat) (h : x + y ≤ 34359738368) : IntKind.wrap .i64 (ishr .u64 (IntKind.wrap .u64 (IntKind.wrap .i64 ((x : Int) + (y : Int)))) (1 : Int)) = (((x + y) / 2 : Nat) : Int) := by
 rw [wr64 (n := (x : Int) + y) (by omega) (by omega)]
 have e : IntKind.wrap .u64 ((x : Int) + y) = ((x + y : Nat) : Int) := by rw [IntKind.wrap_u64]; omega
 rw [e]
 have e2 : ishr .u64 ((x + y : Nat) : Int) (1 : Int) = (((x + y) / 2 : Nat) : Int) := by
  unfold ishr
  show Int.fdiv ((x + y : Nat) : Int) (2 ^ 1) = _
  rw [Int.fdiv_eq_ediv_of_nonneg _ (by decide)]
  rfl
 rw [e2, wr64 (by omega) (by omega)]
theorem swp_go (a b n : Nat) : ∀ (U V P M Q : List α) (i : Nat), V.length = U.length → P.length = a + i → P.length + U.length + M.length = b + i → i + U.length = n → (P ++ (U ++ (M ++ (V ++ Q)))).length ≤ Lim →
    iter (swpM.b0 (a : Int) (b : Int) (n : Int)) (P ++ (U ++ (M ++ (V ++ Q))), (i : Int)) = some (P ++ (V ++ (M ++ (U ++ Q))))
  | [], V, P, M, Q, i, hV, hP, hb, hn, hL => by
    obtain rfl : V = [] := List.length_eq_zero_iff.1 hV
    refine it_r ?_
    unfold swpM.b0
    rw [if_neg (by simp at hn ⊢; omega)]; rfl
  | u :: U, [], P, M, Q, i, hV, hP, hb, hn, hL => by simp at hV
  | u :: U, v :: V, P, M, Q, i, hV, hP, hb, hn, hL => by
    have hL' := hL
    simp only [List.length_append, List.length_cons, Lim] at hL' hV hb hn
    have eA : at_ (P ++ (u :: U ++ (M ++ (v :: V ++ Q)))) ((a : Int) + (i : Int)) = u := at_app P _ u _ (by omega)
    have eL : P ++ (u :: U ++ (M ++ (v :: V ++ Q))) = (P ++ (u :: (U ++ M))) ++ v :: (V ++ Q) := by simp
    have eB : at_ (P ++ (u :: U ++ (M ++ (v :: V ++ Q)))) ((b : Int) + (i : Int)) = v := by rw [eL]; exact at_app _ _ v _ (by simp; omega)
    have e1 : (P ++ (u :: U ++ (M ++ (v :: V ++ Q)))).set ((a : Int) + (i : Int)).toNat v = P ++ (v :: (U ++ (M ++ (v :: V ++ Q)))) := set_app P _ u v _ (by omega)
    have eL2 : P ++ (v :: (U ++ (M ++ (v :: V ++ Q)))) = (P ++ (v :: (U ++ M))) ++ v :: (V ++ Q) := by simp
    have e2 : (P ++ (v :: (U ++ (M ++ (v :: V ++ Q))))).set ((b : Int) + (i : Int)).toNat u = (P ++ [v]) ++ (U ++ ((M ++ [u]) ++ (V ++ Q))) := by
      rw [eL2, set_app _ _ v u _ (by simp; omega)]; simp
    have hs : swpM.b0 (a : Int) (b : Int) (n : Int) (P ++ (u :: U ++ (M ++ (v :: V ++ Q))), (i : Int)) = some (.inl ((P ++ [v]) ++ (U ++ ((M ++ [u]) ++ (V ++ Q))), ((i + 1 : Nat) : Int))) := by
      unfold swpM.b0
      simp only []
      rw [if_pos (by simp; omega), wr64 (n := (b : Int) + i) (by omega) (by omega), wr64 (n := (a : Int) + i) (by omega) (by omega), eA, eB, e1]
      rw [if_pos (by simp only [List.length_append, List.length_cons]; omega), if_pos (by simp only [List.length_append, List.length_cons]; omega), if_pos (by simp only [List.length_append, List.length_cons]; omega), if_pos (by simp only [List.length_append, List.length_cons]; omega), Option.bind_some, e2, wr64 (by omega) (by omega)]
      rfl
    rw [it_l hs, swp_go a b n U V (P ++ [v]) (M ++ [u]) Q (i + 1) (by omega) (by simp; omega) (by simp; omega) (by omega) (by simp only [List.length_append, List.length_cons, List.length_nil, Lim]; omega)]
    simp
theorem swp_f (U V P M Q : List α) (c : α → α → Option Int) (a b n : Int) (hV : V.length = U.length) (ha : a = (P.length : Int)) (hb : b = ((P.length + U.length + M.length : Nat) : Int)) (hn : n = (U.length : Int)) (hL : (P ++ (U ++ (M ++ (V ++ Q)))).length ≤ Lim) :
    swpM.f (P ++ (U ++ (M ++ (V ++ Q)))) a b n c = some (P ++ (V ++ (M ++ (U ++ Q)))) := by
  subst ha; subst hb; subst hn
  exact swp_go P.length (P.length + U.length + M.length) U.length U V P M Q 0 hV (by omega) (by omega) (by omega) hL
theorem rot_go (c : α → α → Option Int) (m : Nat) : ∀ (k : Nat) (U V P Q : List α), U.length + V.length ≤ k → 1 ≤ U.length → 1 ≤ V.length → P.length + U.length = m → (P ++ (U ++ (V ++ Q))).length ≤ Lim →
    iter (rotM.b0 (m : Int) c) (P ++ (U ++ (V ++ Q)), (U.length : Int), (V.length : Int)) = some (P ++ (V ++ (U ++ Q)))
  | 0, U, V, P, Q, hk, hU, hV, hm, hL => by omega
  | k + 1, U, V, P, Q, hk, hU, hV, hm, hL => by
    have hL' := hL
    simp only [List.length_append, Lim] at hL'
    by_cases he : U.length = V.length
    · refine it_r ?_
      unfold rotM.b0
      simp only []
      have := swp_f U V P [] Q c ((m : Int) - (U.length : Int)) (m : Int) (U.length : Int) he.symm (by omega) (by simp; omega) rfl (by simpa using hL)
      simp only [List.nil_append] at this
      rw [if_neg (by simp [he]), wr64 (by omega) (by omega), this]; rfl
    · by_cases hg : V.length < U.length
      · have hs : rotM.b0 (m : Int) c (P ++ (U ++ (V ++ Q)), (U.length : Int), (V.length : Int)) = some (.inl ((P ++ V) ++ (U.drop V.length ++ (U.take V.length ++ Q)), ((U.drop V.length).length : Int), ((U.take V.length).length : Int))) := by
          unfold rotM.b0
          simp only []
          have := swp_f (U.take V.length) V P (U.drop V.length) Q c ((m : Int) - (U.length : Int)) (m : Int) (V.length : Int) (by simp; omega) (by omega) (by simp; omega) (by simp; omega) (by simp only [List.length_append, List.length_take, List.length_drop, Lim]; omega)
          rw [← List.append_assoc (U.take V.length), List.take_append_drop] at this
          rw [if_pos (by simp; omega), if_pos (by simp; omega), wr64 (by omega) (by omega), this, Option.bind_some, Option.bind_some, wr64 (by omega) (by omega)]
          have e1 : ((U.length : Int) - (V.length : Int)) = ((U.drop V.length).length : Int) := by simp; omega
          have e2 : (V.length : Int) = ((U.take V.length).length : Int) := by simp; omega
          simp only []
          rw [e1]
          congr 2
          rw [← e2]; simp
        rw [it_l hs, rot_go c m k _ _ _ _ (by simp; omega) (by simp; omega) (by simp; omega) (by simp; omega) (by simp only [List.length_append, List.length_take, List.length_drop, Lim]; omega)]
        rw [← List.append_assoc (U.take V.length), List.take_append_drop]; simp
      · have hs : rotM.b0 (m : Int) c (P ++ (U ++ (V ++ Q)), (U.length : Int), (V.length : Int)) = some (.inl (P ++ (V.drop (V.length - U.length) ++ (V.take (V.length - U.length) ++ (U ++ Q))), ((V.drop (V.length - U.length)).length : Int), ((V.take (V.length - U.length)).length : Int))) := by
          unfold rotM.b0
          simp only []
          have := swp_f U (V.drop (V.length - U.length)) P (V.take (V.length - U.length)) Q c ((m : Int) - (U.length : Int)) ((m : Int) + (V.length : Int) - (U.length : Int)) (U.length : Int) (by simp; omega) (by omega) (by simp; omega) rfl (by simp only [List.length_append, List.length_take, List.length_drop, Lim]; omega)
          rw [← List.append_assoc (V.take (V.length - U.length)), List.take_append_drop] at this
          rw [if_pos (by simp; omega), if_neg (by simp; omega), wr64 (n := (m : Int) - (U.length : Int)) (by omega) (by omega), wr64 (n := (m : Int) + (V.length : Int)) (by omega) (by omega), wr64 (n := (m : Int) + (V.length : Int) - (U.length : Int)) (by omega) (by omega), this, Option.bind_some, Option.bind_some, wr64 (by omega) (by omega)]
          have e1 : ((V.length : Int) - (U.length : Int)) = ((V.take (V.length - U.length)).length : Int) := by simp; omega
          have e2 : (U.length : Int) = ((V.drop (V.length - U.length)).length : Int) := by simp; omega
          simp only []
          rw [e1]
          congr 2
          rw [← e2]
        rw [it_l hs, rot_go c m k _ _ _ _ (by simp; omega) (by simp; omega) (by simp; omega) (by simp; omega) (by simp only [List.length_append, List.length_take, List.length_drop, Lim]; omega)]
        rw [← List.append_assoc (V.take (V.length - U.length)), List.take_append_drop]
theorem rot_f (U V P Q : List α) (c : α → α → Option Int) (a m b : Int) (hU : 1 ≤ U.length) (hV : 1 ≤ V.length) (ha : a = (P.length : Int)) (hm : m = ((P.length + U.length : Nat) : Int)) (hb : b = ((P.length + U.length + V.length : Nat) : Int)) (hL : (P ++ (U ++ (V ++ Q))).length ≤ Lim) :
    rotM.f (P ++ (U ++ (V ++ Q))) a m b c = some (P ++ (V ++ (U ++ Q))) := by
  subst ha; subst hm; subst hb
  have hL' := hL
  simp only [List.length_append, Lim] at hL'
  unfold rotM.f
  rw [wr64 (by omega) (by omega), wr64 (by omega) (by omega)]
  have e1 : (((P.length + U.length : Nat) : Int) - (P.length : Int)) = (U.length : Int) := by omega
  have e2 : (((P.length + U.length + V.length : Nat) : Int) - ((P.length + U.length : Nat) : Int)) = (V.length : Int) := by omega
  rw [e1, e2]
  exact rot_go c _ _ U V P Q (Nat.le_refl _) hU hV rfl hL
end
end Go.Proofs.YtcgbhldenkeplaaGreat.V
set_option linter.unusedVariables false
set_option linter.unusedSimpArgs false
set_option linter.unusedSectionVars false
namespace Go.Proofs.YtcgbhldenkeplaaGreat.V
open Go
section
variable {α : Type} [Inhabited α]
structure Cr (c : α → α → Option Int) (lt : α → α → Bool) (S : α → Prop) : Prop where
 cmp : ∀ x y, S x → S y → ∃ n : Int, c x y = some n ∧ decide (n < 0) = lt x y
 asym : ∀ x y, S x → S y → lt x y = true → lt y x = false
 neg : ∀ x y z, S x → S y → S z → lt x y = false → lt y z = false → lt x z = false
def TL (lt : α → α → Bool) (ix : α → Nat) (x y : α) : Prop := lt x y = true ∨ (lt y x = false ∧ ix x < ix y)
variable {c : α → α → Option Int} {lt : α → α → Bool} {ix : α → Nat} {S : α → Prop}
theorem TL.trans (h : Cr c lt S) {x y z : α} (hx : S x) (hy : S y) (hz : S z) (h1 : TL lt ix x y) (h2 : TL lt ix y z) : TL lt ix x z := by
 have tf : ∀ {b : Bool}, ¬ b = true → b = false := fun {b} h => by cases b <;> simp_all
 by_cases hxz : lt x z = true
 · exact .inl hxz
 · have hxz := tf hxz
   rcases h1 with h1 | ⟨h1, i1⟩ <;> rcases h2 with h2 | ⟨h2, i2⟩
   · have := h.neg x z y hx hz hy hxz (h.asym y z hy hz h2); rw [h1] at this; cases this
   · have := h.neg x z y hx hz hy hxz h2; rw [h1] at this; cases this
   · have := h.neg y x z hy hx hz h1 hxz; rw [h2] at this; cases this
   · exact .inr ⟨h.neg z y x hz hy hx h2 h1, by omega⟩
theorem TL.lt_of {x y : α} (h : Cr c lt S) (hx : S x) (hy : S y) (hi : ix x < ix y) (ht : TL lt ix y x) : lt y x = true := by
 rcases ht with h1 | ⟨_, h2⟩
 · exact h1
 · omega
theorem ins_in (hC : Cr c lt S) (P : List α) (x2 : List α × Int) (x : α) (hx : S x) : ∀ (k : Nat) (T B R : List α), T.length = k → (∀ y ∈ T, S y) → (∀ y ∈ B, lt x y = true) → (P ++ (T ++ (x :: (B ++ R)))).length ≤ Lim →
    ∃ T1 T2, T = T1 ++ T2 ∧ (∀ y ∈ T2, lt x y = true) ∧ (∀ y z, T1 = z ++ [y] → lt x y = false) ∧
      iter (insM.b1 (P.length : Int) c x2) (P ++ (T ++ (x :: (B ++ R))), ((P.length + T.length : Nat) : Int)) = some (.inl (P ++ (T1 ++ (x :: (T2 ++ (B ++ R)))), IntKind.wrap .i64 (x2.2 + 1)))
  | 0, T, B, R, hk, hT, hB, hL => by
    obtain rfl : T = [] := List.length_eq_zero_iff.1 hk
    refine ⟨[], [], rfl, fun y hy => by simp at hy, fun y z h => by simp at h, it_r ?_⟩
    unfold insM.b1
    rw [if_neg (by simp), Option.bind_some, if_neg (by decide)]; rfl
  | k + 1, T, B, R, hk, hT, hB, hL => by
    obtain ⟨T', y, rfl⟩ : ∃ T' y, T = T' ++ [y] := ⟨T.dropLast, T.getLast (by intro h; subst h; cases hk), (List.dropLast_concat_getLast _).symm⟩
    have hk' : T'.length = k := by simpa using hk
    have hy : S y := hT y (by simp)
    obtain ⟨n, hn, hnl⟩ := hC.cmp x y hx hy
    have hL' := hL
    simp only [List.length_append, List.length_cons, List.length_nil, Lim] at hL'
    have eL : P ++ (T' ++ [y] ++ (x :: (B ++ R))) = (P ++ T') ++ y :: (x :: (B ++ R)) := by simp
    have eJ : at_ (P ++ (T' ++ [y] ++ (x :: (B ++ R)))) ((P.length + (T' ++ [y]).length : Nat) : Int) = x := by
      rw [show P ++ (T' ++ [y] ++ (x :: (B ++ R))) = (P ++ (T' ++ [y])) ++ x :: (B ++ R) by simp]
      exact at_app _ _ x _ (by simp)
    have eI : at_ (P ++ (T' ++ [y] ++ (x :: (B ++ R)))) (((P.length + (T' ++ [y]).length : Nat) : Int) - 1) = y := by
      rw [eL]; exact at_app _ _ y _ (by simp; omega)
    by_cases hlt : lt x y = true
    · have e1 : (P ++ (T' ++ [y] ++ (x :: (B ++ R)))).set (((P.length + (T' ++ [y]).length : Nat) : Int)).toNat y = (P ++ T') ++ y :: (y :: (B ++ R)) := by
        rw [show P ++ (T' ++ [y] ++ (x :: (B ++ R))) = (P ++ (T' ++ [y])) ++ x :: (B ++ R) by simp, set_app _ _ x y _ (by simp; omega)]; simp
      have e2 : ((P ++ T') ++ y :: (y :: (B ++ R))).set (((P.length + (T' ++ [y]).length : Nat) : Int) - 1).toNat x = P ++ (T' ++ (x :: ((y :: B) ++ R))) := by
        rw [set_app _ _ y x _ (by simp; omega)]; simp
      have hs : insM.b1 (P.length : Int) c x2 (P ++ (T' ++ [y] ++ (x :: (B ++ R))), ((P.length + (T' ++ [y]).length : Nat) : Int)) = some (.inl (P ++ (T' ++ (x :: ((y :: B) ++ R))), ((P.length + T'.length : Nat) : Int))) := by
        unfold insM.b1
        simp only []
        rw [wr64 (n := ((P.length + (T' ++ [y]).length : Nat) : Int) - 1) (by omega) (by simp; omega), eJ, eI, e1]
        rw [if_pos (by simp; omega), if_pos (by simp only [List.length_append, List.length_cons, List.length_nil]; omega), if_pos (by simp only [List.length_append, List.length_cons, List.length_nil]; omega), hn, Option.bind_some, hnl, hlt, Option.bind_some, if_pos rfl]
        rw [if_pos (by simp only [List.length_append, List.length_cons, List.length_nil]; omega), if_pos (by simp only [List.length_append, List.length_cons, List.length_nil]; omega), if_pos (by simp only [List.length_append, List.length_cons, List.length_nil]; omega), if_pos (by simp only [List.length_append, List.length_cons, List.length_nil]; omega), Option.bind_some, e2]
        congr 3
        simp; omega
      obtain ⟨T1, T2, q1, q2, q3, q4⟩ := ins_in hC P x2 x hx k T' (y :: B) R hk' (fun z hz => hT z (by simp [hz])) (fun z hz => by
        rcases List.mem_cons.1 hz with rfl | hz
        · exact hlt
        · exact hB z hz) (by simp only [List.length_append, List.length_cons, List.length_nil, Lim]; omega)
      refine ⟨T1, T2 ++ [y], by rw [q1]; simp, fun z hz => ?_, q3, ?_⟩
      · rcases List.mem_append.1 hz with hz | hz
        · exact q2 z hz
        · rw [List.mem_singleton.1 hz]; exact hlt
      · rw [it_l hs, q4]; simp
    · refine ⟨T' ++ [y], [], by simp, fun z hz => by simp at hz, fun z w hw => ?_, it_r ?_⟩
      · have := List.append_inj_right' hw rfl
        have : y = z := by simpa using this
        subst this
        cases hq : lt x y <;> simp_all
      · unfold insM.b1
        simp only []
        rw [wr64 (n := ((P.length + (T' ++ [y]).length : Nat) : Int) - 1) (by omega) (by simp; omega), eJ, eI]
        rw [if_pos (by simp; omega), if_pos (by simp only [List.length_append, List.length_cons, List.length_nil]; omega), if_pos (by simp only [List.length_append, List.length_cons, List.length_nil]; omega), hn, Option.bind_some, hnl, Option.bind_some, if_neg hlt]
        simp
theorem ins_out (hC : Cr c lt S) (P : List α) : ∀ (R A Q : List α) (b : Int), A ≠ [] → b = ((P.length + A.length + R.length : Nat) : Int) → (∀ y ∈ A, S y) → (∀ y ∈ R, S y) → A.Pairwise (TL lt ix) → (∀ y ∈ A, ∀ x ∈ R, ix y < ix x) → R.Pairwise (fun x y => ix x < ix y) → (P ++ (A ++ (R ++ Q))).length ≤ Lim →
    ∃ Z, iter (insM.b0 (P.length : Int) b c) (P ++ (A ++ (R ++ Q)), ((P.length + A.length : Nat) : Int)) = some (P ++ (Z ++ Q)) ∧ Z.Perm (A ++ R) ∧ Z.Pairwise (TL lt ix)
  | [], A, Q, b, hA0, hb, hA, hR, hAp, hAR, hRp, hL => by
    refine ⟨A, it_r ?_, by simp, hAp⟩
    unfold insM.b0
    rw [if_neg (by simp at hb ⊢; omega)]; rfl
  | x :: R, A, Q, b, hA0, hb, hA, hR, hAp, hAR, hRp, hL => by
    have hL' := hL
    simp only [List.length_append, List.length_cons, Lim] at hL' hb
    have hx : S x := hR x (by simp)
    obtain ⟨T1, T2, q1, q2, q3, q4⟩ := ins_in hC P (P ++ (A ++ (x :: R ++ Q)), ((P.length + A.length : Nat) : Int)) x hx A.length A [] (R ++ Q) rfl hA (fun y hy => by cases hy) (by simpa using hL)
    have hT2 : ∀ z ∈ T2, TL lt ix x z := fun z hz => .inl (q2 z hz)
    have hSA : ∀ z ∈ T1 ++ T2, S z := by rw [← q1]; exact hA
    have hT1 : ∀ z ∈ T1, TL lt ix z x := by
      intro z hz
      obtain ⟨T', y, e⟩ : ∃ T' y, T1 = T' ++ [y] := ⟨T1.dropLast, T1.getLast (List.ne_nil_of_mem hz), (List.dropLast_concat_getLast _).symm⟩
      have hlast : TL lt ix y x := .inr ⟨q3 y T' e, hAR y (by rw [q1, e]; simp) x (by simp)⟩
      rw [e] at hz
      rcases List.mem_append.1 hz with hz | hz
      · have hp : T1.Pairwise (TL lt ix) := (List.pairwise_append.1 (q1 ▸ hAp)).1
        rw [e] at hp
        exact TL.trans hC (hSA z (by rw [e]; simp [hz])) (hSA y (by rw [e]; simp)) hx ((List.pairwise_append.1 hp).2.2 z hz y (by simp)) hlast
      · rw [List.mem_singleton.1 hz]; exact hlast
    have hnew : (T1 ++ x :: T2).Pairwise (TL lt ix) := by
      obtain ⟨p1, p2, p3⟩ := List.pairwise_append.1 (q1 ▸ hAp)
      refine List.pairwise_append.2 ⟨p1, List.pairwise_cons.2 ⟨hT2, p2⟩, fun y hy z hz => ?_⟩
      rcases List.mem_cons.1 hz with rfl | hz
      · exact hT1 y hy
      · exact p3 y hy z hz
    have hmem : ∀ y ∈ T1 ++ x :: T2, y ∈ A ∨ y = x := fun y hy => by
      rw [q1]
      rcases List.mem_append.1 hy with hy | hy
      · exact .inl (List.mem_append_left _ hy)
      · rcases List.mem_cons.1 hy with rfl | hy
        · exact .inr rfl
        · exact .inl (List.mem_append_right _ hy)
    have hRc := List.pairwise_cons.1 hRp
    have hlen : (T1 ++ x :: T2).length = A.length + 1 := by rw [q1]; simp; omega
    obtain ⟨Z, z1, z2, z3⟩ := ins_out hC P R (T1 ++ x :: T2) Q b (by simp) (by rw [hlen, hb]; omega) (fun y hy => by
      rcases hmem y hy with h | rfl
      · exact hA y h
      · exact hx) (fun y hy => hR y (by simp [hy])) hnew (fun y hy z hz => by
      rcases hmem y hy with h | rfl
      · exact hAR y h z (by simp [hz])
      · exact hRc.1 z hz) hRc.2 (by rw [List.length_append, List.length_append, hlen, List.length_append]; simp only [Lim]; omega)
    refine ⟨Z, ?_, z2.trans ?_, z3⟩
    · have hs : insM.b0 (P.length : Int) b c (P ++ (A ++ (x :: R ++ Q)), ((P.length + A.length : Nat) : Int)) = some (.inl (P ++ ((T1 ++ x :: T2) ++ (R ++ Q)), ((P.length + (T1 ++ x :: T2).length : Nat) : Int))) := by
        unfold insM.b0
        simp only [List.nil_append] at q4
        simp only []
        rw [if_pos (by simp; omega)]
        have e0 : P ++ (A ++ (x :: R ++ Q)) = P ++ (A ++ (x :: (R ++ Q))) := by simp
        rw [show (P ++ (A ++ (x :: R ++ Q)), ((P.length + A.length : Nat) : Int)) = (P ++ (A ++ (x :: (R ++ Q))), ((P.length + A.length : Nat) : Int)) by rw [e0]]
        rw [e0] at q4
        rw [q4]
        simp only [hlen]
        rw [wr64 (by omega) (by omega)]
        congr 3
        · simp
      rw [it_l hs, z1]
    · rw [q1]
      have : (T1 ++ x :: T2).Perm (T1 ++ T2 ++ [x]) := by
        rw [List.append_assoc]
        exact List.Perm.append_left T1 (List.perm_append_singleton x T2).symm
      exact (this.append_right R).trans (by simp)
theorem ins_f (hC : Cr c lt S) (P R Q : List α) (a b : Int) (ha : a = (P.length : Int)) (hb : b = ((P.length + R.length : Nat) : Int)) (hR : ∀ y ∈ R, S y) (hRp : R.Pairwise (fun x y => ix x < ix y)) (hL : (P ++ (R ++ Q)).length ≤ Lim) :
    ∃ Z, insM.f (P ++ (R ++ Q)) a b c = some (P ++ (Z ++ Q)) ∧ Z.Perm R ∧ Z.Pairwise (TL lt ix) := by
  subst ha
  have hL' := hL
  simp only [List.length_append, Lim] at hL'
  unfold insM.f
  rw [wr64 (by omega) (by omega)]
  cases R with
  | nil =>
    refine ⟨[], it_r ?_, .nil, .nil⟩
    unfold insM.b0
    rw [if_neg (by simp at hb ⊢; omega)]; rfl
  | cons x R =>
    have hc := List.pairwise_cons.1 hRp
    obtain ⟨Z, z1, z2, z3⟩ := ins_out (ix := ix) hC P R [x] Q b (by simp) (by rw [hb]; simp; omega) (fun y hy => hR y (by simp at hy; simp [hy])) (fun y hy => hR y (by simp [hy])) (List.pairwise_singleton _ _) (fun y hy z hz => by rw [List.mem_singleton.1 hy]; exact hc.1 z hz) hc.2 (by simpa using hL)
    refine ⟨Z, ?_, z2, z3⟩
    have e : ((P.length : Int) + 1) = ((P.length + [x].length : Nat) : Int) := by simp
    rw [e]
    simpa using z1
end
end Go.Proofs.YtcgbhldenkeplaaGreat.V
set_option linter.unusedVariables false
set_option linter.unusedSimpArgs false
set_option linter.unusedSectionVars false
namespace Go.Proofs.YtcgbhldenkeplaaGreat.V
open Go
section
variable {α : Type} [Inhabited α]
theorem bs {O : Type} {body : Int × Int → Option ((Int × Int) ⊕ O)} (T : Nat → Bool) (lo0 hi0 : Nat) (hmono : ∀ i j, lo0 ≤ i → i ≤ j → j < hi0 → T j = true → T i = true)
    (hstep : ∀ lo hi : Nat, lo0 ≤ lo → lo < hi → hi ≤ hi0 → body ((lo : Int), (hi : Int)) = some (.inl (if T ((lo + hi) / 2) = true then ((((lo + hi) / 2 + 1 : Nat) : Int), (hi : Int)) else ((lo : Int), (((lo + hi) / 2 : Nat) : Int))))) (h : lo0 ≤ hi0) :
    ∃ s : Nat, lo0 ≤ s ∧ s ≤ hi0 ∧ (∀ k, lo0 ≤ k → k < s → T k = true) ∧ (∀ k, s ≤ k → k < hi0 → T k = false) ∧ iter body ((lo0 : Int), (hi0 : Int)) = iter body ((s : Int), (s : Int)) := by
  have key : ∀ (d lo hi : Nat), hi - lo ≤ d → lo0 ≤ lo → lo ≤ hi → hi ≤ hi0 → (∀ k, lo0 ≤ k → k < lo → T k = true) → (∀ k, hi ≤ k → k < hi0 → T k = false) →
      ∃ s : Nat, lo0 ≤ s ∧ s ≤ hi0 ∧ (∀ k, lo0 ≤ k → k < s → T k = true) ∧ (∀ k, s ≤ k → k < hi0 → T k = false) ∧ iter body ((lo : Int), (hi : Int)) = iter body ((s : Int), (s : Int)) := by
    intro d
    induction d with
    | zero =>
      intro lo hi hd h1 h2 h3 h4 h5
      obtain rfl : lo = hi := by omega
      exact ⟨lo, h1, h3, h4, h5, rfl⟩
    | succ d ih =>
      intro lo hi hd h1 h2 h3 h4 h5
      by_cases he : lo = hi
      · subst he; exact ⟨lo, h1, h3, h4, h5, rfl⟩
      · have hs := hstep lo hi h1 (by omega) h3
        by_cases ht : T ((lo + hi) / 2) = true
        · rw [if_pos ht] at hs
          obtain ⟨s, a1, a2, a3, a4, a5⟩ := ih ((lo + hi) / 2 + 1) hi (by omega) (by omega) (by omega) h3 (fun k hk1 hk2 => hmono k ((lo + hi) / 2) hk1 (by omega) (by omega) ht) h5
          exact ⟨s, a1, a2, a3, a4, by rw [it_l hs, a5]⟩
        · rw [if_neg ht] at hs
          obtain ⟨s, a1, a2, a3, a4, a5⟩ := ih lo ((lo + hi) / 2) (by omega) h1 (by omega) (by omega) h4 (fun k hk1 hk2 => by
            cases hq : T k with
            | false => rfl
            | true => exact absurd (hmono ((lo + hi) / 2) k (by omega) hk1 hk2 hq) ht)
          exact ⟨s, a1, a2, a3, a4, by rw [it_l hs, a5]⟩
  exact key (hi0 - lo0) lo0 hi0 (Nat.le_refl _) (Nat.le_refl _) h (Nat.le_refl _) (fun k h1 h2 => by omega) (fun k h1 h2 => by omega)
theorem at_seg (P X R : List α) (i : Nat) (hi : i < X.length) (j : Int) (hj : j = ((P.length + i : Nat) : Int)) : at_ (P ++ (X ++ R)) j = X[i] := by
 subst hj
 rw [at_n _ _ (by simp; omega)]
 rw [List.getElem_append_right (by omega)]
 simp only [Nat.add_sub_cancel_left]
 rw [List.getElem_append_left hi]
variable {c : α → α → Option Int} {lt : α → α → Bool} {ix : α → Nat} {S : α → Prop}
theorem sm_b1 (x3 : Int × Int) (x : α) : ∀ (Y P R : List α), x3.1 = ((P.length + 1 + Y.length : Nat) : Int) → (P ++ (x :: (Y ++ R))).length ≤ Lim → iter (symM.b1 x3) (P ++ (x :: (Y ++ R)), (P.length : Int)) = some (P ++ (Y ++ (x :: R)))
 | [], P, R, h3, hL => by
  have hL' := hL
  simp only [List.length_append, List.length_cons, Lim] at hL'
  refine it_r ?_
  unfold symM.b1
  simp only [h3]
  rw [wr64 (by omega) (by simp; omega), if_neg (by simp)]; rfl
 | y :: Y, P, R, h3, hL => by
  have hL' := hL
  simp only [List.length_append, List.length_cons, Lim] at hL'
  have e1 : at_ (P ++ (x :: (y :: Y ++ R))) (P.length : Int) = x := at_app _ _ x _ rfl
  have eL : P ++ (x :: (y :: Y ++ R)) = (P ++ [x]) ++ y :: (Y ++ R) := by simp
  have e2 : at_ (P ++ (x :: (y :: Y ++ R))) ((P.length : Int) + 1) = y := by rw [eL]; exact at_app _ _ y _ (by simp)
  have e3 : (P ++ (x :: (y :: Y ++ R))).set ((P.length : Int)).toNat y = P ++ (y :: (y :: Y ++ R)) := set_app P _ x y _ (by omega)
  have e4 : (P ++ (y :: (y :: Y ++ R))).set ((P.length : Int) + 1).toNat x = (P ++ [y]) ++ (x :: (Y ++ R)) := by
   rw [show P ++ (y :: (y :: Y ++ R)) = (P ++ [y]) ++ y :: (Y ++ R) by simp]
   exact set_app _ _ y x _ (by simp)
  have hs : symM.b1 x3 (P ++ (x :: (y :: Y ++ R)), (P.length : Int)) = some (.inl ((P ++ [y]) ++ (x :: (Y ++ R)), ((P ++ [y]).length : Int))) := by
   unfold symM.b1
   simp only [h3]
   rw [wr64 (n := ((P.length + 1 + (y :: Y).length : Nat) : Int) - 1) (by omega) (by simp; omega), wr64 (n := (P.length : Int) + 1) (by omega) (by omega), e1, e2, e3]
   rw [if_pos (by simp; omega), if_pos (by simp only [List.length_append, List.length_cons]; omega), if_pos (by simp only [List.length_append, List.length_cons]; omega), if_pos (by simp only [List.length_append, List.length_cons]; omega), if_pos (by simp only [List.length_append, List.length_cons]; omega), Option.bind_some, e4]
   congr 3
   simp
  rw [it_l hs, sm_b1 x3 x Y (P ++ [y]) R (by rw [h3]; simp; omega) (by simp; simp only [Lim]; omega)]
  simp
theorem sm_b3 (x73 : Int × Int) (y : α) : ∀ (k : Nat) (X P R : List α), X.length = k → x73.1 = (P.length : Int) → (P ++ (X ++ (y :: R))).length ≤ Lim → iter (symM.b3 x73) (P ++ (X ++ (y :: R)), ((P.length + X.length : Nat) : Int)) = some (P ++ (y :: (X ++ R)))
 | 0, X, P, R, hk, h3, hL => by
  obtain rfl : X = [] := List.length_eq_zero_iff.1 hk
  refine it_r ?_
  unfold symM.b3
  simp only [h3]
  rw [if_neg (by simp)]; rfl
 | k + 1, X, P, R, hk, h3, hL => by
  obtain ⟨X', x, rfl⟩ : ∃ X' x, X = X' ++ [x] := ⟨X.dropLast, X.getLast (by intro h; subst h; cases hk), (List.dropLast_concat_getLast _).symm⟩
  have hk' : X'.length = k := by simpa using hk
  have hL' := hL
  simp only [List.length_append, List.length_cons, List.length_nil, Lim] at hL'
  have eL1 : P ++ (X' ++ [x] ++ (y :: R)) = (P ++ X') ++ x :: (y :: R) := by simp
  have eL2 : P ++ (X' ++ [x] ++ (y :: R)) = (P ++ (X' ++ [x])) ++ y :: R := by simp
  have e1 : at_ (P ++ (X' ++ [x] ++ (y :: R))) ((P.length + (X' ++ [x]).length : Nat) : Int) = y := by rw [eL2]; exact at_app _ _ y _ (by simp)
  have e2 : at_ (P ++ (X' ++ [x] ++ (y :: R))) (((P.length + (X' ++ [x]).length : Nat) : Int) - 1) = x := by rw [eL1]; exact at_app _ _ x _ (by simp; omega)
  have e3 : (P ++ (X' ++ [x] ++ (y :: R))).set (((P.length + (X' ++ [x]).length : Nat) : Int)).toNat x = (P ++ X') ++ x :: (x :: R) := by
   rw [eL2, set_app _ _ y x _ (by simp; omega)]; simp
  have e4 : ((P ++ X') ++ x :: (x :: R)).set (((P.length + (X' ++ [x]).length : Nat) : Int) - 1).toNat y = P ++ (X' ++ (y :: (x :: R))) := by
   rw [set_app _ _ x y _ (by simp; omega)]; simp
  have hs : symM.b3 x73 (P ++ (X' ++ [x] ++ (y :: R)), ((P.length + (X' ++ [x]).length : Nat) : Int)) = some (.inl (P ++ (X' ++ (y :: (x :: R))), ((P.length + X'.length : Nat) : Int))) := by
   unfold symM.b3
   simp only [h3]
   rw [wr64 (n := ((P.length + (X' ++ [x]).length : Nat) : Int) - 1) (by omega) (by simp; omega), e1, e2, e3]
   rw [if_pos (by simp; omega), if_pos (by simp only [List.length_append, List.length_cons, List.length_nil]; omega), if_pos (by simp only [List.length_append, List.length_cons, List.length_nil]; omega), if_pos (by simp only [List.length_append, List.length_cons, List.length_nil]; omega), if_pos (by simp only [List.length_append, List.length_cons, List.length_nil]; omega), Option.bind_some, e4]
   congr 3
   simp; omega
  rw [it_l hs, sm_b3 x73 y k X' P (x :: R) hk' h3 (by simp only [List.length_append, List.length_cons, Lim]; omega)]
  simp
theorem pw_get {R : α → α → Prop} {l : List α} (h : l.Pairwise R) {i j : Nat} (hi : i < l.length) (hj : j < l.length) (hij : i < j) : R l[i] l[j] := List.pairwise_iff_getElem.1 h i j hi hj hij
theorem sm_one (hC : Cr c lt S) (P Y Q : List α) (x : α) (hx : S x) (hY : ∀ y ∈ Y, S y) (hYp : Y.Pairwise (TL lt ix)) (hxy : ∀ y ∈ Y, ix x < ix y) (hL : (P ++ (x :: (Y ++ Q))).length ≤ Lim) :
    ∃ Z, iter (symM.b0 (P ++ (x :: (Y ++ Q))) (P.length : Int) c) (((P.length + 1 : Nat) : Int), ((P.length + 1 + Y.length : Nat) : Int)) = some (P ++ (Z ++ Q)) ∧ Z.Perm (x :: Y) ∧ Z.Pairwise (TL lt ix) := by
  have hL' := hL
  simp only [List.length_append, List.length_cons, Lim] at hL'
  have eX : at_ (P ++ (x :: (Y ++ Q))) (P.length : Int) = x := at_app _ _ x _ rfl
  have eY : ∀ k : Nat, ∀ hk : k < Y.length, at_ (P ++ (x :: (Y ++ Q))) ((P.length + 1 + k : Nat) : Int) = Y[k] := fun k hk => by
    have := at_seg (P ++ [x]) Y Q k hk ((P.length + 1 + k : Nat) : Int) (by simp)
    simpa using this
  let T : Nat → Bool := fun k => lt (at_ (P ++ (x :: (Y ++ Q))) (k : Int)) x
  have hT : ∀ k : Nat, ∀ hk : k < Y.length, T (P.length + 1 + k) = lt Y[k] x := fun k hk => by show lt (at_ _ _) x = _; rw [eY k hk]
  have hle : ∀ i j : Nat, (hi : i < Y.length) → (hj : j < Y.length) → i ≤ j → lt Y[j] x = true → lt Y[i] x = true := fun i j hi hj hij h => by
    by_cases e : i = j
    · subst e; exact h
    · exact TL.lt_of hC hx (hY _ (List.getElem_mem hi)) (hxy _ (List.getElem_mem hi)) (TL.trans hC (hY _ (List.getElem_mem hi)) (hY _ (List.getElem_mem hj)) hx (pw_get hYp hi hj (by omega)) (.inl h))
  obtain ⟨s, s1, s2, s3, s4, s5⟩ := bs (body := symM.b0 (P ++ (x :: (Y ++ Q))) (P.length : Int) c) T (P.length + 1) (P.length + 1 + Y.length) (fun i j h1 h2 h3 h => by
    obtain ⟨i, rfl⟩ : ∃ i', i = P.length + 1 + i' := ⟨i - (P.length + 1), by omega⟩
    obtain ⟨j, rfl⟩ : ∃ j', j = P.length + 1 + j' := ⟨j - (P.length + 1), by omega⟩
    rw [hT j (by omega)] at h
    rw [hT i (by omega)]
    exact hle i j (by omega) (by omega) (by omega) h) (fun lo hi h1 h2 h3 => by
    obtain ⟨u, hu⟩ : ∃ u, (lo + hi) / 2 = P.length + 1 + u := ⟨(lo + hi) / 2 - (P.length + 1), by omega⟩
    have hul : u < Y.length := by omega
    obtain ⟨n, hn, hnl⟩ := hC.cmp Y[u] x (hY _ (List.getElem_mem hul)) hx
    unfold symM.b0
    simp only []
    rw [half lo hi (by omega), hu, eY u hul, eX, hT u hul]
    rw [if_pos (by simp; omega), if_pos (by simp only [List.length_append, List.length_cons]; omega), if_pos (by simp only [List.length_append, List.length_cons]; omega), hn, Option.bind_some, hnl]
    by_cases hq : lt Y[u] x = true
    · rw [if_pos hq, if_pos hq, Option.bind_some, wr64 (by omega) (by omega)]; rfl
    · rw [if_neg hq, if_neg hq, Option.bind_some]) (by omega)
  obtain ⟨u, rfl⟩ : ∃ u, s = P.length + 1 + u := ⟨s - (P.length + 1), by omega⟩
  have hu : u ≤ Y.length := by omega
  have hsp : Y.take u ++ Y.drop u = Y := List.take_append_drop u Y
  have g1 : ∀ y ∈ Y.take u, lt y x = true := fun y hy => by
    obtain ⟨k, hk, rfl⟩ := List.mem_iff_getElem.1 hy
    rw [List.length_take] at hk
    rw [List.getElem_take, ← hT k (by omega)]
    exact s3 _ (by omega) (by omega)
  have g2 : ∀ y ∈ Y.drop u, TL lt ix x y := fun y hy => by
    obtain ⟨k, hk, rfl⟩ := List.mem_iff_getElem.1 hy
    rw [List.length_drop] at hk
    rw [List.getElem_drop]
    refine .inr ⟨?_, hxy _ (List.getElem_mem _)⟩
    rw [← hT (u + k) (by omega)]
    exact s4 _ (by omega) (by omega)
  refine ⟨Y.take u ++ x :: Y.drop u, ?_, ?_, ?_⟩
  · rw [s5]
    have hb := sm_b1 (((P.length + 1 + u : Nat) : Int), ((P.length + 1 + u : Nat) : Int)) x (Y.take u) P (Y.drop u ++ Q) (by simp; omega) (by rw [← List.append_assoc, hsp]; exact hL)
    rw [← List.append_assoc (Y.take u), hsp] at hb
    refine it_r ?_
    unfold symM.b0
    simp only []
    rw [if_neg (by simp), hb]
    simp
  · have := List.perm_middle (a := x) (l₁ := Y.take u) (l₂ := Y.drop u)
    rw [hsp] at this
    exact this
  · obtain ⟨p1, p2, p3⟩ := List.pairwise_append.1 (hsp ▸ hYp)
    refine List.pairwise_append.2 ⟨p1, List.pairwise_cons.2 ⟨g2, p2⟩, fun y hy z hz => ?_⟩
    rcases List.mem_cons.1 hz with rfl | hz
    · exact .inl (g1 y hy)
    · exact p3 y hy z hz
theorem sm_two (hC : Cr c lt S) (P X Q : List α) (y : α) (hy : S y) (hX : ∀ x ∈ X, S x) (hXp : X.Pairwise (TL lt ix)) (hxy : ∀ x ∈ X, ix x < ix y) (hL : (P ++ (X ++ (y :: Q))).length ≤ Lim) :
    ∃ Z, iter (symM.b2 (P ++ (X ++ (y :: Q))) ((P.length + X.length : Nat) : Int) c) ((P.length : Int), ((P.length + X.length : Nat) : Int)) = some (P ++ (Z ++ Q)) ∧ Z.Perm (X ++ [y]) ∧ Z.Pairwise (TL lt ix) := by
  have hL' := hL
  simp only [List.length_append, List.length_cons, Lim] at hL'
  have eY : at_ (P ++ (X ++ (y :: Q))) ((P.length + X.length : Nat) : Int) = y := by
    rw [← List.append_assoc]; exact at_app _ _ y _ (by simp)
  have eX : ∀ k : Nat, ∀ hk : k < X.length, at_ (P ++ (X ++ (y :: Q))) ((P.length + k : Nat) : Int) = X[k] := fun k hk => at_seg P X _ k hk _ rfl
  let T : Nat → Bool := fun k => !(lt y (at_ (P ++ (X ++ (y :: Q))) (k : Int)))
  have hT : ∀ k : Nat, ∀ hk : k < X.length, T (P.length + k) = !(lt y X[k]) := fun k hk => by show (!(lt y (at_ _ _))) = _; rw [eX k hk]
  have hle : ∀ i j : Nat, (hi : i < X.length) → (hj : j < X.length) → i ≤ j → lt y X[i] = true → lt y X[j] = true := fun i j hi hj hij h => by
    by_cases e : i = j
    · subst e; exact h
    · exact TL.lt_of hC (hX _ (List.getElem_mem hj)) hy (hxy _ (List.getElem_mem hj)) (TL.trans hC hy (hX _ (List.getElem_mem hi)) (hX _ (List.getElem_mem hj)) (.inl h) (pw_get hXp hi hj (by omega)))
  obtain ⟨s, s1, s2, s3, s4, s5⟩ := bs (body := symM.b2 (P ++ (X ++ (y :: Q))) ((P.length + X.length : Nat) : Int) c) T P.length (P.length + X.length) (fun i j h1 h2 h3 h => by
    obtain ⟨i, rfl⟩ : ∃ i', i = P.length + i' := ⟨i - P.length, by omega⟩
    obtain ⟨j, rfl⟩ : ∃ j', j = P.length + j' := ⟨j - P.length, by omega⟩
    rw [hT j (by omega)] at h
    rw [hT i (by omega)]
    cases hq : lt y (X[i]'(by omega)) with
    | false => rfl
    | true =>
      have := hle i j (by omega) (by omega) (by omega) hq
      rw [this] at h; cases h) (fun lo hi h1 h2 h3 => by
    obtain ⟨u, hu⟩ : ∃ u, (lo + hi) / 2 = P.length + u := ⟨(lo + hi) / 2 - P.length, by omega⟩
    have hul : u < X.length := by omega
    obtain ⟨n, hn, hnl⟩ := hC.cmp y X[u] hy (hX _ (List.getElem_mem hul))
    unfold symM.b2
    simp only []
    rw [half lo hi (by omega), hu, eX u hul, eY, hT u hul]
    rw [if_pos (by simp; omega), if_pos (by simp only [List.length_append, List.length_cons]; omega), if_pos (by simp only [List.length_append, List.length_cons]; omega), hn, Option.bind_some, hnl]
    by_cases hq : (!(lt y X[u])) = true
    · rw [if_pos hq, if_pos hq, Option.bind_some, wr64 (by omega) (by omega)]; rfl
    · rw [if_neg hq, if_neg hq, Option.bind_some]) (by omega)
  obtain ⟨u, rfl⟩ : ∃ u, s = P.length + u := ⟨s - P.length, by omega⟩
  have hu : u ≤ X.length := by omega
  have hsp : X.take u ++ X.drop u = X := List.take_append_drop u X
  have g1 : ∀ x ∈ X.take u, TL lt ix x y := fun x hx => by
    obtain ⟨k, hk, rfl⟩ := List.mem_iff_getElem.1 hx
    rw [List.length_take] at hk
    rw [List.getElem_take]
    refine .inr ⟨?_, hxy _ (List.getElem_mem _)⟩
    have := s3 (P.length + k) (by omega) (by omega)
    rw [hT k (by omega)] at this
    simpa using this
  have g2 : ∀ x ∈ X.drop u, TL lt ix y x := fun x hx => by
    obtain ⟨k, hk, rfl⟩ := List.mem_iff_getElem.1 hx
    rw [List.length_drop] at hk
    rw [List.getElem_drop]
    have := s4 (P.length + (u + k)) (by omega) (by omega)
    rw [hT (u + k) (by omega)] at this
    exact .inl (by simpa using this)
  refine ⟨X.take u ++ y :: X.drop u, ?_, ?_, ?_⟩
  · rw [s5]
    have hb := sm_b3 (((P.length + u : Nat) : Int), ((P.length + u : Nat) : Int)) y (X.drop u).length (X.drop u) (P ++ X.take u) Q rfl (by simp; omega) (by rw [List.append_assoc, ← List.append_assoc (X.take u), hsp]; exact hL)
    rw [List.append_assoc, ← List.append_assoc (X.take u), hsp] at hb
    have e : (((P ++ X.take u).length + (X.drop u).length : Nat) : Int) = ((P.length + X.length : Nat) : Int) := by simp; omega
    rw [e] at hb
    refine it_r ?_
    unfold symM.b2
    simp only []
    rw [if_neg (by simp), hb]
    simp
  · have := List.perm_middle (a := y) (l₁ := X.take u) (l₂ := X.drop u)
    rw [hsp] at this
    exact this.trans (List.perm_append_singleton y X).symm
  · obtain ⟨p1, p2, p3⟩ := List.pairwise_append.1 (hsp ▸ hXp)
    refine List.pairwise_append.2 ⟨p1, List.pairwise_cons.2 ⟨g2, p2⟩, fun x hx z hz => ?_⟩
    rcases List.mem_cons.1 hz with rfl | hz
    · exact g1 x hx
    · exact p3 x hx z hz
end
end Go.Proofs.YtcgbhldenkeplaaGreat.V
set_option linter.unusedVariables false
set_option linter.unusedSimpArgs false
set_option linter.unusedSectionVars false
namespace Go.Proofs.YtcgbhldenkeplaaGreat.V
open Go
section
variable {α : Type} [Inhabited α]
variable {c : α → α → Option Int} {lt : α → α → Bool} {ix : α → Nat} {S : α → Prop}
theorem cross (hC : Cr c lt S) (P X Y Q : List α) (a m b mid lo0 hi0 : Nat) (ha : a = P.length) (hm : m = a + X.length) (hb : b = m + Y.length) (hX1 : 2 ≤ X.length) (hY1 : 2 ≤ Y.length) (hmid : mid = (a + b) / 2)
    (hlo : lo0 = if m > mid then mid + m - b else a) (hhi : hi0 = if m > mid then mid else m) (hX : ∀ x ∈ X, S x) (hY : ∀ y ∈ Y, S y) (hXp : X.Pairwise (TL lt ix)) (hYp : Y.Pairwise (TL lt ix)) (hxy : ∀ x ∈ X, ∀ y ∈ Y, ix x < ix y) (hL : (P ++ (X ++ (Y ++ Q))).length ≤ Lim)
    (R : List α → Int → Int → Int → (α → α → Option Int) → Option (List α)) :
    ∃ s : Nat, lo0 ≤ s ∧ s ≤ hi0 ∧ (∀ x ∈ X.take (s - a), ∀ y ∈ Y.drop (mid + m - s - m), TL lt ix x y) ∧ (∀ y ∈ Y.take (mid + m - s - m), ∀ x ∈ X.drop (s - a), TL lt ix y x) ∧
      iter (symM.b4 (P ++ (X ++ (Y ++ Q))) (a : Int) (m : Int) (b : Int) c R) ((lo0 : Int), (hi0 : Int)) = iter (symM.b4 (P ++ (X ++ (Y ++ Q))) (a : Int) (m : Int) (b : Int) c R) ((s : Int), (s : Int)) := by
  have hL' := hL
  simp only [List.length_append, Lim] at hL'
  have hbd : a ≤ lo0 ∧ lo0 ≤ hi0 ∧ hi0 ≤ m ∧ hi0 ≤ mid ∧ m ≤ mid + m - hi0 ∧ mid + m - lo0 ≤ b := by
    by_cases h : m > mid
    · rw [if_pos h] at hlo hhi; omega
    · rw [if_neg h] at hlo hhi; omega
  obtain ⟨b1, b2, b3, b3', b4, b5⟩ := hbd
  have eX : ∀ k : Nat, ∀ hk : k < X.length, at_ (P ++ (X ++ (Y ++ Q))) ((a + k : Nat) : Int) = X[k] := fun k hk => at_seg P X _ k hk _ (by rw [ha])
  have eY : ∀ k : Nat, ∀ hk : k < Y.length, at_ (P ++ (X ++ (Y ++ Q))) ((m + k : Nat) : Int) = Y[k] := fun k hk => by
    rw [← List.append_assoc P X]; exact at_seg (P ++ X) Y Q k hk _ (by simp; omega)
  let T : Nat → Bool := fun k => !(lt (at_ (P ++ (X ++ (Y ++ Q))) ((mid + m - 1 - k : Nat) : Int)) (at_ (P ++ (X ++ (Y ++ Q))) (k : Int)))
  have hT : ∀ k : Nat, lo0 ≤ k → k < hi0 → ∃ (h1 : k - a < X.length) (h2 : mid + m - 1 - k - m < Y.length), T k = !(lt (Y[mid + m - 1 - k - m]'h2) (X[k - a]'h1)) := fun k h1 h2 => by
    have k1 : k - a < X.length := by omega
    have k2 : mid + m - 1 - k - m < Y.length := by omega
    refine ⟨k1, k2, ?_⟩
    show (!(lt (at_ _ _) (at_ _ _))) = _
    have q1 := eX (k - a) k1
    have q2 := eY (mid + m - 1 - k - m) k2
    rw [show a + (k - a) = k by omega] at q1
    rw [show m + (mid + m - 1 - k - m) = mid + m - 1 - k by omega] at q2
    rw [q1, q2]
  have mX : ∀ k : Nat, ∀ hk : k < X.length, S X[k] := fun k hk => hX _ (List.getElem_mem hk)
  have mY : ∀ k : Nat, ∀ hk : k < Y.length, S Y[k] := fun k hk => hY _ (List.getElem_mem hk)
  have hle : ∀ i j u v : Nat, (hi : i < X.length) → (hj : j < X.length) → (hu : u < Y.length) → (hv : v < Y.length) → i ≤ j → v ≤ u → lt Y[u] X[i] = true → lt Y[v] X[j] = true := fun i j u v hi hj hu hv hij hvu h => by
    refine TL.lt_of hC (mX j hj) (mY v hv) (hxy _ (List.getElem_mem hj) _ (List.getElem_mem hv)) ?_
    have t1 : TL lt ix Y[u] X[j] := by
      by_cases e : i = j
      · subst e; exact .inl h
      · exact TL.trans hC (mY u hu) (mX i hi) (mX j hj) (.inl h) (pw_get hXp hi hj (by omega))
    by_cases e : v = u
    · subst e; exact t1
    · exact TL.trans hC (mY v hv) (mY u hu) (mX j hj) (pw_get hYp hv hu (by omega)) t1
  obtain ⟨s, s1, s2, s3, s4, s5⟩ := bs (body := symM.b4 (P ++ (X ++ (Y ++ Q))) (a : Int) (m : Int) (b : Int) c R) T lo0 hi0 (fun i j h1 h2 h3 h => by
    obtain ⟨x1, y1, e1⟩ := hT j (by omega) h3
    obtain ⟨x2, y2, e2⟩ := hT i h1 (by omega)
    rw [e1] at h
    rw [e2]
    cases hq : lt (Y[mid + m - 1 - i - m]'y2) (X[i - a]'x2) with
    | false => rfl
    | true =>
      have := hle (i - a) (j - a) (mid + m - 1 - i - m) (mid + m - 1 - j - m) x2 x1 y2 y1 (by omega) (by omega) hq
      rw [this] at h; cases h) (fun lo hi h1 h2 h3 => by
    obtain ⟨x1, y1, e1⟩ := hT ((lo + hi) / 2) (by omega) (by omega)
    obtain ⟨n, hn, hnl⟩ := hC.cmp _ _ (mY _ y1) (mX _ x1)
    have q1 := eX _ x1
    have q2 := eY _ y1
    rw [show a + ((lo + hi) / 2 - a) = (lo + hi) / 2 by omega] at q1
    rw [show m + (mid + m - 1 - (lo + hi) / 2 - m) = mid + m - 1 - (lo + hi) / 2 by omega] at q2
    unfold symM.b4
    simp only []
    rw [half a b (by omega), ← hmid, half lo hi (by omega), wr64 (n := (mid : Int) + (m : Int)) (by omega) (by omega), wr64 (n := (mid : Int) + (m : Int) - 1) (by omega) (by omega), wr64 (n := (mid : Int) + (m : Int) - 1 - (((lo + hi) / 2 : Nat) : Int)) (by omega) (by omega)]
    have e0 : (mid : Int) + (m : Int) - 1 - (((lo + hi) / 2 : Nat) : Int) = ((mid + m - 1 - (lo + hi) / 2 : Nat) : Int) := by omega
    rw [e0, q1, q2]
    rw [if_pos (by simp; omega), if_pos (by simp only [List.length_append]; omega), if_pos (by simp only [List.length_append]; omega), hn, Option.bind_some, hnl, e1]
    by_cases hq : (!(lt (Y[mid + m - 1 - (lo + hi) / 2 - m]'y1) (X[(lo + hi) / 2 - a]'x1))) = true
    · rw [if_pos hq, if_pos hq, Option.bind_some, wr64 (by omega) (by omega)]; rfl
    · rw [if_neg hq, if_neg hq, Option.bind_some]) b2
  refine ⟨s, s1, s2, fun x hx y hy => ?_, fun y hy x hx => ?_, s5⟩
  · obtain ⟨i, hi, rfl⟩ := List.mem_iff_getElem.1 hx
    obtain ⟨j, hj, rfl⟩ := List.mem_iff_getElem.1 hy
    rw [List.length_take] at hi
    rw [List.length_drop] at hj
    rw [List.getElem_take, List.getElem_drop]
    have hs : lo0 ≤ s - 1 ∧ s - 1 < s ∧ s - 1 < hi0 := by
      by_cases h : m > mid
      · rw [if_pos h] at hlo hhi; omega
      · rw [if_neg h] at hlo hhi; omega
    obtain ⟨x1, y1, e1⟩ := hT (s - 1) hs.1 hs.2.2
    have ht := s3 (s - 1) hs.1 hs.2.1
    rw [e1] at ht
    have hbase : TL lt ix (X[s - 1 - a]'x1) (Y[mid + m - 1 - (s - 1) - m]'y1) := .inr ⟨by simpa using ht, hxy _ (List.getElem_mem _) _ (List.getElem_mem _)⟩
    have t1 : TL lt ix (X[i]'(by omega)) (Y[mid + m - 1 - (s - 1) - m]'y1) := by
      by_cases e : i = s - 1 - a
      · subst e; exact hbase
      · exact TL.trans hC (mX _ _) (mX _ x1) (mY _ y1) (pw_get hXp (by omega) x1 (by omega)) hbase
    by_cases e : mid + m - s - m + j = mid + m - 1 - (s - 1) - m
    · have : (Y[mid + m - s - m + j]'(by omega)) = (Y[mid + m - 1 - (s - 1) - m]'y1) := by congr 1
      rw [this]; exact t1
    · exact TL.trans hC (mX _ _) (mY _ y1) (mY _ _) t1 (pw_get hYp y1 (by omega) (by omega))
  · obtain ⟨j, hj, rfl⟩ := List.mem_iff_getElem.1 hy
    obtain ⟨i, hi, rfl⟩ := List.mem_iff_getElem.1 hx
    rw [List.length_take] at hj
    rw [List.length_drop] at hi
    rw [List.getElem_take, List.getElem_drop]
    have hs : lo0 ≤ s ∧ s < hi0 := by
      by_cases h : m > mid
      · rw [if_pos h] at hlo hhi; omega
      · rw [if_neg h] at hlo hhi; omega
    obtain ⟨x1, y1, e1⟩ := hT s hs.1 hs.2
    have ht := s4 s (Nat.le_refl _) hs.2
    rw [e1] at ht
    have hbase : TL lt ix (Y[mid + m - 1 - s - m]'y1) (X[s - a]'x1) := .inl (by simpa using ht)
    have t1 : TL lt ix (Y[j]'(by omega)) (X[s - a]'x1) := by
      by_cases e : j = mid + m - 1 - s - m
      · subst e; exact hbase
      · exact TL.trans hC (mY _ _) (mY _ y1) (mX _ x1) (pw_get hYp (by omega) y1 (by omega)) hbase
    by_cases e : i = 0
    · subst e; simpa using t1
    · exact TL.trans hC (mY _ _) (mX _ x1) (mX _ _) t1 (pw_get hXp x1 (by omega) (by omega))
theorem symg (hC : Cr c lt S) : ∀ (n : Nat) (P X Y Q : List α) (a m b : Nat), a = P.length → m = a + X.length → b = m + Y.length → 1 ≤ X.length → 1 ≤ Y.length → X.length + Y.length ≤ 2 ^ n → (∀ x ∈ X, S x) → (∀ y ∈ Y, S y) → X.Pairwise (TL lt ix) → Y.Pairwise (TL lt ix) → (∀ x ∈ X, ∀ y ∈ Y, ix x < ix y) → (P ++ (X ++ (Y ++ Q))).length ≤ Lim →
    ∃ Z, symM.g n (P ++ (X ++ (Y ++ Q))) (a : Int) (m : Int) (b : Int) c = some (P ++ (Z ++ Q)) ∧ Z.Perm (X ++ Y) ∧ Z.Pairwise (TL lt ix)
  | 0, P, X, Y, Q, a, m, b, ha, hm, hb, hX1, hY1, hn, hX, hY, hXp, hYp, hxy, hL => by simp at hn; omega
  | n + 1, P, X, Y, Q, a, m, b, ha, hm, hb, hX1, hY1, hn, hX, hY, hXp, hYp, hxy, hL => by
    have hL' := hL
    simp only [List.length_append, Lim] at hL'
    show ∃ Z, symM.h (symM.g n) (P ++ (X ++ (Y ++ Q))) (a : Int) (m : Int) (b : Int) c = some (P ++ (Z ++ Q)) ∧ _
    unfold symM.h
    rw [wr64 (n := (m : Int) - (a : Int)) (by omega) (by omega), wr64 (n := (b : Int) - (m : Int)) (by omega) (by omega)]
    by_cases hx : X.length = 1
    · obtain ⟨x, rfl⟩ := List.length_eq_one_iff.1 hx
      rw [if_pos (by simp; omega)]
      have := sm_one (ix := ix) hC P Y Q x (hX x (by simp)) hY hYp (fun y hy => hxy x (by simp) y hy) (by simpa using hL)
      have e1 : (m : Int) = ((P.length + 1 : Nat) : Int) := by omega
      have e2 : (b : Int) = ((P.length + 1 + Y.length : Nat) : Int) := by omega
      rw [e1, e2, ha]
      simpa using this
    · rw [if_neg (by simp; omega)]
      by_cases hy : Y.length = 1
      · obtain ⟨y, rfl⟩ := List.length_eq_one_iff.1 hy
        rw [if_pos (by simp; omega)]
        have := sm_two (ix := ix) hC P X Q y (hY y (by simp)) hX hXp (fun x hx => hxy x hx y (by simp)) (by simpa using hL)
        have e1 : (m : Int) = ((P.length + X.length : Nat) : Int) := by omega
        rw [e1, ha]
        simpa using this
      · rw [if_neg (by simp; omega)]
        obtain ⟨mid, hmid⟩ : ∃ mid, mid = (a + b) / 2 := ⟨_, rfl⟩
        obtain ⟨lo0, hlo⟩ : ∃ lo0, lo0 = if m > mid then mid + m - b else a := ⟨_, rfl⟩
        obtain ⟨hi0, hhi⟩ : ∃ hi0, hi0 = if m > mid then mid else m := ⟨_, rfl⟩
        rw [half a b (by omega), ← hmid, wr64 (n := (mid : Int) + (m : Int)) (by omega) (by omega), wr64 (n := (mid : Int) + (m : Int) - (b : Int)) (by omega) (by omega)]
        have e0 : (if (decide ((m : Int) > (mid : Int))) = true then (some ((mid : Int) + (m : Int) - (b : Int), (mid : Int))) else (some ((a : Int), (m : Int)))) = some ((lo0 : Int), (hi0 : Int)) := by
          by_cases h : m > mid
          · rw [if_pos h] at hlo hhi
            rw [if_pos (by simp; omega), hlo, hhi]
            congr 2; omega
          · rw [if_neg h] at hlo hhi
            rw [if_neg (by simp; omega), hlo, hhi]
        rw [e0, Option.bind_some]
        obtain ⟨s, s1, s2, g1, g2, s5⟩ := cross (ix := ix) hC P X Y Q a m b mid lo0 hi0 ha hm hb (by omega) (by omega) hmid hlo hhi hX hY hXp hYp hxy hL (symM.g n)
        simp only []
        rw [s5]
        have hbd : a ≤ s ∧ s ≤ m ∧ s ≤ mid ∧ m ≤ mid + m - s ∧ mid + m - s ≤ b := by
          by_cases h : m > mid
          · rw [if_pos h] at hlo hhi; omega
          · rw [if_neg h] at hlo hhi; omega
        obtain ⟨t1, t2, t2', t3, t4⟩ := hbd
        obtain ⟨e, he⟩ : ∃ e, e = mid + m - s := ⟨_, rfl⟩
        rw [← he] at g1 g2 t3 t4
        have hXs : X.take (s - a) ++ X.drop (s - a) = X := List.take_append_drop _ _
        have hYs : Y.take (e - m) ++ Y.drop (e - m) = Y := List.take_append_drop _ _
        have lX1 : (X.take (s - a)).length = s - a := by rw [List.length_take]; omega
        have lX2 : (X.drop (s - a)).length = m - s := by rw [List.length_drop]; omega
        have lY1 : (Y.take (e - m)).length = e - m := by rw [List.length_take]; omega
        have lY2 : (Y.drop (e - m)).length = b - e := by rw [List.length_drop]; omega
        have hbL : b ≤ 4294967296 := by omega
        generalize X.take (s - a) = X1 at *
        generalize X.drop (s - a) = X2 at *
        generalize Y.take (e - m) = Y1 at *
        generalize Y.drop (e - m) = Y2 at *
        subst hXs
        subst hYs
        obtain ⟨px1, px2, px3⟩ := List.pairwise_append.1 hXp
        obtain ⟨py1, py2, py3⟩ := List.pairwise_append.1 hYp
        have hpow : 2 ^ (n + 1) = 2 * 2 ^ n := by rw [Nat.pow_succ]; omega
        simp only [List.length_append] at hm hb hX1 hY1 hn hx hy
        -- the turn
        have hrot : (if ((decide ((s : Int) < (m : Int))) && (decide ((m : Int) < (e : Int)))) = true then ((rotM.f (P ++ (X1 ++ X2 ++ (Y1 ++ Y2 ++ Q))) (s : Int) (m : Int) (e : Int) c).bind fun r178 => (some r178)) else (some (P ++ (X1 ++ X2 ++ (Y1 ++ Y2 ++ Q))))) = some (P ++ (X1 ++ (Y1 ++ (X2 ++ (Y2 ++ Q))))) := by
          by_cases hc : s < m ∧ m < e
          · have := rot_f X2 Y1 (P ++ X1) (Y2 ++ Q) c (s : Int) (m : Int) (e : Int) (by omega) (by omega) (by simp; omega) (by simp; omega) (by simp; omega) (by simp only [List.length_append, Lim] at hL ⊢; omega)
            rw [if_pos (by simp; omega)]
            have e1 : P ++ (X1 ++ X2 ++ (Y1 ++ Y2 ++ Q)) = P ++ X1 ++ (X2 ++ (Y1 ++ (Y2 ++ Q))) := by simp
            rw [e1, this]
            simp
          · rw [if_neg (by simp only [Bool.and_eq_true, decide_eq_true_eq]; omega)]
            by_cases hc1 : s < m
            · obtain rfl : Y1 = [] := List.length_eq_zero_iff.1 (by omega)
              simp
            · obtain rfl : X2 = [] := List.length_eq_zero_iff.1 (by omega)
              simp
        obtain ⟨Z1, r1, z1, w1⟩ : ∃ Z1, (if ((decide ((a : Int) < (s : Int))) && (decide ((s : Int) < (mid : Int)))) = true then ((symM.g n (P ++ (X1 ++ (Y1 ++ (X2 ++ (Y2 ++ Q))))) (a : Int) (s : Int) (mid : Int) c).bind fun r187 => (some r187)) else (some (P ++ (X1 ++ (Y1 ++ (X2 ++ (Y2 ++ Q))))))) = some (P ++ (Z1 ++ (X2 ++ (Y2 ++ Q)))) ∧ Z1.Perm (X1 ++ Y1) ∧ Z1.Pairwise (TL lt ix) := by
          by_cases hc : a < s ∧ s < mid
          · obtain ⟨Z1, r1, z1, w1⟩ := symg hC n P X1 Y1 (X2 ++ (Y2 ++ Q)) a s mid ha (by omega) (by omega) (by omega) (by omega) (by omega) (fun x hx => hX x (by simp [hx])) (fun y hy => hY y (by simp [hy])) px1 py1 (fun x hx y hy => hxy x (by simp [hx]) y (by simp [hy])) (by simp only [List.length_append, Lim] at hL ⊢; omega)
            exact ⟨Z1, by rw [if_pos (by simp; omega), r1]; rfl, z1, w1⟩
          · refine ⟨X1 ++ Y1, by rw [if_neg (by simp only [Bool.and_eq_true, decide_eq_true_eq]; omega)]; simp, .refl _, ?_⟩
            by_cases hc1 : a < s
            · obtain rfl : Y1 = [] := List.length_eq_zero_iff.1 (by omega)
              simpa using px1
            · obtain rfl : X1 = [] := List.length_eq_zero_iff.1 (by omega)
              simpa using py1
        have lZ1 : Z1.length = X1.length + Y1.length := by have := z1.length_eq; simpa using this
        obtain ⟨Z2, r2, z2, w2⟩ : ∃ Z2, (if ((decide ((mid : Int) < (e : Int))) && (decide ((e : Int) < (b : Int)))) = true then ((symM.g n (P ++ (Z1 ++ (X2 ++ (Y2 ++ Q)))) (mid : Int) (e : Int) (b : Int) c).bind fun r195 => (some r195)) else (some (P ++ (Z1 ++ (X2 ++ (Y2 ++ Q)))))) = some (P ++ (Z1 ++ (Z2 ++ Q))) ∧ Z2.Perm (X2 ++ Y2) ∧ Z2.Pairwise (TL lt ix) := by
          by_cases hc : mid < e ∧ e < b
          · obtain ⟨Z2, r2, z2, w2⟩ := symg hC n (P ++ Z1) X2 Y2 Q mid e b (by simp; omega) (by omega) (by omega) (by omega) (by omega) (by omega) (fun x hx => hX x (by simp [hx])) (fun y hy => hY y (by simp [hy])) px2 py2 (fun x hx y hy => hxy x (by simp [hx]) y (by simp [hy])) (by simp only [List.length_append, Lim] at hL ⊢; omega)
            refine ⟨Z2, ?_, z2, w2⟩
            rw [if_pos (by simp; omega)]
            have e1 : P ++ (Z1 ++ (X2 ++ (Y2 ++ Q))) = P ++ Z1 ++ (X2 ++ (Y2 ++ Q)) := by simp
            rw [e1, r2]; simp
          · refine ⟨X2 ++ Y2, by rw [if_neg (by simp only [Bool.and_eq_true, decide_eq_true_eq]; omega)]; simp, .refl _, ?_⟩
            by_cases hc1 : mid < e
            · obtain rfl : Y2 = [] := List.length_eq_zero_iff.1 (by omega)
              simpa using px2
            · obtain rfl : X2 = [] := List.length_eq_zero_iff.1 (by omega)
              simpa using py2
        refine ⟨Z1 ++ Z2, ?_, ?_, ?_⟩
        · refine it_r ?_
          unfold symM.b4
          simp only []
          rw [if_neg (by simp), half a b (by omega), ← hmid, wr64 (n := (mid : Int) + (m : Int)) (by omega) (by omega), wr64 (n := (mid : Int) + (m : Int) - (s : Int)) (by omega) (by omega)]
          have e1 : (mid : Int) + (m : Int) - (s : Int) = (e : Int) := by omega
          rw [e1, hrot, Option.bind_some, r1, Option.bind_some, r2]
          simp
        · refine (z1.append z2).trans ?_
          simp only [List.append_assoc]
          refine List.Perm.append_left X1 ?_
          rw [← List.append_assoc, ← List.append_assoc]
          exact List.perm_append_comm.append_right Y2
        · refine List.pairwise_append.2 ⟨w1, w2, fun u hu v hv => ?_⟩
          have hu' := z1.mem_iff.1 hu
          have hv' := z2.mem_iff.1 hv
          rcases List.mem_append.1 hu' with hu' | hu' <;> rcases List.mem_append.1 hv' with hv' | hv'
          · exact px3 u hu' v hv'
          · exact g1 u hu' v hv'
          · exact g2 u hu' v hv'
          · exact py3 u hu' v hv'
theorem le_pw {k n : Nat} (hn : 33 ≤ n) (hk : k ≤ 8589934592) : k ≤ 2 ^ n := Nat.le_trans (Nat.le_trans hk (by decide : 8589934592 ≤ 2 ^ 33)) (Nat.pow_le_pow_right (by omega) hn)
theorem sym_f (hC : Cr c lt S) (P X Y Q : List α) (a m b : Nat) (ha : a = P.length) (hm : m = a + X.length) (hb : b = m + Y.length) (hX1 : 1 ≤ X.length) (hY1 : 1 ≤ Y.length) (hX : ∀ x ∈ X, S x) (hY : ∀ y ∈ Y, S y) (hXp : X.Pairwise (TL lt ix)) (hYp : Y.Pairwise (TL lt ix)) (hxy : ∀ x ∈ X, ∀ y ∈ Y, ix x < ix y) (hL : (P ++ (X ++ (Y ++ Q))).length ≤ Lim) :
    ∃ Z, symM.f (P ++ (X ++ (Y ++ Q))) (a : Int) (m : Int) (b : Int) c = some (P ++ (Z ++ Q)) ∧ Z.Perm (X ++ Y) ∧ Z.Pairwise (TL lt ix) := by
  have hk : X.length + Y.length ≤ 8589934592 := by
    simp only [List.length_append, Lim] at hL
    omega
  have key : ∀ n : Nat, 33 ≤ n → ∃ Z, symM.g n (P ++ (X ++ (Y ++ Q))) (a : Int) (m : Int) (b : Int) c = some (P ++ (Z ++ Q)) ∧ Z.Perm (X ++ Y) ∧ Z.Pairwise (TL lt ix) := fun n hn => symg hC n P X Y Q a m b ha hm hb hX1 hY1 (le_pw hn hk) hX hY hXp hYp hxy hL
  exact key 1000 (by decide)
end
end Go.Proofs.YtcgbhldenkeplaaGreat.V
set_option linter.unusedVariables false
set_option linter.unusedSimpArgs false
set_option linter.unusedSectionVars false
namespace Go.Proofs.YtcgbhldenkeplaaGreat.V
open Go
section
variable {α : Type} [Inhabited α]
variable {c : α → α → Option Int} {lt : α → α → Bool} {ix : α → Nat} {S : α → Prop}
def BkW (w : Nat) : List (List α) → Prop
 | [] => True
 | [B] => 1 ≤ B.length ∧ B.length ≤ w
 | B :: C :: Bs => B.length = w ∧ BkW w (C :: Bs)
structure GB (lt : α → α → Bool) (ix : α → Nat) (S : α → Prop) (Bs : List (List α)) : Prop where
 srt : ∀ B ∈ Bs, B.Pairwise (TL lt ix)
 mem : ∀ B ∈ Bs, ∀ x ∈ B, S x
 ord : Bs.Pairwise (fun B C => ∀ x ∈ B, ∀ y ∈ C, ix x < ix y)
theorem bk_pass (hC : Cr c lt S) (w n : Nat) (hw : 1 ≤ w) (hwn : w ≤ 4294967296) (x13 : List α × Int) (hx : x13.2 = (w : Int)) : ∀ (k : Nat) (Bs : List (List α)) (P : List α), Bs.length ≤ k → BkW w Bs → GB lt ix S Bs → n = P.length + Bs.flatten.length → n ≤ Lim →
    ∃ Cs, iter (stbM.b2 (n : Int) c x13) (P ++ Bs.flatten, (P.length : Int), ((P.length + 2 * w : Nat) : Int)) = some (.inl (P ++ Cs.flatten, ((2 * w : Nat) : Int))) ∧ BkW (2 * w) Cs ∧ GB lt ix S Cs ∧ Cs.flatten.Perm Bs.flatten := by
  have fin : ∀ (P L L' : List α) (hn : n = P.length + L.length) (hL : n ≤ Lim), n < P.length + 2 * w → (if (decide (((P.length + w : Nat) : Int) < (n : Int))) = true then ((symM.f (P ++ L) (P.length : Int) ((P.length + w : Nat) : Int) (n : Int) c).bind fun r28 => (some r28)) else (some (P ++ L))) = some (P ++ L') →
      iter (stbM.b2 (n : Int) c x13) (P ++ L, (P.length : Int), ((P.length + 2 * w : Nat) : Int)) = some (.inl (P ++ L', ((2 * w : Nat) : Int))) := by
    intro P L L' hn hL hlt he
    simp only [Lim] at hL
    refine it_r ?_
    unfold stbM.b2
    simp only [hx]
    rw [if_neg (by simp; omega), wr64 (n := (P.length : Int) + (w : Int)) (by omega) (by omega), show (P.length : Int) + (w : Int) = ((P.length + w : Nat) : Int) by omega, he, Option.bind_some, wr64 (by omega) (by omega)]
    simp; omega
  intro k
  induction k with
  | zero =>
    intro Bs P hk hB hG hn hL
    obtain rfl : Bs = [] := List.length_eq_zero_iff.1 (by omega)
    refine ⟨[], fin P [] [] (by simpa using hn) hL (by simp at hn; omega) ?_, trivial, hG, .refl _⟩
    rw [if_neg (by simp at hn ⊢; omega)]
  | succ k ih =>
    intro Bs P hk hB hG hn hL
    have hL2 := hL
    simp only [Lim] at hL2
    match Bs, hk, hB, hG, hn with
    | [], hk, hB, hG, hn =>
      refine ⟨[], fin P [] [] (by simpa using hn) hL (by simp at hn; omega) ?_, trivial, hG, .refl _⟩
      rw [if_neg (by simp at hn ⊢; omega)]
    | [B], hk, hB, hG, hn =>
      have hB1 := hB.1
      have hB2 := hB.2
      simp only [List.flatten_cons, List.flatten_nil, List.append_nil] at hn
      refine ⟨[B], ?_, ⟨hB1, by omega⟩, hG, .refl _⟩
      simp only [List.flatten_cons, List.flatten_nil, List.append_nil]
      refine fin P B B hn hL (by omega) ?_
      rw [if_neg (by simp; omega)]
    | B :: C :: Rest, hk, hB, hG, hn =>
      have hB1 := hB.1
      have hCB := hB.2
      have hBC : ∀ x ∈ B, ∀ y ∈ C, ix x < ix y := (List.pairwise_cons.1 hG.ord).1 C (by simp)
      have hC1 : 1 ≤ C.length := by
        cases Rest with
        | nil => exact hCB.1
        | cons D Rest => have := hCB.1; omega
      have hGr : GB lt ix S Rest := ⟨fun D hD => hG.srt D (by simp [hD]), fun D hD => hG.mem D (by simp [hD]), (List.pairwise_cons.1 (List.pairwise_cons.1 hG.ord).2).2⟩
      simp only [List.flatten_cons, List.length_append] at hn
      have hmerge : ∀ b : Nat, b = P.length + w + C.length → ∃ Z, symM.f (P ++ (B ++ (C ++ Rest.flatten))) (P.length : Int) ((P.length + w : Nat) : Int) (b : Int) c = some (P ++ (Z ++ Rest.flatten)) ∧ Z.Perm (B ++ C) ∧ Z.Pairwise (TL lt ix) := fun b hb =>
        sym_f hC P B C Rest.flatten P.length (P.length + w) b rfl (by omega) hb (by omega) hC1 (hG.mem B (by simp)) (hG.mem C (by simp)) (hG.srt B (by simp)) (hG.srt C (by simp)) hBC (by simp only [List.length_append, Lim]; omega)
      by_cases hge : P.length + 2 * w ≤ n
      · have hCw : C.length = w := by
          cases Rest with
          | nil => have := hCB.2; simp at hn; omega
          | cons D Rest => exact hCB.1
        obtain ⟨Z, z0, z1, z2⟩ := hmerge (P.length + 2 * w) (by omega)
        have lZ : Z.length = 2 * w := by have := z1.length_eq; simp at this; omega
        have hBr : BkW w Rest := by
          cases Rest with
          | nil => trivial
          | cons D Rest => exact hCB.2
        obtain ⟨Cs, r1, r2, r3, r4⟩ := ih Rest (P ++ Z) (by simp at hk; omega) hBr hGr (by rw [List.length_append]; omega) hL
        refine ⟨Z :: Cs, ?_, ?_, ⟨?_, ?_, ?_⟩, ?_⟩
        · have hs : stbM.b2 (n : Int) c x13 (P ++ (B :: C :: Rest).flatten, (P.length : Int), ((P.length + 2 * w : Nat) : Int)) = some (.inl ((P ++ Z) ++ Rest.flatten, ((P ++ Z).length : Int), (((P ++ Z).length + 2 * w : Nat) : Int))) := by
            unfold stbM.b2
            simp only [hx]
            rw [if_pos (by simp; omega), wr64 (n := (P.length : Int) + (w : Int)) (by omega) (by omega), show (P.length : Int) + (w : Int) = ((P.length + w : Nat) : Int) by omega]
            simp only [List.flatten_cons]
            rw [z0, Option.bind_some, wr64 (n := (2 : Int) * (w : Int)) (by omega) (by omega), wr64 (by omega) (by omega)]
            congr 2
            simp only [List.append_assoc, List.length_append, lZ, Prod.mk.injEq, true_and]
            omega
          rw [it_l hs, r1]
          simp
        · cases Cs with
          | nil => exact ⟨by omega, by omega⟩
          | cons D Cs => exact ⟨lZ, r2⟩
        · intro D hD
          rcases List.mem_cons.1 hD with rfl | hD
          · exact z2
          · exact r3.srt D hD
        · intro D hD x hx'
          rcases List.mem_cons.1 hD with rfl | hD
          · rcases List.mem_append.1 (z1.mem_iff.1 hx') with h | h
            · exact hG.mem B (by simp) x h
            · exact hG.mem C (by simp) x h
          · exact r3.mem D hD x hx'
        · refine List.pairwise_cons.2 ⟨fun D hD x hx' y hy => ?_, r3.ord⟩
          have hy2 : y ∈ Rest.flatten := r4.mem_iff.1 (List.mem_flatten.2 ⟨D, hD, hy⟩)
          obtain ⟨E, hE, hyE⟩ := List.mem_flatten.1 hy2
          rcases List.mem_append.1 (z1.mem_iff.1 hx') with h | h
          · exact (List.pairwise_cons.1 hG.ord).1 E (by simp [hE]) x h y hyE
          · exact (List.pairwise_cons.1 (List.pairwise_cons.1 hG.ord).2).1 E hE x h y hyE
        · simp only [List.flatten_cons]
          rw [← List.append_assoc]
          exact z1.append r4
      · obtain rfl : Rest = [] := by
          cases Rest with
          | nil => rfl
          | cons D Rest => have := hCB.1; omega
        simp only [List.flatten_nil, List.length_nil] at hn
        obtain ⟨Z, z0, z1, z2⟩ := hmerge n (by omega)
        have lZ : Z.length = w + C.length := by have := z1.length_eq; simp at this; omega
        have e1 : (B :: C :: ([] : List (List α))).flatten = B ++ C := by simp
        refine ⟨[Z], ?_, ⟨by omega, by omega⟩, ⟨?_, ?_, List.pairwise_singleton _ _⟩, by simpa using z1⟩
        · rw [e1]
          simp only [List.flatten_cons, List.flatten_nil, List.append_nil] at z0 ⊢
          refine fin P (B ++ C) Z (by simp; omega) hL (by omega) ?_
          rw [if_pos (by simp; omega), z0]; rfl
        · intro D hD; rw [List.mem_singleton.1 hD]; exact z2
        · intro D hD x hx'
          rw [List.mem_singleton.1 hD] at hx'
          rcases List.mem_append.1 (z1.mem_iff.1 hx') with h | h
          · exact hG.mem B (by simp) x h
          · exact hG.mem C (by simp) x h
theorem bk_all (hC : Cr c lt S) (n : Nat) (hn : n ≤ Lim) : ∀ (d w : Nat) (Bs : List (List α)), n - w ≤ d → 1 ≤ w → w ≤ 2 * n + 20 → BkW w Bs → GB lt ix S Bs → Bs.flatten.length = n →
    ∃ Z, iter (stbM.b1 (n : Int) c) (Bs.flatten, (w : Int)) = some Z ∧ Z.Perm Bs.flatten ∧ Z.Pairwise (TL lt ix) := by
  have hn2 := hn
  simp only [Lim] at hn2
  have done : ∀ (w : Nat) (Bs : List (List α)), ¬ w < n → 1 ≤ w → BkW w Bs → GB lt ix S Bs → Bs.flatten.length = n → ∃ Z, iter (stbM.b1 (n : Int) c) (Bs.flatten, (w : Int)) = some Z ∧ Z.Perm Bs.flatten ∧ Z.Pairwise (TL lt ix) := by
    intro w Bs h hw hB hG hl
    refine ⟨Bs.flatten, it_r ?_, .refl _, ?_⟩
    · unfold stbM.b1
      simp only []
      rw [if_neg (by simp; omega)]; rfl
    · match Bs, hB, hG, hl with
      | [], _, _, _ => exact .nil
      | [B], _, hG, _ => simpa using hG.srt B (by simp)
      | B :: C :: Rest, hB, hG, hl =>
        exfalso
        have h1 := hB.1
        have h2 : 1 ≤ C.length := by
          cases Rest with
          | nil => exact hB.2.1
          | cons D Rest => have := hB.2.1; omega
        simp only [List.flatten_cons, List.length_append] at hl
        omega
  intro d
  induction d with
  | zero => intro w Bs hd hw hw2 hB hG hl; exact done w Bs (by omega) hw hB hG hl
  | succ d ih =>
    intro w Bs hd hw hw2 hB hG hl
    by_cases h : w < n
    · obtain ⟨Cs, r1, r2, r3, r4⟩ := bk_pass (ix := ix) hC w n hw (by omega) (Bs.flatten, (w : Int)) rfl Bs.length Bs [] (Nat.le_refl _) hB hG (by simp [hl]) hn
      obtain ⟨Z, z1, z2, z3⟩ := ih (2 * w) Cs (by omega) (by omega) (by omega) r2 r3 (by rw [r4.length_eq, hl])
      refine ⟨Z, ?_, z2.trans r4, z3⟩
      have hs : stbM.b1 (n : Int) c (Bs.flatten, (w : Int)) = some (.inl (Cs.flatten, ((2 * w : Nat) : Int))) := by
        unfold stbM.b1
        simp only []
        rw [if_pos (by simp; omega), wr64 (n := (2 : Int) * (w : Int)) (by omega) (by omega)]
        simp only [List.nil_append, List.length_nil, Nat.zero_add] at r1
        rw [show (2 : Int) * (w : Int) = ((2 * w : Nat) : Int) by omega]
        exact r1
      rw [it_l hs, z1]
    · exact done w Bs h hw hB hG hl
theorem bkw_app {w : Nat} : ∀ (Bs : List (List α)) (Z : List α), (∀ B ∈ Bs, B.length = w) → 1 ≤ Z.length → Z.length ≤ w → BkW w (Bs ++ [Z])
 | [], Z, _, h1, h2 => ⟨h1, h2⟩
 | [B], Z, hB, h1, h2 => ⟨hB B (by simp), h1, h2⟩
 | B :: C :: Bs, Z, hB, h1, h2 => ⟨hB B (by simp), bkw_app (C :: Bs) Z (fun D hD => hB D (by simp at hD ⊢; exact .inr hD)) h1 h2⟩
theorem bkw_all {w : Nat} (hw : 1 ≤ w) : ∀ (Bs : List (List α)), (∀ B ∈ Bs, B.length = w) → BkW w Bs
 | [], _ => trivial
 | [B], hB => ⟨by rw [hB B (by simp)]; exact hw, by rw [hB B (by simp)]; exact Nat.le_refl _⟩
 | B :: C :: Bs, hB => ⟨hB B (by simp), bkw_all hw (C :: Bs) (fun D hD => hB D (by simp at hD ⊢; exact .inr hD))⟩
theorem gb_app {Bs : List (List α)} {Z : List α} (h : GB lt ix S Bs) (hZ : Z.Pairwise (TL lt ix)) (hS : ∀ x ∈ Z, S x) (ho : ∀ B ∈ Bs, ∀ x ∈ B, ∀ y ∈ Z, ix x < ix y) : GB lt ix S (Bs ++ [Z]) := by
 refine ⟨fun B hB => ?_, fun B hB => ?_, List.pairwise_append.2 ⟨h.ord, List.pairwise_singleton _ _, fun B hB C hC => ?_⟩⟩
 · rcases List.mem_append.1 hB with hB | hB
   · exact h.srt B hB
   · rw [List.mem_singleton.1 hB]; exact hZ
 · rcases List.mem_append.1 hB with hB | hB
   · exact h.mem B hB
   · rw [List.mem_singleton.1 hB]; exact hS
 · rw [List.mem_singleton.1 hC]; exact ho B hB
theorem bk_first (hC : Cr c lt S) (n : Nat) (hn : n ≤ Lim) : ∀ (k : Nat) (Bs : List (List α)) (R : List α), R.length ≤ k → (∀ B ∈ Bs, B.length = 20) → GB lt ix S Bs → (∀ x ∈ R, S x) → R.Pairwise (fun x y => ix x < ix y) → (∀ B ∈ Bs, ∀ x ∈ B, ∀ y ∈ R, ix x < ix y) → Bs.flatten.length + R.length = n →
    ∃ Z, iter (stbM.b0 (n : Int) c) (Bs.flatten ++ R, (Bs.flatten.length : Int), ((Bs.flatten.length + 20 : Nat) : Int)) = some Z ∧ Z.Perm (Bs.flatten ++ R) ∧ Z.Pairwise (TL lt ix) := by
  have hn2 := hn
  simp only [Lim] at hn2
  have last : ∀ (Bs : List (List α)) (R : List α), n < Bs.flatten.length + 20 → (∀ B ∈ Bs, B.length = 20) → GB lt ix S Bs → (∀ x ∈ R, S x) → R.Pairwise (fun x y => ix x < ix y) → (∀ B ∈ Bs, ∀ x ∈ B, ∀ y ∈ R, ix x < ix y) → Bs.flatten.length + R.length = n →
      ∃ Z, iter (stbM.b0 (n : Int) c) (Bs.flatten ++ R, (Bs.flatten.length : Int), ((Bs.flatten.length + 20 : Nat) : Int)) = some Z ∧ Z.Perm (Bs.flatten ++ R) ∧ Z.Pairwise (TL lt ix) := by
    intro Bs R hlt hB hG hS hR ho hl
    obtain ⟨Z, z0, z1, z2⟩ := ins_f (ix := ix) hC Bs.flatten R [] (Bs.flatten.length : Int) (n : Int) rfl (by omega) hS hR (by simp only [List.length_append, List.length_nil, Lim]; omega)
    simp only [List.append_nil] at z0
    have hBs : ∃ Cs : List (List α), Cs.flatten = Bs.flatten ++ Z ∧ BkW 20 Cs ∧ GB lt ix S Cs := by
      by_cases hz : Z = []
      · subst hz; exact ⟨Bs, by simp, bkw_all (by omega) Bs hB, hG⟩
      · have := z1.length_eq
        exact ⟨Bs ++ [Z], by simp, bkw_app Bs Z hB (List.length_pos_iff.2 hz) (by omega), gb_app hG z2 (fun x hx => hS x (z1.mem_iff.1 hx)) fun B hB x hx y hy => ho B hB x hx y (z1.mem_iff.1 hy)⟩
    obtain ⟨Cs, c1, c2, c3⟩ := hBs
    have hlen : Cs.flatten.length = n := by rw [c1, List.length_append, z1.length_eq, hl]
    obtain ⟨W, w1, w2, w3⟩ := bk_all (ix := ix) hC n hn (n - 20) 20 Cs (Nat.le_refl _) (by omega) (by omega) c2 c3 hlen
    refine ⟨W, it_r ?_, w2.trans (by rw [c1]; exact z1.append_left _), w3⟩
    unfold stbM.b0
    simp only []
    rw [if_neg (by rw [decide_eq_true_eq]; omega), z0, Option.bind_some, ← c1]
    have w1' : iter (stbM.b1 (n : Int) c) (Cs.flatten, (20 : Int)) = some W := w1
    rw [w1']; rfl
  intro k
  induction k with
  | zero => intro Bs R hk hB hG hS hR ho hl; exact last Bs R (by omega) hB hG hS hR ho hl
  | succ k ih =>
    intro Bs R hk hB hG hS hR ho hl
    by_cases h : Bs.flatten.length + 20 ≤ n
    · have hsp : R.take 20 ++ R.drop 20 = R := List.take_append_drop 20 R
      have l1 : (R.take 20).length = 20 := by rw [List.length_take]; omega
      have l2 : (R.drop 20).length = R.length - 20 := List.length_drop
      generalize R.take 20 = R1 at *
      generalize R.drop 20 = R2 at *
      subst hsp
      obtain ⟨r1, r2, r3⟩ := List.pairwise_append.1 hR
      simp only [List.length_append] at hl hk l2
      obtain ⟨Z, z0, z1, z2⟩ := ins_f (ix := ix) hC Bs.flatten R1 R2 (Bs.flatten.length : Int) ((Bs.flatten.length + 20 : Nat) : Int) rfl (by omega) (fun x hx => hS x (by simp [hx])) r1 (by simp only [List.length_append, Lim]; omega)
      have lZ : Z.length = 20 := by rw [z1.length_eq, l1]
      have e1 : (Bs ++ [Z]).flatten = Bs.flatten ++ Z := by simp
      obtain ⟨W, w1, w2, w3⟩ := ih (Bs ++ [Z]) R2 (by omega) (fun B hB' => by
        rcases List.mem_append.1 hB' with hB' | hB'
        · exact hB B hB'
        · rw [List.mem_singleton.1 hB']; exact lZ) (gb_app hG z2 (fun x hx => hS x (by simp [z1.mem_iff.1 hx])) fun B hB' x hx y hy => ho B hB' x hx y (by simp [z1.mem_iff.1 hy])) (fun x hx => hS x (by simp [hx])) r2 (fun B hB' x hx y hy => by
        rcases List.mem_append.1 hB' with hB' | hB'
        · exact ho B hB' x hx y (by simp [hy])
        · rw [List.mem_singleton.1 hB'] at hx
          exact r3 x (z1.mem_iff.1 hx) y hy) (by rw [e1, List.length_append]; omega)
      refine ⟨W, ?_, w2.trans ?_, w3⟩
      · have hs : stbM.b0 (n : Int) c (Bs.flatten ++ (R1 ++ R2), (Bs.flatten.length : Int), ((Bs.flatten.length + 20 : Nat) : Int)) = some (.inl ((Bs ++ [Z]).flatten ++ R2, ((Bs ++ [Z]).flatten.length : Int), (((Bs ++ [Z]).flatten.length + 20 : Nat) : Int))) := by
          unfold stbM.b0
          simp only []
          rw [if_pos (decide_eq_true (by omega)), z0, Option.bind_some, wr64 (by omega) (by omega), e1]
          simp only [List.append_assoc, List.length_append, lZ]
          congr 3
        rw [it_l hs, w1]
      · rw [e1, List.append_assoc]
        exact (z1.append_right R2).append_left _
    · exact last Bs R (by omega) hB hG hS hR ho hl
theorem stb_f (hC : Cr c lt S) (l : List α) (hl : l.length ≤ Lim) (hS : ∀ x ∈ l, S x) (hix : l.Pairwise (fun x y => ix x < ix y)) : ∃ Z, stbM.f l (l.length : Int) c = some Z ∧ Z.Perm l ∧ Z.Pairwise (TL lt ix) := by
 have := bk_first (ix := ix) hC l.length hl l.length [] l (Nat.le_refl _) (fun B hB => absurd hB List.not_mem_nil) ⟨fun B hB => absurd hB List.not_mem_nil, fun B hB => absurd hB List.not_mem_nil, .nil⟩ hS hix (fun B hB => absurd hB List.not_mem_nil) (by simp)
 exact this
end
end Go.Proofs.YtcgbhldenkeplaaGreat.V
set_option linter.unusedVariables false
set_option linter.unusedSimpArgs false
set_option linter.unusedSectionVars false
namespace Go.Proofs.YtcgbhldenkeplaaGreat.V
open Go
def insL {β : Type} (lt : β → β → Bool) (x : β) (acc : List β) : List β := acc.takeWhile (fun y => !(lt x y)) ++ x :: acc.dropWhile (fun y => !(lt x y))
def isort {β : Type} (lt : β → β → Bool) (l : List β) : List β := l.foldl (fun acc x => insL lt x acc) []
theorem insL_perm {β : Type} (lt : β → β → Bool) (x : β) (acc : List β) : (insL lt x acc).Perm (x :: acc) := by
 unfold insL
 have := List.perm_middle (a := x) (l₁ := acc.takeWhile (fun y => !(lt x y))) (l₂ := acc.dropWhile (fun y => !(lt x y)))
 rwa [List.takeWhile_append_dropWhile] at this
theorem insL_map {β γ : Type} (f : γ → β) (lt : β → β → Bool) (x : γ) (acc : List γ) : (insL (fun p q => lt (f p) (f q)) x acc).map f = insL lt (f x) (acc.map f) := by
 unfold insL
 rw [List.map_append, List.map_cons, List.takeWhile_map, List.dropWhile_map]
 rfl
theorem isort_map {β γ : Type} (f : γ → β) (lt : β → β → Bool) (l : List γ) : (isort (fun p q => lt (f p) (f q)) l).map f = isort lt (l.map f) := by
 unfold isort
 have key : ∀ (l acc : List γ), (l.foldl (fun acc x => insL (fun p q => lt (f p) (f q)) x acc) acc).map f = (l.map f).foldl (fun acc x => insL lt x acc) (acc.map f) := by
  intro l
  induction l with
  | nil => intro acc; rfl
  | cons x l ih => intro acc; rw [List.foldl_cons, ih, insL_map]; rfl
 exact key l []
section
variable {α : Type} [Inhabited α] {c : α → α → Option Int} {lt : α → α → Bool} {ix : α → Nat} {S : α → Prop}
theorem insL_srt (hC : Cr c lt S) (x : α) (hx : S x) (acc : List α) (hS : ∀ y ∈ acc, S y) (hp : acc.Pairwise (TL lt ix)) (hi : ∀ y ∈ acc, ix y < ix x) : (insL lt x acc).Pairwise (TL lt ix) := by
 unfold insL
 have hsp : acc.takeWhile (fun y => !(lt x y)) ++ acc.dropWhile (fun y => !(lt x y)) = acc := List.takeWhile_append_dropWhile
 have h1 : ∀ y ∈ acc.takeWhile (fun y => !(lt x y)), lt x y = false := fun y hy => by
  have := List.all_eq_true.1 (List.all_takeWhile (p := fun y => !(lt x y)) (l := acc)) y hy
  simpa using this
 have h2 : ∀ (l : List α), (∀ y ∈ l, S y) → l.Pairwise (TL lt ix) → ∀ y ∈ l.dropWhile (fun y => !(lt x y)), TL lt ix x y := by
  intro l
  induction l with
  | nil => intro _ _ y hy; cases hy
  | cons d l ih =>
   intro hSl hpl y hy
   by_cases hd : lt x d = true
   · rw [List.dropWhile_cons_of_neg (by simp [hd])] at hy
     rcases List.mem_cons.1 hy with rfl | hy
     · exact .inl hd
     · exact TL.trans hC hx (hSl d (by simp)) (hSl y (by simp [hy])) (.inl hd) ((List.pairwise_cons.1 hpl).1 y hy)
   · rw [List.dropWhile_cons_of_pos (by simp [hd])] at hy
     exact ih (fun y hy => hSl y (by simp [hy])) (List.pairwise_cons.1 hpl).2 y hy
 have h2 := h2 acc hS hp
 generalize acc.takeWhile (fun y => !(lt x y)) = A at *
 generalize acc.dropWhile (fun y => !(lt x y)) = B at *
 subst hsp
 obtain ⟨p1, p2, p3⟩ := List.pairwise_append.1 hp
 refine List.pairwise_append.2 ⟨p1, List.pairwise_cons.2 ⟨h2, p2⟩, fun y hy z hz => ?_⟩
 rcases List.mem_cons.1 hz with rfl | hz
 · exact .inr ⟨h1 y hy, hi y (by simp [hy])⟩
 · exact p3 y hy z hz
theorem isort_srt (hC : Cr c lt S) (l : List α) (hS : ∀ x ∈ l, S x) (hix : l.Pairwise (fun x y => ix x < ix y)) : (isort lt l).Perm l ∧ (isort lt l).Pairwise (TL lt ix) := by
 have key : ∀ (l acc : List α), (∀ x ∈ l, S x) → (∀ x ∈ acc, S x) → l.Pairwise (fun x y => ix x < ix y) → acc.Pairwise (TL lt ix) → (∀ y ∈ acc, ∀ x ∈ l, ix y < ix x) → (l.foldl (fun acc x => insL lt x acc) acc).Perm (acc ++ l) ∧ (l.foldl (fun acc x => insL lt x acc) acc).Pairwise (TL lt ix) := by
  intro l
  induction l with
  | nil => intro acc _ _ _ hp _; simpa using hp
  | cons x l ih =>
   intro acc hl ha hix hp hi
   have hc := List.pairwise_cons.1 hix
   have hperm := insL_perm lt x acc
   obtain ⟨q1, q2⟩ := ih (insL lt x acc) (fun y hy => hl y (by simp [hy])) (fun y hy => by
    rcases List.mem_cons.1 (hperm.mem_iff.1 hy) with rfl | h
    · exact hl _ (by simp)
    · exact ha y h) hc.2 (insL_srt hC x (hl x (by simp)) acc ha hp fun y hy => hi y hy x (by simp)) (fun y hy z hz => by
    rcases List.mem_cons.1 (hperm.mem_iff.1 hy) with rfl | h
    · exact hc.1 z hz
    · exact hi y h z (by simp [hz]))
   refine ⟨q1.trans ?_, q2⟩
   refine (hperm.append_right l).trans ?_
   rw [List.cons_append]
   exact List.perm_middle.symm
 have := key l [] hS (fun x hx => absurd hx List.not_mem_nil) hix .nil (fun x hx => absurd hx List.not_mem_nil)
 exact this
theorem tl_anti (hC : Cr c lt S) {x y : α} (hx : S x) (hy : S y) (h1 : TL lt ix x y) (h2 : TL lt ix y x) : False := by
 rcases TL.trans hC hx hy hx h1 h2 with h | ⟨_, h⟩
 · have := hC.asym x x hx hx h; rw [h] at this; cases this
 · omega
theorem stb_isort (hC : Cr c lt S) (l : List α) (hl : l.length ≤ Lim) (hS : ∀ x ∈ l, S x) (hix : l.Pairwise (fun x y => ix x < ix y)) : stbM.f l (l.length : Int) c = some (isort lt l) := by
 obtain ⟨Z, z0, z1, z2⟩ := stb_f (ix := ix) hC l hl hS hix
 obtain ⟨q1, q2⟩ := isort_srt (ix := ix) hC l hS hix
 rw [z0, List.Perm.eq_of_pairwise (le := TL lt ix) (fun a b ha hb h1 h2 => (tl_anti hC (hS a (z1.mem_iff.1 ha)) (hS b (q1.mem_iff.1 hb)) h1 h2).elim) z2 q2 (z1.trans q1.symm)]
end
def Swo {β : Type} (lt : β → β → Bool) (l : List β) : Prop := (∀ x ∈ l, ∀ y ∈ l, lt x y = true → lt y x = false) ∧ ∀ x ∈ l, ∀ y ∈ l, ∀ z ∈ l, lt x y = false → lt y z = false → lt x z = false
def ltC {β : Type} (a1 : β → β → Option Int) (x y : β) : Bool := decide ((a1 x y).getD 0 < 0)
noncomputable def srtF {β : Type} (a0 : List β) (a1 : β → β → Option Int) : Option (List β) := open Classical in
 if a0.length ≤ Lim ∧ (∀ x ∈ a0, ∀ y ∈ a0, (a1 x y).isSome = true) ∧ Swo (ltC a1) a0 then some (isort (ltC a1) a0) else none
theorem perm_lift {α β : Type} (f : α → β) : ∀ {l m : List β}, l.Perm m → ∀ xs : List α, xs.map f = l → ∃ ys : List α, ys.Perm xs ∧ ys.map f = m := by
 intro l m h
 induction h with
 | nil => intro xs hx; exact ⟨xs, .refl _, hx⟩
 | cons a h ih =>
  intro xs hx
  cases xs with
  | nil => cases hx
  | cons x xs =>
   simp only [List.map_cons, List.cons.injEq] at hx
   obtain ⟨ys, h1, h2⟩ := ih xs hx.2
   exact ⟨x :: ys, h1.cons x, by simp [hx.1, h2]⟩
 | swap a b l =>
  intro xs hx
  match xs, hx with
  | x :: y :: xs, hx =>
   simp only [List.map_cons, List.cons.injEq] at hx
   exact ⟨y :: x :: xs, .swap _ _ _, by simp [hx.1, hx.2.1, hx.2.2]⟩
 | trans h1 h2 ih1 ih2 =>
  intro xs hx
  obtain ⟨ys, p1, e1⟩ := ih1 xs hx
  obtain ⟨zs, p2, e2⟩ := ih2 ys e1
  exact ⟨zs, p2.trans p1, e2⟩
theorem pk_fwp {β γ : Type} {K : Kd β} {te : TypeId} {w w' : World} {v : Value} {rs : List (Pk γ)} {ps qs : List (Pk β × List Nat)} {o1 o2 : List Nat} (hn : (o1 ++ o2).Nodup) (ho : (ps.map (·.2)).flatten = o2) (hlt : ∀ b ∈ o2, b < w.heap.size) (hpm : qs.Perm ps) (hst : ∀ p ∈ ps, K.ow w' p.1.cs p.1.x p.2)
    (hcs : rs.map (·.cs) = qs.map fun p => p.1.cs) (hfw : FW (Kd.sl te (Kd.pk γ K.n)) o1 w w' [v] rs) : FW (Kd.sl te K) (o1 ++ o2) w w' [v] (qs.map fun p => p.1.x) := by
  obtain ⟨os', ⟨v', e5, cells', p1, p2, rfl, hrow5, hels5⟩, hnd5, hsub5⟩ := hfw
  obtain rfl : v = v' := by simpa using e5
  obtain ⟨hcs5, hp2⟩ := pk_cells hels5
  subst hp2
  have hperm : ((qs.map (·.2)).flatten).Perm o2 := by rw [← ho]; exact (hpm.map _).flatten
  have hlen : rs.length = qs.length := by simpa using congrArg List.length hcs
  refine ⟨p1 ++ (qs.map (·.2)).flatten, ⟨v, rfl, cells', p1, _, rfl, ?_, ?_⟩, ?_, fun b hb => ?_⟩
  · rw [List.length_map, ← hlen]; exact hrow5
  · rw [hcs5, hcs]; exact pk_back qs fun p hp => hst p (hpm.mem_iff.1 hp)
  · refine List.nodup_append.2 ⟨by simpa using hnd5, hperm.nodup_iff.2 (List.nodup_append.1 hn).2.1, fun a ha b hb hab => ?_⟩
    subst hab
    have hb2 := hperm.mem_iff.1 hb
    rcases hsub5 a (by simpa using ha) with h | h
    · exact (List.nodup_append.1 hn).2.2 a h a hb2 rfl
    · have := hlt a hb2
      omega
  · rcases List.mem_append.1 hb with hb | hb
    · rcases hsub5 b (by simpa using hb) with h | h
      · exact .inl (List.mem_append_left _ h)
      · exact .inr h
    · exact .inl (List.mem_append_right _ (hperm.mem_iff.1 hb))
def tagd {β : Type} : Nat → List (Pk β × List Nat) → List (Pk (β × Nat))
 | _, [] => []
 | k, p :: ps => ⟨p.1.cs, (p.1.x, k)⟩ :: tagd (k + 1) ps
theorem tagd_len {β : Type} : ∀ (k : Nat) (ps : List (Pk β × List Nat)), (tagd k ps).length = ps.length
 | _, [] => rfl
 | k, p :: ps => by simp [tagd, tagd_len (k + 1) ps]
theorem tagd_map {β : Type} : ∀ (k : Nat) (ps : List (Pk β × List Nat)), (tagd k ps).map (fun q => (⟨q.cs, q.x.1⟩ : Pk β)) = ps.map (·.1)
 | _, [] => rfl
 | k, p :: ps => by simp [tagd, tagd_map (k + 1) ps]
theorem tagd_pw {β : Type} : ∀ (k : Nat) (ps : List (Pk β × List Nat)), (tagd k ps).Pairwise (fun x y => x.x.2 < y.x.2) ∧ ∀ q ∈ tagd k ps, k ≤ q.x.2
 | _, [] => ⟨.nil, fun q hq => by cases hq⟩
 | k, p :: ps => by
  obtain ⟨h1, h2⟩ := tagd_pw (k + 1) ps
  refine ⟨List.pairwise_cons.2 ⟨fun q hq => by have := h2 q hq; show k < q.x.2; omega, h1⟩, fun q hq => ?_⟩
  rcases List.mem_cons.1 hq with rfl | hq
  · exact Nat.le_refl _
  · have := h2 q hq; omega
theorem tagd_els {β : Type} {K : Kd β} {w : World} (w' : World) : ∀ (k : Nat) (ps : List (Pk β × List Nat)), (∀ p ∈ ps, K.ow w p.1.cs p.1.x p.2) → ElsO (Kd.pk (β × Nat) K.n) w' (tagd k ps) (ps.map fun p => p.1.cs).flatten []
 | _, [], _ => ⟨rfl, rfl⟩
 | k, p :: ps, h => ⟨p.1.cs, _, [], [], rfl, rfl, ⟨⟨rfl, K.rd_len (K.ow_rd (h p (by simp))), K.rd_one (K.ow_rd (h p (by simp)))⟩, rfl⟩, tagd_els w' (k + 1) ps fun q hq => h q (by simp [hq])⟩
theorem srtG {P : Program} {f te : Nat} {β : Type} [Inhabited β] {K : Kd β} {D : List (Pk (β × Nat)) → (Pk (β × Nat) → Pk (β × Nat) → Option Int) → Option (List (Pk (β × Nat)))}
    (hc : ∀ (a0 : List (Pk (β × Nat))) (a1 : Pk (β × Nat) → Pk (β × Nat) → Option Int) (w : World) (F : Nat → Prop) (w0 f1 : Value) (os : List Nat) (h0 : (Kd.sl te (Kd.pk (β × Nat) K.n)).ow w [w0] a0 os) (hn : os.Nodup) (hF : ∀ b, F b → b ∉ os)
      (hf1 : ∀ (x0 x1 : Pk (β × Nat)) (w' : World), Ky os w w' → ∀ r, a1 x0 x1 = some r → CallV P f1 [.agg x0.cs.toArray, .agg x1.cs.toArray] w' fun en w'' => ∃ v, en = .returned v ∧ v = .int .i64 r ∧ Ky [] w' w'') (ho1 : f1.cells = #[f1])
      (r : List (Pk (β × Nat))) (m : D a0 a1 = some r),
      Calls P f #[w0, f1] w fun en w' => ∃ v, en = .returned v ∧ v = .tuple #[] ∧ FW (Kd.sl te (Kd.pk (β × Nat) K.n)) os w w' [w0] r ∧ Ky os w w')
    (hD : ∀ (a0 : List (Pk (β × Nat))) (a1 : Pk (β × Nat) → Pk (β × Nat) → Option Int), D a0 a1 = (stbM.f a0 (a0.length : Int) a1).bind fun r => some r)
    (a0 : List β) (a1 : β → β → Option Int) (w : World) (w0 f1 : Value) (os : List Nat) (h0 : (Kd.sl te K).ow w [w0] a0 os) (hn : os.Nodup)
    (hf1 : ∀ (x0 x1 : β) (c0 c1 : List Value) (w' : World), Ky os w w' → K.rd w' c0 x0 (fun _ => True) → K.rd w' c1 x1 (fun _ => True) → ∀ r, a1 x0 x1 = some r → CallV P f1 [.agg c0.toArray, .agg c1.toArray] w' fun en w'' => ∃ v, en = .returned v ∧ v = .int .i64 r ∧ Ky [] w' w'') (ho1 : f1.cells = #[f1])
    (r : List β) (m : srtF a0 a1 = some r) :
    Calls P f #[w0, f1] w fun en w' => ∃ v, en = .returned v ∧ v = .tuple #[] ∧ FW (Kd.sl te K) os w w' [w0] r ∧ Ky os w w' := by
  obtain ⟨v, e1, cells, o1, o2, rfl, hrow, hels⟩ := h0
  obtain rfl : w0 = v := by simpa using e1
  obtain ⟨ps, hx, ho, hcs, hp⟩ := pk_of hels
  unfold srtF at m
  split at m
  case isFalse => cases m
  rename_i hg
  obtain ⟨hl32, hsome, hswo⟩ := hg
  simp only [Option.some.injEq] at m
  have hl : (tagd 0 ps).length = a0.length := by rw [tagd_len, ← hx]; simp
  have hn1 : o1.Nodup := (List.nodup_append.1 hn).1
  have hpk : (Kd.sl te (Kd.pk (β × Nat) K.n)).ow w [w0] (tagd 0 ps) o1 := ⟨_, rfl, cells, o1, [], by simp, by rw [hl]; exact hrow, by rw [← hcs]; exact tagd_els w 0 ps hp⟩
  have hstay : ∀ w', Ky o1 w w' → ∀ p ∈ ps, K.ow w' p.1.cs p.1.x p.2 := fun w' k p hpm => K.ow_frame (hp p hpm) fun b hb hl => k.same b hl fun hm => (List.nodup_append.1 hn).2.2 b hm b (by rw [← ho]; exact mem_fl hpm hb) rfl
  have hback : ∀ q ∈ tagd 0 ps, ∃ p ∈ ps, p.1.cs = q.cs ∧ p.1.x = q.x.1 := fun q hq => by
    have : (⟨q.cs, q.x.1⟩ : Pk β) ∈ ps.map (·.1) := by rw [← tagd_map 0 ps]; exact List.mem_map.2 ⟨q, hq, rfl⟩
    obtain ⟨p, hp1, e⟩ := List.mem_map.1 this
    exact ⟨p, hp1, by rw [e], by rw [e]⟩
  have hin : ∀ q ∈ tagd 0 ps, q.x.1 ∈ a0 := fun q hq => by
    obtain ⟨p, hp1, _, e⟩ := hback q hq
    rw [← e, ← hx]; exact List.mem_map.2 ⟨p, hp1, rfl⟩
  let A : Pk (β × Nat) → Pk (β × Nat) → Option Int := fun p q => open Classical in if p ∈ tagd 0 ps ∧ q ∈ tagd 0 ps then a1 p.x.1 q.x.1 else none
  have hC : Cr A (fun p q => ltC a1 p.x.1 q.x.1) (fun q => q ∈ tagd 0 ps) := by
    refine ⟨fun x y hx' hy' => ?_, fun x y hx' hy' h => hswo.1 _ (hin x hx') _ (hin y hy') h, fun x y z hx' hy' hz' h1 h2 => hswo.2 _ (hin x hx') _ (hin y hy') _ (hin z hz') h1 h2⟩
    obtain ⟨n, hn'⟩ := Option.isSome_iff_exists.1 (hsome _ (hin x hx') _ (hin y hy'))
    refine ⟨n, by simp only [A, if_pos (And.intro hx' hy'), hn'], ?_⟩
    simp only [ltC, hn', Option.getD_some]
  have hsort := stb_isort (ix := fun q : Pk (β × Nat) => q.x.2) hC (tagd 0 ps) (by rw [hl]; exact hl32) (fun q hq => hq) (tagd_pw 0 ps).1
  have hperm := (isort_srt (ix := fun q : Pk (β × Nat) => q.x.2) hC (tagd 0 ps) (fun q hq => hq) (tagd_pw 0 ps).1).1
  have hm : D (tagd 0 ps) A = some (isort (fun p q => ltC a1 p.x.1 q.x.1) (tagd 0 ps)) := by rw [hD, hsort]; rfl
  have key := hc (tagd 0 ps) A w (fun b => b ∈ o2) w0 f1 o1 hpk hn1 (fun b hb hm => (List.nodup_append.1 hn).2.2 b hm b hb rfl) (fun p q w' k r hqr => by
    by_cases hpq : p ∈ tagd 0 ps ∧ q ∈ tagd 0 ps
    · simp only [A, if_pos hpq] at hqr
      obtain ⟨p', hp1, e1, e2⟩ := hback p hpq.1
      obtain ⟨q', hq1, e3, e4⟩ := hback q hpq.2
      have hP := hstay w' k p' hp1
      have hQ := hstay w' k q' hq1
      rw [e1, e2] at hP
      rw [e3, e4] at hQ
      exact hf1 p.x.1 q.x.1 p.cs q.cs w' ⟨k.os, k.tape, k.output, k.size, fun b hb hm => k.same b hb fun h => hm (List.mem_append_left _ h)⟩ (K.rd_mono (K.ow_rd hP) fun _ _ _ => trivial) (K.rd_mono (K.ow_rd hQ) fun _ _ _ => trivial) r hqr
    · simp only [A, if_neg hpq] at hqr; cases hqr) ho1 _ hm
  obtain ⟨qs, hqp, hqm⟩ := perm_lift (fun p : Pk β × List Nat => p.1) (hperm.symm.map (fun q => (⟨q.cs, q.x.1⟩ : Pk β))) ps (tagd_map 0 ps).symm
  have hr : r = qs.map fun p => p.1.x := by
    have h1 := isort_map (fun q : Pk (β × Nat) => q.x.1) (ltC a1) (tagd 0 ps)
    have h2 : (tagd 0 ps).map (fun q : Pk (β × Nat) => q.x.1) = a0 := by
      have := congrArg (List.map (fun p : Pk β => p.x)) (tagd_map 0 ps)
      rw [List.map_map, List.map_map] at this
      rw [← hx]; exact this
    rw [h2] at h1
    rw [← m, ← h1]
    have := congrArg (List.map (fun p : Pk β => p.x)) hqm
    rw [List.map_map, List.map_map] at this
    exact this.symm
  refine key.mono fun en w' ⟨v, he, hv, hfw, ky⟩ => ⟨v, he, hv, ?_, ⟨ky.os, ky.tape, ky.output, ky.size, fun b hb hm => ky.same b hb fun h => hm (List.mem_append_left _ h)⟩⟩
  rw [hr]
  refine pk_fwp hn ho (fun b hb => hels.lt b hb) hqp (hstay w' ky) ?_ hfw
  have := congrArg (List.map (fun p : Pk β => p.cs)) hqm
  rw [List.map_map, List.map_map] at this
  exact this.symm
end Go.Proofs.YtcgbhldenkeplaaGreat.V
set_option linter.unusedVariables false
set_option linter.unusedSimpArgs false
namespace Go.Proofs.YtcgbhldenkeplaaGreat.V
open Go
def ErF {α : Type} (K : Kd α) (s : St) (v : Value) (xs : List α) (C : List Nat) : Prop :=
 ∃ A cap cells, v = .slice A xs.length cap ∧ xs.length ≤ cap ∧ ElsR K s.w (fun b => memb C (s.g b) = true) xs cells ∧ (cells ≠ [] → ∃ ad, A = some ad ∧ ∀ j u, cells[j]? = some u → s.w.cell? (ad.add j) = some u)
theorem RwF.er {α : Type} {K : Kd α} {te : TypeId} {s : St} {v : Value} {xs : List α} {c : Nat} {C : List Nat} (h : RwF te K s v xs c C) : ErF K s v xs C := by
 obtain ⟨cells, os, hR, hcol, hE⟩ := h
 obtain ⟨A, cap, rfl, hc, hcell⟩ := hR.cells
 refine ⟨A, cap, cells, rfl, hc, hE, fun hne => ?_⟩
 obtain ⟨g, e1, _, h⟩ := hcell hne
 exact ⟨_, e1, h⟩
theorem RdF.er {α : Type} {K : Kd α} {te : TypeId} {s : St} {v : Value} {xs : List α} {C : List Nat} (h : RdF (Kd.sl te K) s [v] xs C) : ErF K s v xs C := by
 obtain ⟨v1, e1, A, cap, cells, hv, hc, hE, hcell⟩ := h
 obtain rfl : v = v1 := by simpa using e1
 refine ⟨A, cap, cells, hv, hc, hE, fun hne => ?_⟩
 obtain ⟨ad, e1, _, h⟩ := hcell hne
 exact ⟨ad, e1, h⟩
theorem ErF.cut {α : Type} {K : Kd α} {s : St} {A : Option Addr} {cap : Nat} {xs : List α} {C : List Nat} (h : ErF K s (.slice A xs.length cap) xs C) {a b : Nat} (hab : a ≤ b) (hb : b ≤ xs.length) :
    ErF K s (.slice (if cap = a then A else A.map (·.add (a * K.n))) (b - a) (cap - a)) ((xs.take b).drop a) C := by
  obtain ⟨A', cap', cells, e, hcap, hels, hc⟩ := h
  simp only [Value.slice.injEq, true_and] at e
  obtain ⟨rfl, rfl⟩ := e
  have hl : ((xs.take b).drop a).length = b - a := by simp; omega
  refine ⟨_, cap - a, (cells.take (b * K.n)).drop (a * K.n), by rw [hl], by rw [hl]; omega, (hels.take b).drop a, fun hne => ?_⟩
  have hcl := hels.len
  have hne' : cells ≠ [] := fun h => hne (by simp [h])
  obtain ⟨ad, rfl, hcell⟩ := hc hne'
  have hlt : a < cap := by
    rcases Nat.lt_or_ge a b with h | h
    · omega
    · exfalso; apply hne
      have : a = b := by omega
      subst this
      simp
  rw [if_neg (by omega)]
  refine ⟨ad.add (a * K.n), rfl, fun j u hj => ?_⟩
  rw [Addr.add_add']
  rw [List.getElem?_drop, List.getElem?_take] at hj
  split at hj
  · exact hcell _ _ hj
  · cases hj
section
variable {P : Program} {f : Who} {N : Nat} {O ρ : Type} {m : Option O} {G : O → Option ρ} {R : ρ → Ending → World → Prop} {e : Env} {s : St} {k : List Item} {ops : Array Oper} {i d : Nat} {rest : List Nat} {o : Oper}
theorem slE_core {α : Type} {K : Kd α} {t te : TypeId} {v : Value} {xs : List α} {C : List Nat} {c : Nat} {x : Operand} {lo hi : Option Operand} {a b : Nat} (hF : RwF te K s v xs c C) (hu : P.underlying t = some (.slice te)) (hs : (P.info? te).map (·.size) = some K.n)
    (ho : ops[i]? = some o) (hd : o.dst = some d) (hN : Nat.blt d N = true) (hw : Region.wanted o (yv e ops) = true) (hop : o.op = .slice t x lo hi none) (hx : ev e x = v) (hab : a ≤ b) (hb : b ≤ xs.length)
    (hlo : (lo.map (ev e) = none ∧ a = 0) ∨ ∃ k, lo.map (ev e) = some (.int k a)) (hhi : (hi.map (ev e) = none ∧ b = xs.length) ∨ ∃ k, hi.map (ev e) = some (.int k b))
    (h : ∀ v', RdF (Kd.sl te K) s [v'] ((xs.take b).drop a) (c :: C) → ErF K s v' ((xs.take b).drop a) C → TM P f N m G R (.inRegion ops rest :: k) (upd e d v') s.w) : TM P f N m G R (.inRegion ops (i :: rest) :: k) e s.w := by
  have hE := hF.er
  obtain ⟨v1, e1, hS⟩ := hF.rd
  obtain rfl : v = v1 := by simpa using e1
  obtain ⟨A, cap, cells, hv, hcap, hels, hc⟩ := hS
  subst hv
  have hcut := cut_run (P := P) (w := s.w) (A := A) (len := xs.length) (cap := cap) hu hs hab (by omega) hlo hhi
  exact vl ho hd hN hw (by simp [execOp, hop, hx, hcut, Result.andThen]) (h _ ⟨_, rfl, cut_rd ⟨A, cap, cells, rfl, hcap, hels, hc⟩ hab hb⟩ (hE.cut hab hb))
theorem slhE {α : Type} {K : Kd α} {t te : TypeId} {v : Value} {xs : List α} {C : List Nat} {c : Nat} {x q : Operand} {k2 : IntKind} {b : Int} (hF : RwF te K s v xs c C) (hu : P.underlying t = some (.slice te)) (hs : (P.info? te).map (·.size) = some K.n)
    (ho : ops[i]? = some o) (hd : o.dst = some d) (hN : Nat.blt d N = true) (hw : Region.wanted o (yv e ops) = true) (hop : o.op = .slice t x none (some q) none) (hx : ev e x = v) (hq : ev e q = .int k2 b)
    (h : ∀ v', RdF (Kd.sl te K) s [v'] (xs.take b.toNat) (c :: C) → ErF K s v' (xs.take b.toNat) C → TM P f N m G R (.inRegion ops rest :: k) (upd e d v') s.w) : TM P f N (if 0 ≤ b ∧ b ≤ xs.length then m else none) G R (.inRegion ops (i :: rest) :: k) e s.w := by
  refine mg fun hg => ?_
  obtain ⟨b, rfl⟩ := Int.eq_ofNat_of_zero_le hg.1
  refine slE_core (a := 0) (b := b) hF hu hs ho hd hN hw hop hx (Nat.zero_le _) (by have := hg.2; omega) (.inl ⟨rfl, rfl⟩) (.inr ⟨k2, by simp [hq]⟩) fun v' hv' hE => h v' (by simpa using hv') (by simpa using hE)
theorem slaE {α : Type} {K : Kd α} {t te : TypeId} {v : Value} {xs : List α} {C : List Nat} {c : Nat} {x p : Operand} {k1 : IntKind} {a : Int} (hF : RwF te K s v xs c C) (hu : P.underlying t = some (.slice te)) (hs : (P.info? te).map (·.size) = some K.n)
    (ho : ops[i]? = some o) (hd : o.dst = some d) (hN : Nat.blt d N = true) (hw : Region.wanted o (yv e ops) = true) (hop : o.op = .slice t x (some p) none none) (hx : ev e x = v) (hp : ev e p = .int k1 a)
    (h : ∀ v', RdF (Kd.sl te K) s [v'] (xs.drop a.toNat) (c :: C) → ErF K s v' (xs.drop a.toNat) C → TM P f N m G R (.inRegion ops rest :: k) (upd e d v') s.w) : TM P f N (if 0 ≤ a ∧ a ≤ xs.length then m else none) G R (.inRegion ops (i :: rest) :: k) e s.w := by
  refine mg fun hg => ?_
  obtain ⟨a, rfl⟩ := Int.eq_ofNat_of_zero_le hg.1
  refine slE_core (a := a) (b := xs.length) hF hu hs ho hd hN hw hop hx (by have := hg.2; omega) (Nat.le_refl _) (.inr ⟨k1, by simp [hp]⟩) (.inl ⟨rfl, rfl⟩) fun v' hv' hE => h v' (by simpa using hv') (by simpa using hE)
theorem apRE {α : Type} {K : Kd α} {t te : TypeId} {x y : Operand} {v u : Value} {xs ys : List α} {c : Nat} {C D : List Nat} (hT : SlT P t te K.n) (hD : RwF te K s v xs c C) (hS : ErF K s u ys D) (hc : memb (C ++ D) c = false)
    (ho : ops[i]? = some o) (hd : o.dst = some d) (hN : Nat.blt d N = true) (hw : Region.wanted o (yv e ops) = true) (hop : o.op = .call { callee := .builtin .append, args := #[x, y], argTypes := #[t, t] }) (hx : ev e x = v) (hy : ev e y = u)
    (h : ∀ v' s', Stp [c] s s' → RwF te K s' v' (xs ++ ys) c (C ++ D) → TM P f N m G R (.inRegion ops rest :: k) (upd e d v') s'.w) :
    TM P f N (if xs.length + ys.length ≤ Lim then m else none) G R (.inRegion ops (i :: rest) :: k) e s.w := by
  refine mg fun hl => ?_
  obtain ⟨cells, os, hR, hcol, hE⟩ := hD
  obtain ⟨A, cap, cells', hu, hcap, hE', hcl⟩ := hS
  have hSv : SlV s.w u ys.length K.n cells' := by
    refine ⟨A, cap, hu, hE'.len, hE'.one, fun hne => ?_⟩
    obtain ⟨ad, e1, h2⟩ := hcl hne
    exact ⟨ad, e1, h2⟩
  obtain ⟨v', w', hr, hR', hg, hb⟩ := append_core (P := P) (ty := o.type) hT hR hSv hl
  refine vl (v := v') (w' := w') ho hd hN hw (by simp [execOp, hop, resolve, invoke, builtin, hx, hy, hr, Result.andThen]) ?_
  have hp : ∃ s' : St, s'.w = w' ∧ Stp [c] s s' ∧ (∀ b, b < s.w.heap.size → s'.g b = s.g b) ∧ (∀ b, s.w.heap.size ≤ b → s'.g b = c) := by
    refine ⟨⟨w', fun b => if b < s.w.heap.size then s.g b else c⟩, rfl, ⟨hg.os, hg.tape, hg.output, hg.size, fun b hb _ => by simp [hb], fun b hb hm => ⟨by simp [hb], hg.block b hb fun h => ?_⟩⟩, fun b hb => by simp [hb], fun b hb => ?_⟩
    · have := hcol b (blk_own hR h.symm)
      rw [this] at hm; simp [memb] at hm
    · have : ¬ b < s.w.heap.size := by omega
      simp [this]
  obtain ⟨s', rfl, p, hold, hnew⟩ := hp
  have hsub : ∀ n, memb C n = true → memb (C ++ D) n = true := fun n hn => memb_iff.2 (List.mem_append_left _ (memb_iff.1 hn))
  have hsub' : ∀ n, memb D n = true → memb (C ++ D) n = true := fun n hn => memb_iff.2 (List.mem_append_right _ (memb_iff.1 hn))
  refine h v' s' p ⟨cells ++ cells', Value.blk v', by rw [List.length_append]; exact hR', fun b hb' => ?_, ?_⟩
  · rcases hb b hb' with h1 | h1
    · rw [hold b (hR.lt b h1)]; exact hcol b h1
    · exact hnew b h1
  · have h1 : ElsR K s.w (fun b => b < s.w.heap.size ∧ memb (C ++ D) (s.g b) = true) (xs ++ ys) (cells ++ cells') := (hE.mono fun b hb hl => ⟨hl, hsub _ hb⟩).append (hE'.mono fun b hb hl => ⟨hl, hsub' _ hb⟩)
    refine (h1.frame fun b hb hl => (p.same b hl ?_).2).mono fun b hb _ => by rw [hold b hb.1]; exact hb.2
    cases hm : memb [c] (s.g b) with
    | false => rfl
    | true =>
      have := memb_iff.1 hm
      simp at this
      rw [this] at hb
      rw [hb.2] at hc; cases hc
end
end Go.Proofs.YtcgbhldenkeplaaGreat.V
