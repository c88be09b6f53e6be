import Derived.Test.YtegicanjlefmdaaGreatG1
import Derived.Laws.FloatArith
import Derived.MapKept
import Derived.Carry
set_option linter.unusedVariables false
set_option linter.unusedSimpArgs false
namespace Go.Proofs.YtegicanjlefmdaaGreat.V
open Go
def CallV (P : Program) (fv : Value) (args : List Value) (w : World) (R : Ending → World → Prop) : Prop :=
 ∃ g fn c fs cs, fv = .func (.func g) (List.toArray fs) (List.toArray cs) ∧ P.funcs[g]? = some fn ∧ fn.body = some c ∧ (fn.name == "runtime.NumGoroutine") = false ∧ Calls P g (List.toArray (fs ++ (args ++ cs))) w R
theorem Ky.trans {w w' w'' : World} (h : Ky [] w w') (h2 : Ky [] w' w'') : Ky [] w w'' :=
 ⟨h2.os.trans h.os, h2.tape.trans h.tape, h2.output.trans h.output, Nat.le_trans h.size h2.size, fun b hb _ => (h2.same b (Nat.lt_of_lt_of_le hb h.size) (by simp)).trans (h.same b hb (by simp))⟩
theorem RdF.top {α : Type} {K : Kd α} {s : St} {cs : List Value} {x : α} {C : List Nat} (h : RdF K s cs x C) : K.rd s.w cs x (fun _ => True) := K.rd_mono h fun _ _ _ => trivial
theorem RdF.ky {α : Type} {K : Kd α} {s : St} {cs : List Value} {x : α} {C : List Nat} {w' : World} (h : RdF K s cs x C) (k : Ky [] s.w w') : K.rd w' cs x (fun _ => True) :=
 K.rd_mono (K.rd_frame (K.rd_mono h fun b hb hl => (⟨hl, hb⟩ : b < s.w.heap.size ∧ memb C (s.g b) = true)) fun b hb _ => k.same b hb.1 (by simp)) fun _ _ _ => trivial
theorem BlF.ky {s : St} {b c : Nat} {t : TypeId} {cs : List Value} {w' : World} (h : BlF s b t cs c) (k : Ky [] s.w w') : BlW w' b t cs := by
 have hl : b < s.w.heap.size := (Array.getElem?_eq_some_iff.1 h.1).1
 unfold BlW; rw [k.same b hl (by simp)]; exact h.1
theorem Z0.b0 {F : Nat → Prop} {s : St} (z : Z0 F s) {b : Nat} {t : TypeId} {cs : List Value} (h : BlW s.w b t cs) (hF : F b) : BlF s b t cs 0 := ⟨h, (z.z b).1 hF⟩
theorem Z1.b0 {F : Nat → Prop} {os : List Nat} {s : St} (z : Z1 F os s) {b : Nat} {t : TypeId} {cs : List Value} (h : BlW s.w b t cs) (hF : F b) : BlF s b t cs 0 := ⟨h, (z.z b).1 hF⟩
section
variable {P : Program} {f : FuncId} {N : Nat} {O ρ : Type} {m : Option O} {G : O → Option ρ} {R : ρ → Ending → World → Prop} {e : Env} {w : World} {k : List Item} {ops : Array Oper}
theorem clv {α : Type} {x : Option α} {km : α → Option O} {i d : Nat} {rest : List Nat} {o : Oper} {y : Operand} {fv : Value} {args : Array Operand} {ts : Array TypeId} {vs : List Value} {Q : α → Value → World → Prop}
    (ho : ops[i]? = some o) (hd : o.dst = some d) (hN : Nat.blt d N = true) (hw : Region.wanted o (yv e ops) = true)
    (hop : o.op = .call { callee := .value y, args := args, argTypes := ts }) (hy : ev e y = fv) (hargs : args.toList.map (ev e) = vs)
    (hc : ∀ a, x = some a → CallV P fv vs w fun en w' => ∃ v, en = .returned v ∧ Q a v w')
    (h : ∀ a v w', x = some a → Q a v w' → TM P f N (km a) G R (.inRegion ops rest :: k) (upd e d v) w') : TM P f N (x.bind km) G R (.inRegion ops (i :: rest) :: k) e w := by
  intro oo hoo r hr
  obtain ⟨a, ha, hkm⟩ := Option.bind_eq_some_iff.1 hoo
  obtain ⟨g, fn, c, fs, cs, rfl', hg, hb, hn, hcalls⟩ := hc a ha
  have hn' : ¬ fn.name = "runtime.NumGoroutine" := by simpa using hn
  have hm : args.map (ev e) = vs.toArray := by rw [← hargs, ← Array.toList_map]
  have hrun : (execOp (ev e) o).run P w = .ok (.enter g (List.toArray (fs ++ (vs ++ cs)))) w := by
    simp [execOp, hop, resolve, hy, rfl', Deferred.ofValue, invoke, callFunc, hg, hb, hn', hm]
  refine T.call_core (E := fun v => upd e d v) ho hw (fun a' ha' v => by rw [hd]; exact ha'.put d hN v) hrun hcalls ?_
  rintro en w' ⟨v, rfl, hQ⟩
  exact ⟨v, rfl, h a v w' ha hQ oo hkm r hr⟩
theorem mkf {i d g : Nat} {rest : List Nat} {o : Oper} {first cap : Array Operand} {fs cs : List Value} (ho : ops[i]? = some o) (hd : o.dst = some d) (hN : Nat.blt d N = true) (hw : Region.wanted o (yv e ops) = true) (hop : o.op = .makeFunc (.func g) first cap)
    (hf : first.toList.map (ev e) = fs) (hc : cap.toList.map (ev e) = cs)
    (h : TM P f N m G R (.inRegion ops rest :: k) (upd e d (.func (.func g) (List.toArray fs) (List.toArray cs))) w) : TM P f N m G R (.inRegion ops (i :: rest) :: k) e w :=
  vl ho hd hN hw (by
    have h1 : first.map (ev e) = fs.toArray := by rw [← hf, ← Array.toList_map]
    have h2 : cap.map (ev e) = cs.toArray := by rw [← hc, ← Array.toList_map]
    simp [execOp, hop, Instr.makeFunc, h1, h2]) h
theorem mx {i d : Nat} {rest : List Nat} {o : Oper} {x y : Operand} {ts : Array TypeId} {k1 k2 : IntKind} {a b : Int} (ho : ops[i]? = some o) (hd : o.dst = some d) (hN : Nat.blt d N = true) (hw : Region.wanted o (yv e ops) = true) (hop : o.op = .call { callee := .builtin .max, args := #[x, y], argTypes := ts }) (hx : ev e x = .int k1 a) (hy : ev e y = .int k2 b)
    (h : TM P f N m G R (.inRegion ops rest :: k) (upd e d (.int k1 (if b > a then b else a))) w) : TM P f N m G R (.inRegion ops (i :: rest) :: k) e w :=
  vl ho hd hN hw (by simp [execOp, hop, resolve, invoke, builtin, Builtin.max_, Builtin.max2, hx, hy, Result.andThen]) h
end
end Go.Proofs.YtegicanjlefmdaaGreat.V
set_option linter.unusedVariables false
set_option linter.unusedSimpArgs false
namespace Go.Proofs.YtegicanjlefmdaaGreat.V
open Go
section
variable {α β : Type} {A : Kd α} {B : Kd β} {s : St} {c1 c2 : List Value} {x : α} {y : β} {d : Nat}
theorem Xy (h : ∀ w, A.ow w c1 x []) (h2 : OwF B s c2 y d) : OwF (Kd.pair A B) s (c1 ++ c2) (x, y) d := by
 obtain ⟨os, ho, hn, hc⟩ := h2
 exact ⟨os, ⟨c1, c2, [], os, rfl, rfl, h _, ho⟩, hn, hc⟩
theorem ow_2 {d' : Nat} (h : OwF A s c1 x d) (h2 : OwF B s c2 y d') (hd : Nat.beq d d' = false) (h10 : Nat.ble 40 d' = true) : ∃ s' : St, s.w = s'.w ∧ Stp [d'] s s' ∧ OwF (Kd.pair A B) s' (c1 ++ c2) (x, y) d := by
 have hdd : d ≠ d' := fun h => by subst h; simp at hd
 obtain ⟨os, ho, hn, hc⟩ := h
 obtain ⟨ps, po, pn, pc⟩ := h2
 refine ⟨⟨s.w, fun b => if s.g b = d' then d else s.g b⟩, rfl, ⟨rfl, rfl, rfl, Nat.le_refl _, fun b hb hl => ?_, fun b hb hm => ⟨?_, rfl⟩⟩, os ++ ps, ⟨c1, c2, os, ps, rfl, rfl, ho, po⟩, ?_, fun b hb => ?_⟩
 · have := Nat.le_of_ble_eq_true h10
   have : ¬ s.g b = d' := by omega
   simp [this]
 · have : ¬ s.g b = d' := fun h => by rw [h] at hm; simp [memb] at hm
   simp [this]
 · refine List.nodup_append.2 ⟨hn, pn, fun a ha b hb hab => ?_⟩
   subst hab
   exact hdd ((hc a ha).symm.trans (pc a hb))
 · rcases List.mem_append.1 hb with hb | hb
   · have := hc b hb
     by_cases h : s.g b = d' <;> simp [this]
   · simp [pc b hb]
end
theorem Xf (k : IntKind) (x : Int) : ∀ w, (Kd.int k).ow w [.int k x] x [] := fun _ => ⟨rfl, rfl⟩
theorem Xz {v : Value} {x : Nat} (h : FL v x) : ∀ w, Kd.flt.ow w [v] x [] := fun _ => ⟨⟨v, rfl, h⟩, rfl⟩
theorem Yk {α : Type} (e : TypeId) (K : Kd α) : ∀ w, (Kd.sl e K).ow w [.slice none 0 0] [] [] := fun _ => ⟨_, rfl, [], [], [], rfl, ⟨by simp, .inl ⟨rfl, rfl, rfl⟩⟩, ⟨rfl, rfl⟩⟩
theorem Xi {α β : Type} {A : Kd α} {B : Kd β} {c1 c2 : List Value} {x : α} {y : β} (h : ∀ w, A.ow w c1 x []) (h2 : ∀ w, B.ow w c2 y []) : ∀ w, (Kd.pair A B).ow w (c1 ++ c2) (x, y) [] := fun w => ⟨c1, c2, [], [], rfl, rfl, h w, h2 w⟩
theorem Yj {α γ : Type} {A : Kd α} {c1 : List Value} (g : γ → α) (z : γ) (h : ∀ w, A.ow w c1 (g z) []) : ∀ w, (Kd.iso A g).ow w c1 z [] := h
theorem Xs {α γ : Type} {A : Kd α} {s : St} {c1 : List Value} {d : Nat} (g : γ → α) (z : γ) (h : OwF A s c1 (g z) d) : OwF (Kd.iso A g) s c1 z d := h
theorem ow_z {α : Type} {A : Kd α} {c1 : List Value} {x : α} (s : St) (d : Nat) (h : ∀ w, A.ow w c1 x []) : OwF A s c1 x d := ⟨[], h _, List.nodup_nil, fun _ h => nomatch h⟩
section
variable {P : Program} {f : FuncId} {N : Nat} {O ρ : Type} {m : Option O} {G : O → Option ρ} {R : ρ → Ending → World → Prop} {e : Env} {s : St} {k : List Item} {ops : Array Oper} {i d : Nat} {rest : List Nat} {o : Oper}
theorem nb {α : Type} {v : α} {km : α → Option O} {todo : List Item} {w : World} (h : ∀ y, y = v → TM P f N (km y) G R todo e w) : TM P f N ((some v).bind km) G R todo e w := h v rfl
theorem som {α : Type} [Inhabited α] {K : Kd α} {t te : TypeId} {x y : Operand} {v : Value} {vs : List Value} {xs : List α} {c d' : Nat} {ii : Int} {ad : Addr} {x' : α} (hO : OwF (Kd.sl te K) s [v] xs c) (hA : IxA v K.n ii ad) (h0 : 0 ≤ ii) (h1 : ii < xs.length) (hX : OwF K s vs x' d') (hcd : Nat.beq c d' = false) (h10 : Nat.ble 40 d' = true) (hs : (P.info? t).map (·.size) = some K.n)
    (ho : ops[i]? = some o) (hd : o.dst = none) (hw : Region.wanted o (yv e ops) = true) (hop : o.op = .store t x y) (hx : ev e x = .pointer (some ad)) (hy : (ev e y).cells = vs.toArray)
    (h : ∀ s', Stp [c, d'] s s' → OwF (Kd.sl te K) s' [v] (xs.set ii.toNat x') c → TM P f N m G R (.inRegion ops rest :: k) e s'.w) : TM P f N m G R (.inRegion ops (i :: rest) :: k) e s.w := by
  have hcd' : c ≠ d' := fun h => by subst h; simp at hcd
  obtain ⟨os, ⟨v1, e1, cells, o1, o2, rfl, hR, hE⟩, hnd, hcol⟩ := hO
  obtain rfl : v = v1 := by simpa using e1
  obtain ⟨ox, hxo, hxn, hxc⟩ := hX
  have hvl : vs.length = K.n := K.rd_len (K.ow_rd hxo)
  have hv1 : ∀ u ∈ vs, u.oneCell' = true := K.rd_one (K.ow_rd hxo)
  obtain ⟨Aa, l, cap, hv, rfl⟩ := hA
  have hi : ii.toNat < xs.length := by omega
  obtain ⟨hl, hR2⟩ := hR
  rcases hR2 with ⟨h2, _⟩ | ⟨g, cap', cur, h2, hg, hlc, hcm, hsz, htk, rfl⟩
  · rw [h2] at hv; cases hv
  · rw [h2] at hv
    simp only [Value.slice.injEq, Option.some.injEq] at hv
    obtain ⟨rfl, rfl, rfl⟩ := hv
    obtain ⟨p1, p2, p3, rfl, hK, hset⟩ := hE.at_ ii.toNat hi
    have hmul : (ii.toNat + 1) * K.n ≤ xs.length * K.n := Nat.mul_le_mul_right _ hi
    have hmul' := hmul
    rw [Nat.add_mul, Nat.one_mul] at hmul'
    have hcapm : xs.length * K.n ≤ cap' * K.n := Nat.mul_le_mul_right _ hlc
    have hgl : g < s.w.heap.size := (Array.getElem?_eq_some_iff.1 hg).1
    have hgc := hcol g (by simp)
    have hst := run_storeCells_at P g (ii.toNat * K.n) te vs 0 cur s.w hg (by rw [hvl, hsz]; omega) hv1
    simp only [Nat.add_zero] at hst
    have had : (⟨g, 0, none⟩ : Addr).add (ii.toNat * K.n) = ⟨g, ii.toNat * K.n, none⟩ := by rw [Addr.add_mid, Nat.zero_add]
    rw [had] at hx
    have hrun : (Instr.storeAt t (.pointer (some ⟨g, ii.toNat * K.n, none⟩)) (ev e y)).run P s.w = .ok () (s.w.setRow g (cur.toList.take (ii.toNat * K.n) ++ vs ++ cur.toList.drop (ii.toNat * K.n + vs.length)).toArray) := by
      unfold Instr.storeAt
      rw [Sem.run_bind']
      simp only [Instr.sureAddr, Sem.run_pure, Result.andThen]
      unfold storeVar
      rw [Sem.run_bind', size_run hs]
      simp only [Result.andThen, hy]
      simp [hvl]
      simp [hvl] at hst
      exact hst
    have hd10 := Nat.le_of_ble_eq_true h10
    refine vd (w' := s.w.setRow g (cur.toList.take (ii.toNat * K.n) ++ vs ++ cur.toList.drop (ii.toNat * K.n + vs.length)).toArray) ho hd hw (by simp [execOp, hop, hx, hrun, Result.andThen]) (h ⟨_, fun b => if s.g b = d' then c else s.g b⟩ ⟨rfl, rfl, rfl, by simp, fun b hb hl => ?_, fun b hb hm => ?_⟩ ?_)
    · have : ¬ s.g b = d' := by omega
      simp [this]
    · simp only [memb, Bool.or_eq_false_iff] at hm
      have q1 : s.g b ≠ c := fun h => by rw [h] at hm; simp at hm
      have q2 : ¬ s.g b = d' := fun h => by rw [h] at hm; simp at hm
      refine ⟨by simp [q2], setRow_other s.w g b _ fun e => q1 (by rw [e]; exact hgc)⟩
    · have hnd' := List.nodup_cons.1 (show (g :: (p1 ++ p2 ++ p3)).Nodup from hnd)
      have hoth : ∀ b, b ≠ g → (s.w.setRow g (cur.toList.take (ii.toNat * K.n) ++ vs ++ cur.toList.drop (ii.toNat * K.n + vs.length)).toArray).heap[b]? = s.w.heap[b]? := fun b hb => setRow_other s.w g b _ hb
      have hgx : g ∉ ox := fun h => hcd' (hgc.symm.trans (hxc g h))
      have hK' := K.ow_frame hxo (w' := s.w.setRow g (cur.toList.take (ii.toNat * K.n) ++ vs ++ cur.toList.drop (ii.toNat * K.n + vs.length)).toArray) fun b hb _ => hoth b fun h => hgx (h ▸ hb)
      have hnew := hset _ vs x' ox hK' fun b hb _ => hoth b fun h => hnd'.1 (by subst h; simp at hb ⊢; rcases hb with hb | hb <;> simp [hb])
      refine ⟨[g] ++ (p1 ++ ox ++ p3), ⟨v, rfl, _, [g], _, rfl, ⟨?_, .inr ⟨g, cap', _, by rw [List.length_set]; exact h2, setRow_heap s.w g cur _ te _ hg, by simpa using hlc, hcm, ?_, ?_, rfl⟩⟩, hnew⟩, ?_, fun b hb => ?_⟩
      · simp only [List.length_set, List.length_append, List.length_take, List.length_drop, hvl, hl]
        rw [Nat.add_mul, Nat.one_mul]; omega
      · simp only [List.size_toArray, List.length_append, List.length_take, List.length_drop, Array.length_toList, hvl, hsz]
        omega
      · rw [List.length_set, ← htk, hvl, Nat.add_mul, Nat.one_mul]
        have e2 : (cur.toList.take (xs.length * K.n)).take (ii.toNat * K.n) = cur.toList.take (ii.toNat * K.n) := by rw [List.take_take]; congr 1; omega
        have e3 : (cur.toList.take (xs.length * K.n)).drop (ii.toNat * K.n + K.n) = (cur.toList.drop (ii.toNat * K.n + K.n)).take (xs.length * K.n - (ii.toNat * K.n + K.n)) := by rw [List.drop_take]
        rw [e2, e3]
        have hla : (cur.toList.take (ii.toNat * K.n) ++ vs).length = ii.toNat * K.n + K.n := by
          rw [List.length_append, List.length_take, Array.length_toList, hvl, hsz]; omega
        rw [List.take_append, List.take_of_length_le (by omega), hla]
      · have hdj : ∀ b, b ∈ ox → b ∉ g :: (p1 ++ p2 ++ p3) := fun b hb hb2 => hcd' ((hcol b hb2).symm.trans (hxc b hb))
        rw [List.nodup_iff_count]
        intro b
        have c0 : (g :: (p1 ++ p2 ++ p3)).count b ≤ 1 := List.nodup_iff_count.1 hnd b
        have c1 : ox.count b ≤ 1 := List.nodup_iff_count.1 hxn b
        rw [List.count_cons] at c0
        simp only [List.singleton_append, List.count_cons, List.count_append] at c0 ⊢
        by_cases hb : b ∈ ox
        · have z0 : (g :: (p1 ++ p2 ++ p3)).count b = 0 := List.count_eq_zero.2 (hdj b hb)
          rw [List.count_cons] at z0
          simp only [List.count_append] at z0
          omega
        · have : ox.count b = 0 := List.count_eq_zero.2 hb
          omega
      · dsimp only
        simp only [List.singleton_append, List.mem_cons, List.mem_append] at hb
        rcases hb with rfl | (hb | hb) | hb
        · simp [hgc]
        · simp [hcol b (by simp [hb])]
        · simp [hxc b hb]
        · simp [hcol b (by simp [hb])]
end
end Go.Proofs.YtegicanjlefmdaaGreat.V
set_option linter.unusedVariables false
set_option linter.unusedSimpArgs false
namespace Go.Proofs.YtegicanjlefmdaaGreat.V
open Go
def far (op : BinOp) (x y : Nat) : Nat := (floatBits op .f64 x y).getD nanB
def fneg (x : Nat) : Nat := bif isN x then nanB else Op.negFloat .f64 x
theorem Xq {v : Value} {x : Nat} (h : FL v x) {s : St} : RdF Kd.flt s [v] x [] := ⟨v, rfl, h⟩
theorem fcmp_cn (a b : Nat) : fcmp .f64 (cn a) (cn b) = fcmp .f64 a b := order_cn a b
theorem fbin_cn (op : BinOp) (a b : Nat) : fbin op .f64 (cn a) (cn b) = fbin op .f64 a b := by
 unfold fbin
 simp only [fcmp_cn]
open Ieee in
theorem nan_ops (x y : Datum) (h : x.isNaN = true ∨ y.isNaN = true) : x.sum y = none ∧ x.product y = none ∧ ∀ d, x.quotient d y = none := by
 rcases h with h | h
 · cases x <;> first | cases h | skip
   refine ⟨rfl, ?_, fun d => ?_⟩ <;> cases y <;> rfl
 · cases y <;> first | cases h | skip
   refine ⟨?_, ?_, fun d => ?_⟩ <;> cases x <;> rfl
open Ieee in
theorem sum_notN {x y r : Datum} (h : x.sum y = some r) : r.isNaN = false := by
 cases x <;> cases y <;> simp only [Datum.sum] at h
 all_goals first
  | (cases h; rfl)
  | cases h
  | (split at h <;> first | (cases h; rfl) | cases h)
open Ieee in
theorem product_notN {x y r : Datum} (h : x.product y = some r) : r.isNaN = false := by
 cases x <;> cases y <;> simp only [Datum.product] at h
 all_goals first
  | (cases h; rfl)
  | cases h
  | (split at h <;> first | (cases h; rfl) | cases h)
open Ieee in
theorem quotient_notN {d : Nat} {x y r : Datum} (h : x.quotient d y = some r) : r.isNaN = false := by
  cases x <;> cases y <;> simp only [Datum.quotient] at h
  all_goals first
    | (cases h; rfl)
    | cases h
    | (split at h
       · first | (cases h; rfl) | cases h | (split at h <;> first | (cases h; rfl) | cases h)
       · cases h; rfl)
theorem read_opp (x : Ieee.Datum) : x.opposite.isNaN = x.isNaN := by cases x <;> rfl
theorem isN_read (b : Nat) : (D.read b).isNaN = isN b := by
 cases h : isN b with
 | true => obtain ⟨s, f, e⟩ := read_nan h; rw [e]; rfl
 | false =>
  unfold isN at h
  have h : ¬ 9218868437227405312 < b % 9223372036854775808 := of_decide_eq_false h
  rw [readD]
  split
  · rfl
  · split
    · rfl
    · rw [if_pos (by omega)]; rfl
theorem floatBits_cn (op : BinOp) (a b : Nat) : floatBits op .f64 (cn a) (cn b) = floatBits op .f64 a b := by
 have key : isN a = true ∨ isN b = true → ∀ a' b', (isN a' = isN a) → (isN b' = isN b) → floatBits op .f64 a' b' = none := by
  intro h a' b' ha hb
  have h' : (D.read a').isNaN = true ∨ (D.read b').isNaN = true := by rw [isN_read, isN_read, ha, hb]; exact h
  have h2 : (D.read a').isNaN = true ∨ (D.read b').opposite.isNaN = true := by rw [read_opp]; exact h'
  obtain ⟨k1, k2, k3⟩ := nan_ops _ _ h'
  obtain ⟨k4, _, _⟩ := nan_ops _ _ h2
  unfold floatBits
  cases op <;> simp only []
  · show ((D.read a').sum (D.read b')).map D.write = none; rw [k1]; rfl
  · show ((D.read a').sum (D.read b').opposite).map D.write = none; rw [k4]; rfl
  · show ((D.read a').product (D.read b')).map D.write = none; rw [k2]; rfl
  · show ((D.read a').quotient _ (D.read b')).map D.write = none; rw [k3]; rfl
 cases ha : isN a with
 | true => rw [key (.inl ha) _ _ (isN_cn a) (isN_cn b), key (.inl ha) _ _ rfl rfl]
 | false =>
  cases hb : isN b with
  | true => rw [key (.inr hb) _ _ (isN_cn a) (isN_cn b), key (.inr hb) _ _ rfl rfl]
  | false => rw [cn_of ha, cn_of hb]
theorem floatBits_notN {op : BinOp} {a b r : Nat} (h : floatBits op .f64 a b = some r) : isN r = false := by
 unfold floatBits at h
 have map : ∀ {d : Option Ieee.Datum}, d.map D.write = some r → (∀ e, d = some e → e.isNaN = false) → isN r = false := by
  intro d hd he
  cases d with
  | none => cases hd
  | some e => cases hd; exact write_notN e (he e rfl)
 cases op <;> simp only at h <;> first | (cases h; done) | skip
 · exact map h fun e he => sum_notN he
 · exact map h fun e he => sum_notN he
 · exact map h fun e he => product_notN he
 · exact map h fun e he => quotient_notN he
theorem FL.bits {v : Value} {x : Nat} (h : FL v x) (hn : isN x = false) : v = .float .f64 x := by
 obtain ⟨b, rfl, rfl⟩ := h
 rw [isN_cn] at hn
 rw [cn_of hn]
theorem far_run {P : Program} (w : World) {op : BinOp} (hop : op = .add ∨ op = .sub ∨ op = .mul ∨ op = .quo) (t : TypeId) (a b : Nat) :
    ∃ r n, (binOp op t (.float .f64 a) (.float .f64 b)).run P w = .ok (.float .f64 r) { w with drawn := n } ∧ cn r = far op (cn a) (cn b) := by
  unfold far
  rw [floatBits_cn]
  cases h : floatBits op .f64 a b with
  | some r =>
    refine ⟨r, w.drawn, ?_, ?_⟩
    · rw [run_float_arith w op t .f64 a b r h]
    · rw [cn_of (floatBits_notN h)]; rfl
  | none =>
    refine ⟨Question.cut (.nanBits .f64 a b) (w.tape w.drawn (.nanBits .f64 a b)), w.drawn + 1, ?_, ?_⟩
    · have hn : (Op.floatArith op .f64 a b).run P w = .ok (.float .f64 (Question.cut (.nanBits .f64 a b) (w.tape w.drawn (.nanBits .f64 a b)))) { w with drawn := w.drawn + 1 } := by
        unfold floatBits at h
        rcases hop with rfl | rfl | rfl | rfl <;> simp only at h <;> simp [Op.floatArith, h, choose, Sem.run, Question.forced]
      rcases hop with rfl | rfl | rfl | rfl <;> simpa [binOp] using hn
    · have : isN (Question.cut (.nanBits .f64 a b) (w.tape w.drawn (.nanBits .f64 a b))) = true := by
        generalize w.tape w.drawn (.nanBits .f64 a b) = t
        have hc : Question.cut (.nanBits .f64 a b) t = (t % 2) * 2 ^ 63 + 0x7ff0000000000000 + 1 + (t / 2) % (2 ^ 52 - 1) := rfl
        have h2 := Nat.mod_lt (t / 2) (show 0 < 2 ^ 52 - 1 by decide)
        have h1 : t % 2 = 0 ∨ t % 2 = 1 := by omega
        unfold isN
        rw [decide_eq_true_eq, hc]
        rcases h1 with h1 | h1 <;> rw [h1] <;> omega
      rw [cn_nan this]; rfl
section
variable {P : Program} {f : FuncId} {N : Nat} {O ρ : Type} {m : Option O} {G : O → Option ρ} {R : ρ → Ending → World → Prop} {e : Env} {s : St} {k : List Item} {ops : Array Oper} {i d : Nat} {rest : List Nat} {o : Oper}
theorem vmk {i d : Nat} {o : Oper} {rest : List Nat} {v : Value} {n : Nat} (ho : ops[i]? = some o) (hd : o.dst = some d) (hN : Nat.blt d N = true) (hw : Region.wanted o (yv e ops) = true) (hr : (execOp (ev e) o).run P s.w = .ok (.value v) { s.w with drawn := n })
    (h : ∀ s', Stp [] s s' → TM P f N m G R (.inRegion ops rest :: k) (upd e d v) s'.w) : TM P f N m G R (.inRegion ops (i :: rest) :: k) e s.w :=
  vl ho hd hN hw hr (h ⟨{ s.w with drawn := n }, s.g⟩ ⟨rfl, rfl, rfl, Nat.le_refl _, fun _ _ _ => rfl, fun _ _ _ => ⟨rfl, rfl⟩⟩)
theorem fq_ {op : BinOp} {t t' : TypeId} {X Y : Operand} {v1 v2 r : Value} {x1 x2 : Nat} (h1 : FL v1 x1) (h2 : FL v2 x2)
    (ho : ops[i]? = some o) (hd : o.dst = some d) (hN : Nat.blt d N = true) (hw : Region.wanted o (yv e ops) = true) (hop : o.op = .binOp op t X Y t') (hx : ev e X = v1) (hy : ev e Y = v2) (hv : fbin op .f64 x1 x2 = some r)
    (h : TM P f N m G R (.inRegion ops rest :: k) (upd e d r) s.w) : TM P f N m G R (.inRegion ops (i :: rest) :: k) e s.w := by
  obtain ⟨b1, rfl, rfl⟩ := h1
  obtain ⟨b2, rfl, rfl⟩ := h2
  rw [fbin_cn] at hv
  exact vl ho hd hN hw (by
    have := fbin_run (P := P) (w := s.w) (t := t) (X := X) (Y := Y) hv
    simp only [execOp, hop, hx, hy]
    rw [Sem.run_bind', this]; rfl) h
theorem fq_' {op : BinOp} {t t' : TypeId} {X Y : Operand} {v1 v2 r : Value} {x1 x2 : Nat} (h1 : FL v1 x1) (h2 : FL v2 x2) (t2 : E8 (ops[i]?) (some o) (o.dst) (some d) (Nat.blt d N) (true) (Region.wanted o (yv e ops)) (true) (o.op) (.binOp op t X Y t') (ev e X) (v1) (ev e Y) (v2) (fbin op .f64 x1 x2) (some r)) (h : TM P f N m G R (.inRegion ops rest :: k) (upd e d r) s.w) : TM P f N m G R (.inRegion ops (i :: rest) :: k) e s.w := fq_ h1 h2 (e8_ t2).1 (e8_ t2).2.1 (e8_ t2).2.2.1 (e8_ t2).2.2.2.1 (e8_ t2).2.2.2.2.1 (e8_ t2).2.2.2.2.2.1 (e8_ t2).2.2.2.2.2.2.1 (e8_ t2).2.2.2.2.2.2.2 h
theorem qv_b {x b : Bool} (h : Qv P N ops e s.w i d (.bool x)) (hb : x = b) : Qv P N ops e s.w i d (.bool b) := by subst hb; exact h
theorem fa_ {op : BinOp} {t t' : TypeId} {X Y : Operand} {v1 v2 : Value} {x1 x2 : Nat} (h1 : FL v1 x1) (h2 : FL v2 x2) (hk : op = .add ∨ op = .sub ∨ op = .mul ∨ op = .quo)
    (ho : ops[i]? = some o) (hd : o.dst = some d) (hN : Nat.blt d N = true) (hw : Region.wanted o (yv e ops) = true) (hop : o.op = .binOp op t X Y t') (hx : ev e X = v1) (hy : ev e Y = v2)
    (h : ∀ v s', Stp [] s s' → FL v (far op x1 x2) → TM P f N m G R (.inRegion ops rest :: k) (upd e d v) s'.w) : TM P f N m G R (.inRegion ops (i :: rest) :: k) e s.w := by
  obtain ⟨b1, rfl, rfl⟩ := h1
  obtain ⟨b2, rfl, rfl⟩ := h2
  obtain ⟨r, n, hr, hc⟩ := far_run (P := P) s.w hk t b1 b2
  refine vmk (v := .float .f64 r) (n := n) ho hd hN hw ?_ fun s' p => h _ s' p ⟨r, rfl, hc⟩
  have hg : (eqGuard op t X Y (.float .f64 b1) (.float .f64 b2)).run P s.w = .ok () s.w := by rcases hk with rfl | rfl | rfl | rfl <;> simp [eqGuard]
  simp only [execOp, hop, hx, hy]
  rw [Sem.run_bind', Sem.run_bind', hg]
  simp only [Result.andThen, hr]
  rfl
theorem fng_ {t : TypeId} {X : Operand} {v1 : Value} {x1 : Nat} (h1 : FL v1 x1)
    (ho : ops[i]? = some o) (hd : o.dst = some d) (hN : Nat.blt d N = true) (hw : Region.wanted o (yv e ops) = true) (hop : o.op = .unOp .neg t X) (hx : ev e X = v1)
    (h : ∀ v, FL v (fneg x1) → TM P f N m G R (.inRegion ops rest :: k) (upd e d v) s.w) : TM P f N m G R (.inRegion ops (i :: rest) :: k) e s.w := by
  obtain ⟨b1, rfl, rfl⟩ := h1
  refine vl (v := .float .f64 (Op.negFloat .f64 b1)) ho hd hN hw (by simp [execOp, hop, hx, Op.unary]) (h _ ⟨_, rfl, ?_⟩)
  have hx : ∀ b, Op.negFloat .f64 b % 9223372036854775808 = b % 9223372036854775808 := by
    intro b
    show (b ^^^ 2 ^ 63) % 2 ^ 63 = b % 2 ^ 63
    rw [Nat.xor_mod_two_pow, Nat.mod_self, Nat.xor_zero]
  have hn : isN (Op.negFloat .f64 b1) = isN b1 := by unfold isN; rw [hx]
  unfold fneg
  rw [isN_cn]
  cases h : isN b1 with
  | true => rw [cn_nan (by rw [hn, h])]; rfl
  | false => rw [cn_of (by rw [hn, h]), cn_of h]; rfl
theorem i2f {t1 t2 : TypeId} {k1 k3 : IntKind} {n : Int} {X : Operand} (hu : P.underlying t2 = some (.float .f64)) (hu1 : P.underlying t1 = some (.int k1))
    (ho : ops[i]? = some o) (hd : o.dst = some d) (hN : Nat.blt d N = true) (hw : Region.wanted o (yv e ops) = true) (hop : o.op = .convert t1 t2 X) (hx : ev e X = .int k3 n)
    (h : ∀ v, FL v (FloatKind.f64.nearest n) → TM P f N m G R (.inRegion ops rest :: k) (upd e d v) s.w) : TM P f N m G R (.inRegion ops (i :: rest) :: k) e s.w :=
  vl (v := .float .f64 (FloatKind.f64.nearest n)) ho hd hN hw (by simp [execOp, hop, hx, convert, run_underlying hu, run_underlying hu1, Conv.intToFloat, Result.andThen]) (h _ ⟨_, rfl, cn_of (write_notN (.number (n < 0) n.natAbs 0) rfl)⟩)
theorem f2i {t1 t2 : TypeId} {k2 : IntKind} {X : Operand} {v1 : Value} {x1 : Nat} {km : Int → Option O} (h1 : FL v1 x1) (hu : P.underlying t2 = some (.int k2)) (hu1 : P.underlying t1 = some (.float .f64))
    (ho : ops[i]? = some o) (hd : o.dst = some d) (hN : Nat.blt d N = true) (hw : Region.wanted o (yv e ops) = true) (hop : o.op = .convert t1 t2 X) (hx : ev e X = v1)
    (h : ∀ n, floatToIntVal .f64 x1 k2 = some n → TM P f N (km n) G R (.inRegion ops rest :: k) (upd e d (.int k2 n)) s.w) : TM P f N ((floatToIntVal .f64 x1 k2).bind km) G R (.inRegion ops (i :: rest) :: k) e s.w := by
  obtain ⟨b1, rfl, rfl⟩ := h1
  refine mb fun n hn => ?_
  have hN' : isN (cn b1) = false := by
    cases hb : isN (cn b1) with
    | false => rfl
    | true =>
      obtain ⟨s', f', e'⟩ := read_nan hb
      unfold floatToIntVal at hn
      have : (FloatKind.f64.decode (cn b1)) = .nan s' f' := e'
      rw [this] at hn
      cases hn
  rw [isN_cn] at hN'
  refine vl (v := .int k2 n) ho hd hN hw ?_ (h n hn)
  rw [cn_of hN'] at hn
  have := run_convert_float_int (P := P) s.w t1 t2 .f64 k2 b1 n (by rw [hu1]; rfl) hu hn
  simp [execOp, hop, hx, this, Result.andThen]
theorem ext_run {w : World} {g : FuncId} {fn : Func} {args : Array Operand} {ts : Array TypeId} {X : Array Value → Sem Value} {v : Value} (hop : o.op = .call { callee := .value (.func g), args := args, argTypes := ts }) (hg : P.funcs[g]? = some fn) (hb : fn.body = none)
    (hn : (fn.name == "runtime.NumGoroutine") = false) (hnx : Extern.findNext fn = none) (hf : Extern.find fn = some X) (hv : (X (args.map (ev e))).run P w = .ok v w) : (execOp (ev e) o).run P w = .ok (.value v) w := by
  have hn' : ¬ fn.name = "runtime.NumGoroutine" := by simpa using hn
  simp [execOp, hop, resolve, ev, Deferred.ofValue, invoke, callFunc, hg, hb, hn', hnx, hf, mark, Sem.run, hv, Result.andThen]
theorem fb_ {g : FuncId} {fn : Func} {X : Operand} {ts : Array TypeId} {v1 : Value} {x1 : Nat} (h1 : FL v1 x1)
    (ho : ops[i]? = some o) (hd : o.dst = some d) (hN : Nat.blt d N = true) (hw : Region.wanted o (yv e ops) = true) (hop : o.op = .call { callee := .value (.func g), args := #[X], argTypes := ts }) (hg : P.funcs[g]? = some fn) (hb : fn.body = none)
    (hn : (fn.name == "runtime.NumGoroutine") = false) (hnx : Extern.findNext fn = none) (hf : Extern.find fn = some Extern.MathFloatBits.float64bits) (hx : ev e X = v1)
    (h : TM P f N m G R (.inRegion ops rest :: k) (upd e d (.int .u64 (x1 : Int))) s.w) : TM P f N (if isN x1 = false then m else none) G R (.inRegion ops (i :: rest) :: k) e s.w := by
  refine mg fun hnn => ?_
  have := h1.bits hnn
  subst this
  exact vl ho hd hN hw (ext_run hop hg hb hn hnx hf (by rw [show (#[X] : Array Operand).map (ev e) = #[ev e X] from by simp, hx]; rfl)) h
theorem fbu {g : FuncId} {fn : Func} {X : Operand} {ts : Array TypeId} {v1 : Value} {x1 : Nat} (h1 : FL v1 x1)
    (ho : ops[i]? = some o) (hd : o.dst = some d) (hN : Nat.blt d N = true) (hw : Region.wanted o (yv e ops) = true) (hop : o.op = .call { callee := .value (.func g), args := #[X], argTypes := ts }) (hg : P.funcs[g]? = some fn) (hb : fn.body = none)
    (hn : (fn.name == "runtime.NumGoroutine") = false) (hnx : Extern.findNext fn = none) (hf : Extern.find fn = some Extern.MathFloatBits.float64bits) (hx : ev e X = v1)
    (h : ∀ b : Nat, cn b = x1 → TM P f N m G R (.inRegion ops rest :: k) (upd e d (.int .u64 (b : Int))) s.w) : TM P f N m G R (.inRegion ops (i :: rest) :: k) e s.w := by
  obtain ⟨b, rfl, hb2⟩ := h1
  exact vl ho hd hN hw (ext_run hop hg hb hn hnx hf (by rw [show (#[X] : Array Operand).map (ev e) = #[ev e X] from by simp, hx]; rfl)) (h b hb2)
theorem fz0 {t t' : TypeId} {X Y : Operand} {b x : Nat} (hc : cn b = x)
    (ho : ops[i]? = some o) (hd : o.dst = some d) (hN : Nat.blt d N = true) (hw : Region.wanted o (yv e ops) = true) (hop : o.op = .binOp .eql t X Y t') (hx : ev e X = .int .u64 (b : Int)) (hy : ev e Y = .int .u64 0)
    (h : TM P f N m G R (.inRegion ops rest :: k) (upd e d (.bool ((x : Int) == 0))) s.w) : TM P f N m G R (.inRegion ops (i :: rest) :: k) e s.w := by
  have hb : ((x : Int) == 0) = ((b : Int) == 0) := by
    cases hN : isN b with
    | false => rw [cn_of hN] at hc; rw [hc]
    | true =>
      rw [cn_nan hN] at hc
      subst hc
      have hne : b ≠ 0 := by intro h0; subst h0; revert hN; decide
      have : ((b : Int) == 0) = false := by simp; exact hne
      rw [this]; rfl
  rw [hb] at h
  exact vl ho hd hN hw (by
    have := ibin_run (P := P) (w := s.w) (op := .eql) (t := t) (X := X) (Y := Y) (k := .u64) (a := (b : Int)) (b := 0) rfl
    simp only [execOp, hop, hx, hy]
    rw [Sem.run_bind', this]; rfl) h
theorem ffb {g : FuncId} {fn : Func} {X : Operand} {ts : Array TypeId} {n : Int}
    (ho : ops[i]? = some o) (hd : o.dst = some d) (hN : Nat.blt d N = true) (hw : Region.wanted o (yv e ops) = true) (hop : o.op = .call { callee := .value (.func g), args := #[X], argTypes := ts }) (hg : P.funcs[g]? = some fn) (hb : fn.body = none)
    (hn : (fn.name == "runtime.NumGoroutine") = false) (hnx : Extern.findNext fn = none) (hf : Extern.find fn = some Extern.MathFloatBits.float64frombits) (hx : ev e X = .int .u64 n)
    (h : ∀ v, FL v (cn n.toNat) → TM P f N m G R (.inRegion ops rest :: k) (upd e d v) s.w) : TM P f N m G R (.inRegion ops (i :: rest) :: k) e s.w :=
  vl (v := .float .f64 n.toNat) ho hd hN hw (ext_run hop hg hb hn hnx hf (by rw [show (#[X] : Array Operand).map (ev e) = #[ev e X] from by simp, hx]; rfl)) (h _ ⟨_, rfl, rfl⟩)
end
end Go.Proofs.YtegicanjlefmdaaGreat.V
set_option linter.unusedVariables false
set_option linter.unusedSimpArgs false
namespace Go.Proofs.YtegicanjlefmdaaGreat.V
open Go
def LensG {α β : Type} (K : Kd α) (A : Kd β) (q : Nat) (get : α → β) (set : α → β → α) : Prop :=
 ∀ w es x os, K.ow w es x os → ∃ e1 e2 e3 o1 o2 o3, es = e1 ++ (e2 ++ e3) ∧ e1.length = q ∧ os = o1 ++ (o2 ++ o3) ∧ A.ow w e2 (get x) o2 ∧
  ∀ w' y e2' o2', A.ow w' e2' y o2' → Agr w w' (· ∈ o1 ++ o3) → K.ow w' (e1 ++ (e2' ++ e3)) (set x y) (o1 ++ (o2' ++ o3))
theorem lg_id {α : Type} {K : Kd α} : LensG K K 0 (fun x => x) (fun _ y => y) := fun w es x os h =>
 ⟨[], es, [], [], os, [], by simp, rfl, by simp, h, fun w' y e2' o2' hy _ => by simpa using hy⟩
theorem lg_right {α β γ : Type} {K : Kd α} {B : Kd γ} {A : Kd β} {q : Nat} {get : α → β} {set : α → β → α} (h : LensG K A q get set) : LensG (Kd.pair B K) A (B.n + q) (fun p => get p.2) (fun p y => (p.1, set p.2 y)) := fun w es x os hx => by
 obtain ⟨c1, c2, p1, p2, rfl, rfl, h1, h2⟩ := hx
 obtain ⟨e1, e2, e3, o1, o2, o3, rfl, hq, rfl, he, hs⟩ := h w c2 x.2 p2 h2
 have hl := B.rd_len (B.ow_rd h1)
 exact ⟨c1 ++ e1, e2, e3, p1 ++ o1, o2, o3, by simp, by simp [hl, hq], by simp, he, fun w' y e2' o2' hy ha => ⟨c1, e1 ++ (e2' ++ e3), p1, o1 ++ (o2' ++ o3), by simp, by simp, B.ow_frame h1 fun b hb => ha b (by simp [hb]), hs w' y e2' o2' hy fun b hb => ha b (by simp at hb ⊢; rcases hb with hb | hb <;> simp [hb])⟩⟩
theorem lg_iso {α β γ : Type} {K : Kd α} {A : Kd β} {q : Nat} {get : α → β} {set : α → β → α} (g : γ → α) (get' : γ → β) (set' : γ → β → γ) (h : LensG K A q get set) (hg : ∀ x, get (g x) = get' x) (hs : ∀ x y, set (g x) y = g (set' x y)) : LensG (Kd.iso K g) A q get' set' := fun w es x os hx => by
 obtain ⟨e1, e2, e3, o1, o2, o3, he, hq, ho, h1, h2⟩ := h w es (g x) os hx
 refine ⟨e1, e2, e3, o1, o2, o3, he, hq, ho, by rw [← hg]; exact h1, fun w' y e2' o2' hy ha => ?_⟩
 have := h2 w' y e2' o2' hy ha
 rw [hs] at this
 exact this
section
variable {P : Program} {f : FuncId} {N : Nat} {O ρ : Type} {m : Option O} {G : O → Option ρ} {R : ρ → Ending → World → Prop} {e : Env} {s : St} {k : List Item} {ops : Array Oper} {i d : Nat} {rest : List Nat} {o : Oper}
theorem sog {α β : Type} [Inhabited α] {K : Kd α} {A : Kd β} {q : Nat} {get : α → β} {set : α → β → α} {t te : TypeId} {x y : Operand} {v : Value} {vs : List Value} {xs : List α} {c d' : Nat} {ii : Int} {ad : Addr} {x' : β} (L : LensG K A q get set)
    (hO : OwF (Kd.sl te K) s [v] xs c) (hA : IxA v K.n ii ad) (h0 : 0 ≤ ii) (h1 : ii < xs.length) (hX : OwF A s vs x' d') (hcd : Nat.beq c d' = false) (h10 : Nat.ble 40 d' = true) (hs : (P.info? t).map (·.size) = some A.n)
    (ho : ops[i]? = some o) (hd : o.dst = none) (hw : Region.wanted o (yv e ops) = true) (hop : o.op = .store t x y) (hx : ev e x = .pointer (some (ad.add q))) (hy : (ev e y).cells = vs.toArray)
    (h : ∀ s', Stp [c, d'] s s' → OwF (Kd.sl te K) s' [v] (xs.set ii.toNat (set (at_ xs ii) x')) c → TM P f N m G R (.inRegion ops rest :: k) e s'.w) : TM P f N m G R (.inRegion ops (i :: rest) :: k) e s.w := by
  have hcd' : c ≠ d' := fun h => by subst h; simp at hcd
  obtain ⟨os, ⟨v1, e1, cells, o1, o2, rfl, hR, hE⟩, hnd, hcol⟩ := hO
  obtain rfl : v = v1 := by simpa using e1
  obtain ⟨ox, hxo, hxn, hxc⟩ := hX
  have hvl : vs.length = A.n := A.rd_len (A.ow_rd hxo)
  have hv1 : ∀ u ∈ vs, u.oneCell' = true := A.rd_one (A.ow_rd hxo)
  obtain ⟨Aa, l, cap, hv, rfl⟩ := hA
  have hi : ii.toNat < xs.length := by omega
  obtain ⟨hl, hR2⟩ := hR
  rcases hR2 with ⟨h2, _⟩ | ⟨g, cap', cur, h2, hg, hlc, hcm, hsz, htk, rfl⟩
  · rw [h2] at hv; cases hv
  · rw [h2] at hv
    simp only [Value.slice.injEq, Option.some.injEq] at hv
    obtain ⟨rfl, rfl, rfl⟩ := hv
    obtain ⟨p1, p2, p3, rfl, hK, hset⟩ := hE.at_ ii.toNat hi
    rw [at_eq xs ii hi] at h
    obtain ⟨r1, r2, r3, q1, q2, q3, hes, hq, rfl, hg2, hput⟩ := L _ _ _ _ hK
    have hr2 : r2.length = A.n := A.rd_len (A.ow_rd hg2)
    have hmul : (ii.toNat + 1) * K.n ≤ xs.length * K.n := Nat.mul_le_mul_right _ hi
    have hmul' := hmul
    rw [Nat.add_mul, Nat.one_mul] at hmul'
    have hesl : ((cells.drop (ii.toNat * K.n)).take K.n).length = K.n := K.rd_len (K.ow_rd hK)
    have hq3 : q + A.n + r3.length = K.n := by rw [← hesl, hes]; simp [hq, hr2]; omega
    have hcapm : xs.length * K.n ≤ cap' * K.n := Nat.mul_le_mul_right _ hlc
    have hgl : g < s.w.heap.size := (Array.getElem?_eq_some_iff.1 hg).1
    have hgc := hcol g (by simp)
    have hst := run_storeCells_at P g (ii.toNat * K.n + q) te vs 0 cur s.w hg (by rw [hvl, hsz]; omega) hv1
    simp only [Nat.add_zero] at hst
    have had : ((⟨g, 0, none⟩ : Addr).add (ii.toNat * K.n)).add q = ⟨g, ii.toNat * K.n + q, none⟩ := by rw [Addr.add_add', Addr.add_mid, Nat.zero_add]
    rw [had] at hx
    have hrun : (Instr.storeAt t (.pointer (some ⟨g, ii.toNat * K.n + q, none⟩)) (ev e y)).run P s.w = .ok () (s.w.setRow g (cur.toList.take (ii.toNat * K.n + q) ++ vs ++ cur.toList.drop (ii.toNat * K.n + q + vs.length)).toArray) := by
      unfold Instr.storeAt
      rw [Sem.run_bind']
      simp only [Instr.sureAddr, Sem.run_pure, Result.andThen]
      unfold storeVar
      rw [Sem.run_bind', size_run hs]
      simp only [Result.andThen, hy]
      simp [hvl]
      simp [hvl] at hst
      exact hst
    have hd10 := Nat.le_of_ble_eq_true h10
    have hnd' := List.nodup_cons.1 (show (g :: (p1 ++ (q1 ++ (q2 ++ q3)) ++ p3)).Nodup from hnd)
    refine vd (w' := s.w.setRow g (cur.toList.take (ii.toNat * K.n + q) ++ vs ++ cur.toList.drop (ii.toNat * K.n + q + vs.length)).toArray) ho hd hw (by simp [execOp, hop, hx, hrun, Result.andThen]) (h ⟨_, fun b => if s.g b = d' then c else s.g b⟩ ⟨rfl, rfl, rfl, by simp, fun b hb hl => ?_, fun b hb hm => ?_⟩ ?_)
    · have : ¬ s.g b = d' := by omega
      simp [this]
    · simp only [memb, Bool.or_eq_false_iff] at hm
      have q1 : s.g b ≠ c := fun h => by rw [h] at hm; simp at hm
      have q2 : ¬ s.g b = d' := fun h => by rw [h] at hm; simp at hm
      refine ⟨by simp [q2], setRow_other s.w g b _ fun e => q1 (by rw [e]; exact hgc)⟩
    · have hoth : ∀ b, b ≠ g → (s.w.setRow g (cur.toList.take (ii.toNat * K.n + q) ++ vs ++ cur.toList.drop (ii.toNat * K.n + q + vs.length)).toArray).heap[b]? = s.w.heap[b]? := fun b hb => setRow_other s.w g b _ hb
      have hgx : g ∉ ox := fun h => hcd' (hgc.symm.trans (hxc g h))
      have hA' := A.ow_frame hxo (w' := s.w.setRow g (cur.toList.take (ii.toNat * K.n + q) ++ vs ++ cur.toList.drop (ii.toNat * K.n + q + vs.length)).toArray) fun b hb _ => hoth b fun h => hgx (h ▸ hb)
      have hK' := hput _ x' vs ox hA' fun b hb _ => hoth b fun h => hnd'.1 (by subst h; simp at hb ⊢; rcases hb with hb | hb <;> simp [hb])
      have hnew := hset _ _ _ _ hK' fun b hb _ => hoth b fun h => hnd'.1 (by subst h; simp at hb ⊢; rcases hb with hb | hb <;> simp [hb])
      have hcl : cells.length = xs.length * K.n := hl
      have hcells : cells.take (ii.toNat * K.n) ++ (r1 ++ (vs ++ r3)) ++ cells.drop ((ii.toNat + 1) * K.n) = cells.take (ii.toNat * K.n + q) ++ vs ++ cells.drop (ii.toNat * K.n + q + vs.length) := by
        have e0 : cells = cells.take (ii.toNat * K.n) ++ ((r1 ++ (r2 ++ r3)) ++ cells.drop ((ii.toNat + 1) * K.n)) := by
          rw [← hes, Nat.add_mul, Nat.one_mul, ← List.drop_drop, List.take_append_drop, List.take_append_drop]
        have hlt : (cells.take (ii.toNat * K.n)).length = ii.toNat * K.n := by rw [List.length_take]; omega
        have e5 : cells = (cells.take (ii.toNat * K.n) ++ r1) ++ (r2 ++ (r3 ++ cells.drop ((ii.toNat + 1) * K.n))) := by
          conv => lhs; rw [e0]
          simp
        have e6 : cells = (cells.take (ii.toNat * K.n) ++ (r1 ++ r2)) ++ (r3 ++ cells.drop ((ii.toNat + 1) * K.n)) := by
          conv => lhs; rw [e0]
          simp
        have t1 : cells.take (ii.toNat * K.n + q) = cells.take (ii.toNat * K.n) ++ r1 := by
          conv => lhs; rw [e5]
          exact List.take_left' (by rw [List.length_append, hlt, hq])
        have t2 : cells.drop (ii.toNat * K.n + q + vs.length) = r3 ++ cells.drop ((ii.toNat + 1) * K.n) := by
          conv => lhs; rw [e6]
          exact List.drop_left' (by rw [List.length_append, List.length_append, hlt, hq, hr2, hvl]; omega)
        rw [t1, t2]; simp
      rw [hcells] at hnew
      refine ⟨[g] ++ (p1 ++ (q1 ++ (ox ++ q3)) ++ p3), ⟨v, rfl, _, [g], _, rfl, ⟨?_, .inr ⟨g, cap', _, by rw [List.length_set]; exact h2, setRow_heap s.w g cur _ te _ hg, by simpa using hlc, hcm, ?_, ?_, rfl⟩⟩, hnew⟩, ?_, fun b hb => ?_⟩
      · simp only [List.length_set, List.length_append, List.length_take, List.length_drop, hvl, hl]
        omega
      · simp only [List.size_toArray, List.length_append, List.length_take, List.length_drop, Array.length_toList, hvl, hsz]
        omega
      · rw [List.length_set, ← htk, hvl]
        have e2 : (cur.toList.take (xs.length * K.n)).take (ii.toNat * K.n + q) = cur.toList.take (ii.toNat * K.n + q) := by rw [List.take_take]; congr 1; omega
        have e3 : (cur.toList.take (xs.length * K.n)).drop (ii.toNat * K.n + q + A.n) = (cur.toList.drop (ii.toNat * K.n + q + A.n)).take (xs.length * K.n - (ii.toNat * K.n + q + A.n)) := by rw [List.drop_take]
        rw [e2, e3]
        have hla : (cur.toList.take (ii.toNat * K.n + q) ++ vs).length = ii.toNat * K.n + q + A.n := by
          rw [List.length_append, List.length_take, Array.length_toList, hvl, hsz]; omega
        rw [List.take_append, List.take_of_length_le (by omega), hla]
      · have hdj : ∀ b, b ∈ ox → b ∉ g :: (p1 ++ (q1 ++ (q2 ++ q3)) ++ p3) := fun b hb hb2 => hcd' ((hcol b hb2).symm.trans (hxc b hb))
        rw [List.nodup_iff_count]
        intro b
        have c0 : (g :: (p1 ++ (q1 ++ (q2 ++ q3)) ++ p3)).count b ≤ 1 := List.nodup_iff_count.1 hnd b
        have c1 : ox.count b ≤ 1 := List.nodup_iff_count.1 hxn b
        rw [List.count_cons] at c0
        simp only [List.singleton_append, List.count_cons, List.count_append] at c0 ⊢
        by_cases hb : b ∈ ox
        · have z0 : (g :: (p1 ++ (q1 ++ (q2 ++ q3)) ++ p3)).count b = 0 := List.count_eq_zero.2 (hdj b hb)
          rw [List.count_cons] at z0
          simp only [List.count_append] at z0
          omega
        · have : ox.count b = 0 := List.count_eq_zero.2 hb
          omega
      · dsimp only
        simp only [List.singleton_append, List.mem_cons, List.mem_append] at hb
        rcases hb with rfl | (hb | hb | hb | hb) | hb
        · simp [hgc]
        · simp [hcol b (by simp [hb])]
        · simp [hcol b (by simp [hb])]
        · simp [hxc b hb]
        · simp [hcol b (by simp [hb])]
        · simp [hcol b (by simp [hb])]
theorem lcq {t q : Nat} {dd : TypeDesc} {x : Operand} {ad : Addr} {es es' : List Value} {C : List Nat} (hC : CeF s ad es C) (hu : P.underlying t = some dd) (hs : (P.info? t).map (·.size) = some es'.length)
    (ho : ops[i]? = some o) (hd : o.dst = some d) (hN : Nat.blt d N = true) (hw : Region.wanted o (yv e ops) = true) (hop : o.op = .load t x) (hr : dd.isRow = true) (hx : ev e x = .pointer (some (ad.add q))) (hv : (es.drop q).take es'.length = es')
    (h : TM P f N m G R (.inRegion ops rest :: k) (upd e d (.agg es'.toArray)) s.w) : TM P f N m G R (.inRegion ops (i :: rest) :: k) e s.w :=
  vl ho hd hN hw (by
    have := loadAgg_run (P := P) (w := s.w) (ad := ad.add q) hu hr hs fun j u hj => by
      rw [Addr.add_add']
      refine hC.2 _ _ ?_
      rw [← hv, List.getElem?_take] at hj
      split at hj
      · rw [List.getElem?_drop] at hj; exact hj
      · cases hj
    simp [execOp, hop, hx, this, Result.andThen]) h
theorem lcq_q {t q : Nat} {dd : TypeDesc} {x : Operand} {ad : Addr} {es es' : List Value} {C : List Nat} (hC : CeF s ad es C) (hu : P.underlying t = some dd) (hs : (P.info? t).map (·.size) = some es'.length)
    (ho : ops[i]? = some o) (hd : o.dst = some d) (hN : Nat.blt d N = true) (hw : Region.wanted o (yv e ops) = true) (hop : o.op = .load t x) (hr : dd.isRow = true) (hx : ev e x = .pointer (some (ad.add q))) (hv : (es.drop q).take es'.length = es') : Qv P N ops e s.w i d (.agg es'.toArray) :=
  ⟨o, ho, hd, hN, by simp only [selB, hop], .inl ⟨hw, by
    have := loadAgg_run (P := P) (w := s.w) (ad := ad.add q) hu hr hs fun j u hj => by
      rw [Addr.add_add']
      refine hC.2 _ _ ?_
      rw [← hv, List.getElem?_take] at hj
      split at hj
      · rw [List.getElem?_drop] at hj; exact hj
      · cases hj
    simp [execOp, hop, hx, this, Result.andThen]⟩⟩
def LoF {α : Type} (K : Kd α) (s : St) (cs : List Value) (xs : List α) (c : Nat) : Prop := ∃ os, ElsO K s.w xs cs os ∧ os.Nodup ∧ ∀ b ∈ os, s.g b = c
theorem lo_one {α : Type} {K : Kd α} {cs : List Value} {x : α} {c : Nat} (h : OwF K s cs x c) : LoF K s cs [x] c := by
 obtain ⟨os, ho, hn, hc⟩ := h
 exact ⟨os, ⟨cs, [], os, [], by simp, by simp, ho, rfl, rfl⟩, hn, hc⟩
theorem lo_cons {α : Type} {K : Kd α} {c1 c2 : List Value} {x : α} {xs : List α} {c d' : Nat} (h : OwF K s c1 x c) (h2 : LoF K s c2 xs d') (hcd : Nat.beq c d' = false) (h10 : Nat.ble 40 d' = true) : ∃ s' : St, s.w = s'.w ∧ Stp [d'] s s' ∧ LoF K s' (c1 ++ c2) (x :: xs) c := by
 have hcd' : c ≠ d' := fun h => by subst h; simp at hcd
 have h10' := Nat.le_of_ble_eq_true h10
 obtain ⟨os, ho, hn, hc⟩ := h
 obtain ⟨ps, hp, hpn, hpc⟩ := h2
 refine ⟨⟨s.w, fun b => if s.g b = d' then c else s.g b⟩, rfl, ⟨rfl, rfl, rfl, Nat.le_refl _, fun b hb hl => ?_, fun b hb hm => ⟨?_, rfl⟩⟩, os ++ ps, ⟨c1, c2, os, ps, rfl, rfl, ho, hp⟩, List.nodup_append.2 ⟨hn, hpn, fun a ha b hb hab => ?_⟩, fun b hb => ?_⟩
 · have : ¬ s.g b = d' := by omega
   simp [this]
 · have : ¬ s.g b = d' := fun h => by rw [h] at hm; simp [memb] at hm
   simp [this]
 · subst hab; exact hcd' ((hc a ha).symm.trans (hpc a hb))
 · rcases List.mem_append.1 hb with hb | hb
   · simp [hc b hb]
   · simp [hpc b hb]
theorem ltO {α : Type} {K : Kd α} {t te l : Nat} {z : Value} {parts : Array (Nat × Operand)} {cells : List Value} (xs : List α) (c : Nat) (hu : P.underlying t = some (.slice te)) (hs : (P.info? te).map (·.size) = some K.n) (hz : (P.info? te).bind (·.zero) = some z) (hE : LoF K s cells xs c)
    (ho : ops[i]? = some o) (hd : o.dst = some d) (hN : Nat.blt d N = true) (hw : Region.wanted o (yv e ops) = true) (hop : o.op = .buildSlice t l parts) (hln : Nat.ble (l * K.n) 16777216 = true) (hpos : Nat.ble 1 (l * K.n) = true) (hl : xs.length = l)
    (hzn : z.cells.toList.length = K.n) (hfill : lfill (fun i => some (i * K.n, K.n)) (List.replicate l z.cells.toList).flatten (parts.toList.map fun (i, x) => (i, ev e x)) = some cells)
    (h : ∀ v s', Stp [c] s s' → OwF (Kd.sl te K) s' [v] xs c → TM P f N m G R (.inRegion ops rest :: k) (upd e d v) s'.w) :
    TM P f N m G R (.inRegion ops (i :: rest) :: k) e s.w := by
  obtain ⟨os, hE, hn, hc⟩ := hE
  have hlen := hE.len
  have h2 := Nat.le_of_ble_eq_true hln
  have h3 := Nat.le_of_ble_eq_true hpos
  have hn' : 0 < K.n := Nat.pos_of_ne_zero fun h => by rw [h] at h3; simp at h3
  obtain ⟨s', hs', p, nn, hrow⟩ := new_row (s := s) (te := te) (n := K.n) (l := l) (cells := cells.toArray) c rfl (by simp [hlen, hl]) (by have : l * 1 ≤ l * K.n := Nat.mul_le_mul_left _ hn'; simp only [maxLen]; omega)
  refine vl (w' := s'.w) ho hd hN hw (by rw [hs']; exact lit_run hu hs hz hln hpos hzn hfill hop) (h _ s' ⟨p.os, p.tape, p.output, p.size, p.low, fun b hb _ => p.same b hb rfl⟩ ?_)
  subst hl
  have hlt := hE.lt
  refine ⟨[s.w.heap.size] ++ os, ⟨_, rfl, _, _, os, rfl, by simpa using hrow, hE.frame fun b hb hl => (p.same b hl rfl).2⟩, ?_, fun b hb => ?_⟩
  · refine List.nodup_append.2 ⟨by simp, hn, fun a ha b hb hab => ?_⟩
    simp at ha; subst hab; have := hlt a hb; omega
  · rcases List.mem_append.1 hb with hb | hb
    · simp at hb; subst hb; exact nn.new _ (Nat.le_refl _)
    · rw [nn.old b (hlt b hb), hc b hb]
theorem ltO' {α : Type} {K : Kd α} {t te l : Nat} {z : Value} {parts : Array (Nat × Operand)} {cells : List Value} (xs : List α) (c : Nat) (hu : P.underlying t = some (.slice te)) (hs : (P.info? te).map (·.size) = some K.n) (hz : (P.info? te).bind (·.zero) = some z) (hE : LoF K s cells xs c) (t6 : E9 (ops[i]?) (some o) (o.dst) (some d) (Nat.blt d N) (true) (Region.wanted o (yv e ops)) (true) (o.op) (.buildSlice t l parts) (Nat.ble (l * K.n) 16777216) (true) (Nat.ble 1 (l * K.n)) (true) (xs.length) (l) (z.cells.toList.length) (K.n)) (hfill : lfill (fun i => some (i * K.n, K.n)) (List.replicate l z.cells.toList).flatten (parts.toList.map fun (i, x) => (i, ev e x)) = some cells) (h : ∀ v s', Stp [c] s s' → OwF (Kd.sl te K) s' [v] xs c → TM P f N m G R (.inRegion ops rest :: k) (upd e d v) s'.w) : TM P f N m G R (.inRegion ops (i :: rest) :: k) e s.w := ltO xs c hu hs hz hE (e9_ t6).1 (e9_ t6).2.1 (e9_ t6).2.2.1 (e9_ t6).2.2.2.1 (e9_ t6).2.2.2.2.1 (e9_ t6).2.2.2.2.2.1 (e9_ t6).2.2.2.2.2.2.1 (e9_ t6).2.2.2.2.2.2.2.1 (e9_ t6).2.2.2.2.2.2.2.2 hfill h
end
theorem sp2 {α : Type} {K : Kd α} {s : St} {cs : List Value} {x : α} {p r : List Nat} {c : Nat} (c' : Nat) (h : K.ow s.w cs x p) (hn : (p ++ r).Nodup) (hc : ∀ b ∈ p ++ r, s.g b = c) (h10 : Nat.ble 40 c = true) :
    ∃ s' : St, s.w = s'.w ∧ Stp [c] s s' ∧ OwF K s' cs x c ∧ r.Nodup ∧ ∀ b ∈ r, s'.g b = c' := by
  have h10' := Nat.le_of_ble_eq_true h10
  have hn' := List.nodup_append.1 hn
  refine ⟨⟨s.w, fun b => open Classical in if b ∈ r then c' else s.g b⟩, rfl, ⟨rfl, rfl, rfl, Nat.le_refl _, fun b hb hl => ?_, fun b hb hm => ⟨?_, rfl⟩⟩, ⟨p, h, hn'.1, fun b hb => ?_⟩, hn'.2.1, fun b hb => by simp [hb]⟩
  · have : ¬ b ∈ r := fun h => by have := hc b (by simp [h]); omega
    simp [this]
  · have : ¬ b ∈ r := fun h => by have := hc b (by simp [h]); rw [this] at hm; simp [memb] at hm
    simp [this]
  · have : ¬ b ∈ r := fun h => hn'.2.2 b hb b h rfl
    simp only [this, if_false]
    exact hc b (by simp [hb])
theorem sp1 {α : Type} {K : Kd α} {s : St} {cs : List Value} {x : α} {p : List Nat} {c : Nat} (h : K.ow s.w cs x p) (hn : p.Nodup) (hc : ∀ b ∈ p, s.g b = c) : OwF K s cs x c := ⟨p, h, hn, hc⟩
def nextN (E : List (List Nat)) (L D : List Nat) (cs : List Nat) : Bool :=
 rangeB E.length fun i => memb cs i || memb L i || memb D i || anyB (E.getD i []) (fun j => Nat.blt j E.length && !memb L j && !memb D j)
section
variable {P : Program} {f : FuncId} {N : Nat} {O ρ : Type} {m : Option O} {G : O → Option ρ} {R : ρ → Ending → World → Prop} {k : List Item} {ops : Array Oper}
variable {E : List (List Nat)} {Ds : List (Option Nat)} {Us : List (List Nat)} {L D l : List Nat} {e Ec : Env} {w : World}
theorem zstepN (cs : List (Nat × List (Option Nat))) (tb : Tb ops E Ds Us) (z : Zr E Ds L D l e Ec) (hq : Pq P N ops Ec w L)
    (hb : (useB E Ds Us L && nextN E L D (cs.map (·.1)) && cs.all (fun p => Nat.blt p.1 E.length && !memb L p.1 && !memb D p.1) && !cs.isEmpty) = true)
    (hp : cs.all (fun p => ((pend E E.length L [p.1]).map fun i => Ds.getD i none) == p.2) = true)
    (h : ∀ p ∈ cs, ∀ l' e', Zr E Ds L D (p.1 :: l') (mix p.2 Ec e') Ec → TM P f N m G R (.inRegion ops (p.1 :: l') :: k) (mix p.2 Ec e') w) : TM P f N m G R (.inRegion ops l :: k) e w := by
  simp only [Bool.and_eq_true, Bool.not_eq_true'] at hb
  obtain ⟨⟨⟨hu, hn⟩, hall⟩, hne⟩ := hb
  induction l generalizing e with
  | nil =>
    cases cs with
    | nil => cases hne
    | cons p cs =>
      have hc := List.all_eq_true.1 hall p (by simp)
      simp only [Bool.and_eq_true, Bool.not_eq_true'] at hc
      have hc' : p.1 < E.length := by have := hc.1.1; simp [Nat.blt] at this; omega
      rcases z.ld p.1 hc' (by simp) with h | h
      · exact absurd h (nmemb hc.2)
      · exact absurd h (nmemb hc.1.2)
  | cons i l ih =>
    by_cases hi : i ∈ L
    · exact quiet tb z hq hu hi fun e' z' => ih z'
    · have hD : i ∉ D := fun h => z.done i h (by simp)
      have hlt := z.lt i (by simp)
      have := rangeB_out hn i hlt
      simp only [Bool.or_eq_true] at this
      have hic : i ∈ cs.map (·.1) := by
        rcases this with ((h | h) | h) | h
        · exact memb_iff.1 h
        · exact absurd (memb_iff.1 h) hi
        · exact absurd (memb_iff.1 h) hD
        · obtain ⟨j, hj, hp⟩ := anyB_out h
          simp only [Bool.and_eq_true, Bool.not_eq_true'] at hp
          have hjl : j ∉ i :: l := z.dep [] i l rfl j hj
          have hjlt : j < E.length := by have := hp.1.1; simp [Nat.blt] at this; omega
          rcases z.ld j hjlt hjl with h | h
          · exact absurd h (nmemb hp.2)
          · exact absurd h (nmemb hp.1.2)
      obtain ⟨⟨c, pd⟩, hmem, hcc⟩ := List.mem_map.1 hic
      simp only at hcc
      subst hcc
      have hc := List.all_eq_true.1 hall _ hmem
      simp only [Bool.and_eq_true, Bool.not_eq_true'] at hc
      have hpd := List.all_eq_true.1 hp _ hmem
      simp only [beq_iff_eq] at hpd
      have hcL := hc.1.2
      have he : e = mix pd Ec e := by
        funext t
        unfold mix
        cases hm2 : pd.any (fun x => optB x t) with
        | true => rfl
        | false =>
          refine z.env t fun j hj hjt hm3 => ?_
          have hjp : memb (pend E E.length L [c]) j = false := by
            cases hh : memb (pend E E.length L [c]) j with
            | false => rfl
            | true =>
              have : pd.any (fun x => optB x t) = true := by
                rw [List.any_eq_true]
                refine ⟨some t, ?_, optB_iff.2 rfl⟩
                rw [← hpd]
                exact List.mem_map.2 ⟨j, memb_iff.1 hh, hjt⟩
              rw [this] at hm2; cases hm2
          have hjs : j ∈ scan E E.length [c] := by
            cases hh : memb (scan E E.length [c]) j with
            | true => exact memb_iff.1 hh
            | false => exact absurd (List.mem_filter.2 ⟨hj, by simp [hh]⟩ : j ∈ pend E E.length L [c]) (nmemb hjp)
          have hnd := List.nodup_cons.1 z.nd
          have := scan_out (E := E) (l := l) (fun x hx hlt y hy hm => by
            by_cases hxi : x = c
            · subst hxi; exact z.dep [] x l rfl y hy (List.mem_cons_of_mem _ hm)
            · exact z.dn x hlt (by simp [hxi, hx]) y hy (List.mem_cons_of_mem _ hm)) (fun x hx => z.lt x (List.mem_cons_of_mem _ hx)) E.length [c] (by simpa using hnd.1) j hjs
          rcases List.mem_cons.1 hm3 with rfl | hm3
          · exact nmemb hcL hj
          · exact this hm3
      rw [he] at z ⊢
      exact h _ hmem l e z
theorem zstep2 (c1 c2 : Nat) (pd1 pd2 : List (Option Nat)) (tb : Tb ops E Ds Us) (z : Zr E Ds L D l e Ec) (hq : Pq P N ops Ec w L)
    (hb : (useB E Ds Us L && nextN E L D [c1, c2] && ([(c1, pd1), (c2, pd2)] : List (Nat × List (Option Nat))).all (fun p => Nat.blt p.1 E.length && !memb L p.1 && !memb D p.1) && !([(c1, pd1), (c2, pd2)] : List (Nat × List (Option Nat))).isEmpty) = true)
    (hp : ([(c1, pd1), (c2, pd2)] : List (Nat × List (Option Nat))).all (fun p => ((pend E E.length L [p.1]).map fun i => Ds.getD i none) == p.2) = true)
    (h1 : ∀ l' e', Zr E Ds L D (c1 :: l') (mix pd1 Ec e') Ec → TM P f N m G R (.inRegion ops (c1 :: l') :: k) (mix pd1 Ec e') w)
    (h2 : ∀ l' e', Zr E Ds L D (c2 :: l') (mix pd2 Ec e') Ec → TM P f N m G R (.inRegion ops (c2 :: l') :: k) (mix pd2 Ec e') w) : TM P f N m G R (.inRegion ops l :: k) e w :=
  zstepN [(c1, pd1), (c2, pd2)] tb z hq hb hp fun p hp l' e' => by
    simp only [List.mem_cons, List.not_mem_nil, or_false] at hp
    rcases hp with rfl | rfl
    · exact h1 l' e'
    · exact h2 l' e'
theorem zstep3 (c1 c2 c3 : Nat) (pd1 pd2 pd3 : List (Option Nat)) (tb : Tb ops E Ds Us) (z : Zr E Ds L D l e Ec) (hq : Pq P N ops Ec w L)
    (hb : (useB E Ds Us L && nextN E L D [c1, c2, c3] && ([(c1, pd1), (c2, pd2), (c3, pd3)] : List (Nat × List (Option Nat))).all (fun p => Nat.blt p.1 E.length && !memb L p.1 && !memb D p.1) && !([(c1, pd1), (c2, pd2), (c3, pd3)] : List (Nat × List (Option Nat))).isEmpty) = true)
    (hp : ([(c1, pd1), (c2, pd2), (c3, pd3)] : List (Nat × List (Option Nat))).all (fun p => ((pend E E.length L [p.1]).map fun i => Ds.getD i none) == p.2) = true)
    (h1 : ∀ l' e', Zr E Ds L D (c1 :: l') (mix pd1 Ec e') Ec → TM P f N m G R (.inRegion ops (c1 :: l') :: k) (mix pd1 Ec e') w)
    (h2 : ∀ l' e', Zr E Ds L D (c2 :: l') (mix pd2 Ec e') Ec → TM P f N m G R (.inRegion ops (c2 :: l') :: k) (mix pd2 Ec e') w)
    (h3 : ∀ l' e', Zr E Ds L D (c3 :: l') (mix pd3 Ec e') Ec → TM P f N m G R (.inRegion ops (c3 :: l') :: k) (mix pd3 Ec e') w) : TM P f N m G R (.inRegion ops l :: k) e w :=
  zstepN [(c1, pd1), (c2, pd2), (c3, pd3)] tb z hq hb hp fun p hp l' e' => by
    simp only [List.mem_cons, List.not_mem_nil, or_false] at hp
    rcases hp with rfl | rfl | rfl
    · exact h1 l' e'
    · exact h2 l' e'
    · exact h3 l' e'
end
end Go.Proofs.YtegicanjlefmdaaGreat.V
set_option linter.unusedVariables false
set_option linter.unusedSimpArgs false
namespace Go.Proofs.YtegicanjlefmdaaGreat.V
open Go
def fl_ (ps : List (List Nat × Nat)) : List Nat := (ps.map (·.1)).flatten
structure ZN (F : Nat → Prop) (ps : List (List Nat × Nat)) (s : St) : Prop where
 z : ∀ b, F b ↔ s.g b = 0
 lo : ∀ b, b ∉ fl_ ps → s.g b < 2
 pt : ∀ p ∈ ps, ∀ b ∈ p.1, s.g b = p.2
noncomputable def colN (ps : List (List Nat × Nat)) (b : Nat) : Nat := match ps with
 | [] => 1
 | p :: ps => open Classical in if b ∈ p.1 then p.2 else colN ps b
theorem colN_out {ps : List (List Nat × Nat)} {b : Nat} (h : b ∉ fl_ ps) : colN ps b = 1 := by
 induction ps with
 | nil => rfl
 | cons p ps ih =>
  simp only [fl_, List.map_cons, List.flatten_cons, List.mem_append, not_or] at h
  unfold colN
  rw [if_neg h.1]
  exact ih h.2
theorem colN_in {ps : List (List Nat × Nat)} (hn : (fl_ ps).Nodup) : ∀ p ∈ ps, ∀ b ∈ p.1, colN ps b = p.2 := by
 induction ps with
 | nil => intro p hp; cases hp
 | cons q ps ih =>
  intro p hp b hb
  have hn' := List.nodup_append.1 (show (q.1 ++ fl_ ps).Nodup from hn)
  unfold colN
  rcases List.mem_cons.1 hp with rfl | hp
  · rw [if_pos hb]
  · have : b ∉ q.1 := fun h => hn'.2.2 b h b (List.mem_flatten.2 ⟨p.1, List.mem_map.2 ⟨p, hp, rfl⟩, hb⟩) rfl
    rw [if_neg this]
    exact ih hn'.2.1 p hp b hb
theorem colN_ge {ps : List (List Nat × Nat)} (h : ps.all (fun p => Nat.ble 2 p.2) = true) (b : Nat) : 1 ≤ colN ps b := by
 induction ps with
 | nil => exact Nat.le_refl _
 | cons p ps ih =>
  simp only [List.all_cons, Bool.and_eq_true] at h
  unfold colN
  split
  · have := Nat.le_of_ble_eq_true h.1; omega
  · exact ih h.2
theorem startN (w : World) (F : Nat → Prop) (ps : List (List Nat × Nat)) (hn : (fl_ ps).Nodup) (hF : ∀ b, F b → b ∉ fl_ ps) (hc : ps.all (fun p => Nat.ble 2 p.2) = true) : ∃ s : St, s.w = w ∧ Kp s s ∧ ZN F ps s := by
 refine ⟨⟨w, fun b => open Classical in if F b then 0 else colN ps b⟩, rfl, ⟨rfl, rfl, rfl, Nat.le_refl _, fun b hb _ => rfl, fun _ _ _ => rfl⟩, ⟨fun b => ?_, fun b hb => ?_, fun p hp b hb => ?_⟩⟩
 · have := colN_ge hc b
   dsimp only
   constructor
   · intro h; rw [if_pos h]
   · intro h; split at h
     · assumption
     · omega
 · dsimp only
   split
   · omega
   · rw [colN_out hb]; omega
 · dsimp only
   have hm : b ∈ fl_ ps := List.mem_flatten.2 ⟨p.1, List.mem_map.2 ⟨p, hp, rfl⟩, hb⟩
   rw [if_neg fun h => hF b h hm]
   exact colN_in hn p hp b hb
section
variable {F : Nat → Prop} {ps : List (List Nat × Nat)} {s s' : St}
theorem ZN.rd (z : ZN F ps s) {α : Type} {K : Kd α} {cs : List Value} {x : α} (h : K.rd s.w cs x F) : RdF K s cs x [0] :=
 K.rd_mono h fun b hb _ => by rw [(z.z b).1 hb]; rfl
theorem ZN.ow (z : ZN F ps s) {α : Type} {K : Kd α} {cs : List Value} {x : α} {p : List Nat} {c : Nat} (hm : (p, c) ∈ ps) (hn : p.Nodup) (h : K.ow s.w cs x p) : OwF K s cs x c := ⟨p, h, hn, fun b hb => z.pt _ hm b hb⟩
theorem ZN.ky (z : ZN F ps s) (p : Kp s s') : Ky (fl_ ps) s.w s'.w := ⟨p.os, p.tape, p.output, p.size, fun b hb hn => p.same b hb (z.lo b hn)⟩
def OwC {α : Type} (K : Kd α) (s : St) (cs : List Value) (x : α) (C : List Nat) : Prop := ∃ os, K.ow s.w cs x os ∧ os.Nodup ∧ ∀ b ∈ os, memb C (s.g b) = true
theorem oc_ow {α : Type} {K : Kd α} {cs : List Value} {x : α} {c : Nat} (h : OwF K s cs x c) : OwC K s cs x [c] := by
 obtain ⟨os, ho, hn, hc⟩ := h
 exact ⟨os, ho, hn, fun b hb => by rw [hc b hb]; simp [memb]⟩
theorem ZN.fw (z : ZN F ps s) (p : Kp s s') {α : Type} {K : Kd α} {cs : List Value} {x : α} {C : List Nat} (h : OwC K s' cs x C) (hC : C.all (Nat.ble 2 ·) = true) : FW K (fl_ ps) s.w s'.w cs x := by
 obtain ⟨os, ho, hn, hc⟩ := h
 refine ⟨os, ho, hn, fun b hb => ?_⟩
 by_cases hl : b < s.w.heap.size
 · left
   refine Classical.byContradiction fun hne => ?_
   have h1 := z.lo b hne
   have h2 := p.col b hl (by omega)
   have h3 := hc b hb
   rw [h2] at h3
   have := List.all_eq_true.1 hC _ (memb_iff.1 h3)
   have := Nat.le_of_ble_eq_true this
   omega
 · right; omega
theorem ZN.ky' (z : ZN F ps s) {os : List Nat} (e : fl_ ps = os) (p : Kp s s') : Ky os s.w s'.w := e ▸ z.ky p
theorem ZN.fw' (z : ZN F ps s) {os : List Nat} (e : fl_ ps = os) (p : Kp s s') {α : Type} {K : Kd α} {cs : List Value} {x : α} {C : List Nat} (h : OwC K s' cs x C) (hC : C.all (Nat.ble 2 ·) = true) : FW K os s.w s'.w cs x := e ▸ z.fw p h hC
end
structure Nm (s s' : St) (os : List Nat) (c : Nat) : Prop where
 old : ∀ b, b < s.w.heap.size → b ∉ os → s'.g b = s.g b
 mv : ∀ b ∈ os, s'.g b = c
 new : ∀ b, s.w.heap.size ≤ b → s'.g b = c
theorem nwm {s : St} {p : Nat} {os : List Nat} {w' : World} (c : Nat) (hc : ∀ b ∈ os, s.g b = p) (ky : Ky os s.w w') (h40 : Nat.ble 40 p = true) : ∃ s' : St, s'.w = w' ∧ Stp [p] s s' ∧ Nm s s' os c := by
 have h40' := Nat.le_of_ble_eq_true h40
 refine ⟨⟨w', fun b => open Classical in if b ∈ os then c else if b < s.w.heap.size then s.g b else c⟩, rfl, ⟨ky.os, ky.tape, ky.output, ky.size, fun b hb hl => ?_, fun b hb hm => ?_⟩, ⟨fun b hb hn => by simp [hb, hn], fun b hb => by simp [hb], fun b hb => ?_⟩⟩
 · have : b ∉ os := fun h => by have := hc b h; omega
   simp [this, hb]
 · have : b ∉ os := fun h => by rw [hc b h] at hm; simp [memb] at hm
   exact ⟨by simp [this, hb], ky.same b hb this⟩
 · have : ¬ b < s.w.heap.size := by omega
   simp [this]
theorem FW.m {α : Type} {K : Kd α} {s s' : St} {os : List Nat} {cs : List Value} {x : α} {c : Nat} (h : FW K os s.w s'.w cs x) (n : Nm s s' os c) : OwF K s' cs x c := by
 obtain ⟨os', ho, hn, hf⟩ := h
 refine ⟨os', ho, hn, fun b hb => ?_⟩
 rcases hf b hb with h | h
 · exact n.mv b h
 · exact n.new b h
theorem BlF.rc {s : St} {b : Nat} {t : TypeId} {cs : List Value} {d : Nat} (h : BlF s b t cs d) (c : Nat) (hd : Nat.ble 40 d = true) : ∃ s' : St, s.w = s'.w ∧ Stp [d] s s' ∧ BlF s' b t cs c := by
 have hd' := Nat.le_of_ble_eq_true hd
 refine ⟨⟨s.w, fun b => if s.g b = d then c else s.g b⟩, rfl, ⟨rfl, rfl, rfl, Nat.le_refl _, fun b hb hl => ?_, fun b hb hm => ⟨?_, rfl⟩⟩, h.1, ?_⟩
 · have : ¬ s.g b = d := by omega
   simp [this]
 · have : ¬ s.g b = d := fun h => by rw [h] at hm; simp [memb] at hm
   simp [this]
 · simp [h.2]
section
variable {P : Program} {f : FuncId} {N : Nat} {O ρ : Type} {m : Option O} {G : O → Option ρ} {R : ρ → Ending → World → Prop} {e : Env} {s : St} {k : List Item} {ops : Array Oper} {i d : Nat} {rest : List Nat} {o : Oper}
theorem slO {α : Type} {K : Kd α} {t te : TypeId} {v : Value} {xs : List α} {c : Nat} {x q : Operand} {k2 : IntKind} {b : Int} (hF : OwF (Kd.sl te K) s [v] xs c) (hu : P.underlying t = some (.slice te)) (hs : (P.info? te).map (·.size) = some K.n)
    (ho : ops[i]? = some o) (hd : o.dst = some d) (hN : Nat.blt d N = true) (hw : Region.wanted o (yv e ops) = true) (hop : o.op = .slice t x none (some q) none) (hx : ev e x = v) (hq : ev e q = .int k2 b)
    (h : ∀ v', OwF (Kd.sl te K) s [v'] (xs.take b.toNat) c → TM P f N m G R (.inRegion ops rest :: k) (upd e d v') s.w) : TM P f N (if 0 ≤ b ∧ b ≤ xs.length then m else none) G R (.inRegion ops (i :: rest) :: k) e s.w := by
  refine mg fun hg => ?_
  obtain ⟨b, rfl⟩ := Int.eq_ofNat_of_zero_le hg.1
  have hb : b ≤ xs.length := by have := hg.2; omega
  obtain ⟨os, ⟨v1, e1, cells, o1, o2, rfl, hR, hE⟩, hnd, hcol⟩ := hF
  obtain rfl : v = v1 := by simpa using e1
  obtain ⟨q1, q2, rfl, hE1, hE2⟩ := hE.take b
  simp only [Int.toNat_natCast] at h
  have hlt : (xs.take b).length = b := by simp; omega
  rcases hR.2 with ⟨rfl, h2, rfl⟩ | ⟨g, cap, cur, rfl, hg2, hnc, hcm, hcs, htake, rfl⟩
  · have hb0 : b = 0 := by omega
    subst hb0
    have hcut := cut_run (P := P) (w := s.w) (A := none) (len := 0) (cap := 0) (a := 0) (b := 0) (lo := none) (hi := some (.int k2 ((0 : Nat) : Int))) hu hs (Nat.le_refl _) (Nat.le_refl _) (.inl ⟨rfl, rfl⟩) (.inr ⟨k2, rfl⟩)
    refine vl ho hd hN hw (by simp only [execOp, hop, hx, Option.map_none, Option.map_some, hq]; rw [Sem.run_bind', hcut]; rfl) (h _ ?_)
    exact Ym te K s c
  · have hcut := cut_run (P := P) (w := s.w) (A := some ⟨g, 0, none⟩) (len := xs.length) (cap := cap) (a := 0) (b := b) (lo := none) (hi := some (.int k2 (b : Int))) hu hs (Nat.zero_le _) (by omega) (.inl ⟨rfl, rfl⟩) (.inr ⟨k2, rfl⟩)
    refine vl ho hd hN hw (by simp only [execOp, hop, hx, Option.map_none, Option.map_some, hq]; rw [Sem.run_bind', hcut]; rfl) (h _ ?_)
    have hA : (if cap = 0 then some (⟨g, 0, none⟩ : Addr) else Option.map (fun a : Addr => a.add (0 * K.n)) (some ⟨g, 0, none⟩)) = some ⟨g, 0, none⟩ := by
      split
      · rfl
      · simp [add_zero]
    rw [hA, Nat.sub_zero, Nat.sub_zero]
    have hnd' : ([g] ++ q1).Nodup := by
      have : ([g] ++ (q1 ++ q2)).Nodup := hnd
      rw [← List.append_assoc] at this
      exact (List.nodup_append.1 this).1
    refine ⟨[g] ++ q1, ⟨_, rfl, cells.take (b * K.n), [g], q1, rfl, ?_, hE1⟩, hnd', fun b' hb' => hcol b' (by simp at hb' ⊢; rcases hb' with h | h <;> simp [h])⟩
    have hmul : b * K.n ≤ xs.length * K.n := Nat.mul_le_mul_right _ hb
    rw [hlt]
    refine ⟨by rw [List.length_take, hR.1]; omega, .inr ⟨g, cap, cur, rfl, hg2, by omega, hcm, hcs, ?_, rfl⟩⟩
    rw [← htake, List.take_take]
    congr 1
    omega
end
end Go.Proofs.YtegicanjlefmdaaGreat.V
set_option linter.unusedVariables false
set_option linter.unusedSimpArgs false
namespace Go.Proofs.YtegicanjlefmdaaGreat.V
open Go
abbrev MD := List (Int × Bool)
def mcell (p : Int × Bool) : Value × Value := (.int .i64 p.1, .bool p.2)
def MpF (s : St) (b : Nat) (m : MD) (c : Nat) : Prop := ∃ es clock, s.w.heap[b]? = some (.map es clock) ∧ s.g b = c ∧ es.toList.map (fun e => (e.key, e.val)) = m.map mcell
theorem MpF.st {s s' : St} {S : List Nat} {b c : Nat} {m : MD} (h : MpF s b m c) (p : Stp S s s') (d : memb S c = false) : MpF s' b m c := by
 obtain ⟨es, cl, hb, hc, he⟩ := h
 have hl : b < s.w.heap.size := (Array.getElem?_eq_some_iff.1 hb).1
 have := p.same b hl (by rw [hc]; exact d)
 exact ⟨es, cl, by rw [this.2]; exact hb, by rw [this.1]; exact hc, he⟩
section
variable {P : Program} {f : FuncId} {N : Nat} {O ρ : Type} {m : Option O} {G : O → Option ρ} {R : ρ → Ending → World → Prop} {e : Env} {s : St} {k : List Item} {ops : Array Oper} {i d : Nat} {rest : List Nat} {o : Oper}
end
end Go.Proofs.YtegicanjlefmdaaGreat.V
set_option linter.unusedVariables false
set_option linter.unusedSimpArgs false
namespace Go.Proofs.YtegicanjlefmdaaGreat.V
open Go
theorem Ky.tr {M : List Nat} {w w' w'' : World} (h : Ky M w w') (h2 : Ky [] w' w'') : Ky M w w'' :=
 ⟨h2.os.trans h.os, h2.tape.trans h.tape, h2.output.trans h.output, Nat.le_trans h.size h2.size, fun b hb hn => by rw [h2.same b (Nat.lt_of_lt_of_le hb h.size) (by simp), h.same b hb hn]⟩
theorem RdF.kyo {α : Type} {K : Kd α} {s : St} {cs : List Value} {x : α} {C os : List Nat} {w' : World} {p : Nat} (h : RdF K s cs x C) (hc : ∀ b ∈ os, s.g b = p) (k : Ky os s.w w') (d : memb C p = false) : K.rd w' cs x (fun _ => True) :=
 K.rd_mono (K.rd_frame h fun b hb hl => k.same b hl fun hm => by rw [hc b hm] at hb; rw [hb] at d; cases d) fun _ _ _ => trivial
theorem BlF.kyo {s : St} {b c : Nat} {t : TypeId} {cs : List Value} {os : List Nat} {w' : World} {p : Nat} (h : BlF s b t cs c) (hc : ∀ b ∈ os, s.g b = p) (k : Ky os s.w w') (d : Nat.beq p c = false) : BlW w' b t cs := by
 have hl : b < s.w.heap.size := (Array.getElem?_eq_some_iff.1 h.1).1
 have := k.same b hl fun hm => by
  have h1 := hc b hm
  rw [h.2] at h1
  rw [h1, Nat.beq_refl] at d; cases d
 exact this.trans h.1
theorem kyn {s0 s : St} {os : List Nat} {w' : World} {p : Nat} (ky0 : Ky [] s0.w s.w) (kp : Kp s0 s) (hz : ∀ b, s0.g b < 40) (hc : ∀ b ∈ os, s.g b = p) (h40 : Nat.ble 40 p = true) (k : Ky os s.w w') : Ky [] s0.w w' := by
 have h40' := Nat.le_of_ble_eq_true h40
 refine ⟨k.os.trans ky0.os, k.tape.trans ky0.tape, k.output.trans ky0.output, Nat.le_trans ky0.size k.size, fun b hb hn => ?_⟩
 rw [k.same b (Nat.lt_of_lt_of_le hb ky0.size) fun hm => ?_, ky0.same b hb hn]
 have h1 := kp.col b hb (hz b)
 rw [hc b hm] at h1
 have := hz b
 omega
structure Pk (β : Type) where
 cs : List Value
 x : β
instance {β : Type} [Inhabited β] : Inhabited (Pk β) := ⟨⟨[], default⟩⟩
def Kd.pk (β : Type) (n : Nat) : Kd (Pk β) where
 n := n
 rd := fun _ cs p _ => cs = p.cs ∧ cs.length = n ∧ ∀ v ∈ cs, v.oneCell' = true
 ow := fun _ cs p os => (cs = p.cs ∧ cs.length = n ∧ ∀ v ∈ cs, v.oneCell' = true) ∧ os = []
 rd_len := fun h => h.2.1
 rd_one := fun h => h.2.2
 rd_frame := fun h _ => h
 rd_mono := fun h _ => h
 ow_frame := fun h _ => h
 ow_lt := fun h b hb => by rw [h.2] at hb; cases hb
 ow_rd := fun h => h.1
theorem fl_pk {β : Type} {n : Nat} : FlK (Kd.pk β n) := fun _ _ _ _ h _ => ⟨h, rfl⟩
theorem pk_of {β : Type} {K : Kd β} {w : World} : ∀ {xs : List β} {cells : List Value} {os : List Nat}, ElsO K w xs cells os →
    ∃ ps : List (Pk β × List Nat), ps.map (fun p => p.1.x) = xs ∧ (ps.map (·.2)).flatten = os ∧ (ps.map fun p => p.1.cs).flatten = cells ∧ ∀ p ∈ ps, K.ow w p.1.cs p.1.x p.2
  | [], cells, os, h => by obtain ⟨rfl, rfl⟩ := h; exact ⟨[], rfl, rfl, rfl, fun p hp => by cases hp⟩
  | x :: xs, cells, os, ⟨c1, c2, o1, o2, e1, e2, h1, h2⟩ => by
    obtain ⟨ps, hx, ho, hc, hp⟩ := pk_of h2
    refine ⟨(⟨c1, x⟩, o1) :: ps, by simp [hx], by simp [ho, e2], by simp [hc, e1], fun p hp' => ?_⟩
    rcases List.mem_cons.1 hp' with rfl | hp'
    · exact h1
    · exact hp p hp'
theorem pk_els {β : Type} {K : Kd β} {w : World} (w' : World) : ∀ (ps : List (Pk β × List Nat)), (∀ p ∈ ps, K.ow w p.1.cs p.1.x p.2) → ElsO (Kd.pk β K.n) w' (ps.map (·.1)) (ps.map fun p => p.1.cs).flatten []
 | [], _ => ⟨rfl, rfl⟩
 | p :: ps, h => ⟨p.1.cs, _, [], [], rfl, rfl, ⟨⟨rfl, K.rd_len (K.ow_rd (h p (by simp))), K.rd_one (K.ow_rd (h p (by simp)))⟩, rfl⟩, pk_els w' ps fun q hq => h q (by simp [hq])⟩
theorem pk_cells {β : Type} {n : Nat} {w : World} : ∀ {ps : List (Pk β)} {cells : List Value} {os : List Nat}, ElsO (Kd.pk β n) w ps cells os → cells = (ps.map (·.cs)).flatten ∧ os = []
 | [], cells, os, h => by obtain ⟨rfl, rfl⟩ := h; exact ⟨rfl, rfl⟩
 | p :: ps, cells, os, ⟨c1, c2, o1, o2, e1, e2, ⟨⟨h1, _⟩, h1'⟩, h2⟩ => by
  obtain ⟨hc, ho⟩ := pk_cells h2
  subst e1; subst e2; subst h1'; subst ho; subst hc; subst h1
  exact ⟨rfl, rfl⟩
theorem pk_back {β : Type} {K : Kd β} {w : World} : ∀ (ps : List (Pk β × List Nat)), (∀ p ∈ ps, K.ow w p.1.cs p.1.x p.2) → ElsO K w (ps.map fun p => p.1.x) (ps.map fun p => p.1.cs).flatten (ps.map (·.2)).flatten
 | [], _ => ⟨rfl, rfl⟩
 | p :: ps, h => ⟨p.1.cs, _, p.2, _, rfl, rfl, h p (by simp), pk_back ps fun q hq => h q (by simp [hq])⟩
theorem flat_sub {β : Type} (g : β → List Nat) {l m : List β} (h : l.Sublist m) : ((l.map g).flatten).Sublist ((m.map g).flatten) := by
 induction h with
 | slnil => exact .slnil
 | cons a h ih => simpa using ih.trans (List.sublist_append_right _ _)
 | cons_cons a h ih => simpa using (List.Sublist.refl (g a)).append ih
def delF {β : Type} : List β → (β → Option Bool) → Option (List β)
 | [], _ => some []
 | x :: xs, d => (d x).bind fun b => (delF xs d).map fun l => if b = true then l else x :: l
theorem delF_out {β : Type} {d : β → Option Bool} : ∀ {xs r : List β}, delF xs d = some r → (∀ x ∈ xs, ∃ b, d x = some b) ∧ r = xs.filter fun x => !((d x).getD false)
 | [], r, h => by cases h; exact ⟨fun x hx => (List.not_mem_nil hx).elim, rfl⟩
 | x :: xs, r, h => by
  unfold delF at h
  cases hd : d x with
  | none => rw [hd] at h; cases h
  | some b =>
   rw [hd, Option.bind_some] at h
   cases hr : delF xs d with
   | none => rw [hr] at h; cases h
   | some l =>
    rw [hr] at h
    obtain ⟨h1, h2⟩ := delF_out hr
    simp only [Option.map_some, Option.some.injEq] at h
    refine ⟨fun y hy => ?_, ?_⟩
    · rcases List.mem_cons.1 hy with rfl | hy
      · exact ⟨b, hd⟩
      · exact h1 y hy
    · rw [← h, List.filter_cons, hd, ← h2]
      cases b <;> simp
theorem delF_eq {β : Type} (d : β → Option Bool) (g : β → Bool) : ∀ (xs : List β), (∀ x ∈ xs, d x = some (g x)) → delF xs d = some (xs.filter fun x => !g x)
 | [], _ => rfl
 | x :: xs, h => by
  unfold delF
  rw [h x (by simp), delF_eq d g xs fun y hy => h y (by simp [hy])]
  simp only [Option.bind_some, Option.map_some, List.filter_cons]
  cases g x <;> simp
end Go.Proofs.YtegicanjlefmdaaGreat.V
set_option linter.unusedVariables false
set_option linter.unusedSimpArgs false
namespace Go.Proofs.YtegicanjlefmdaaGreat.V
open Go
def bcmpS (xs ys : List Int) : Int := Extern.BytealgCompare.cmp (str xs) (str ys)
def bcmp : List Int → List Int → Int
 | [], [] => 0
 | [], _ :: _ => -1
 | _ :: _, [] => 1
 | x :: xs, y :: ys => bif x == y then bcmp xs ys else bif decide (x < y) then -1 else 1
section
variable {P : Program} {f : FuncId} {N : Nat} {O ρ : Type} {m : Option O} {G : O → Option ρ} {R : ρ → Ending → World → Prop} {e : Env} {s : St} {k : List Item} {ops : Array Oper} {i d : Nat} {rest : List Nat} {o : Oper}
theorem add1 (a : Addr) (j : Nat) : (a.add 1).add j = a.add (j + 1) := by
 rw [Addr.add_add', Nat.add_comm]
theorem load_bytes {w : World} : ∀ (xs : List Int) (a : Addr) (acc : ByteArray), (∀ j u, (xs.map (Value.int .u8))[j]? = some u → w.cell? (a.add j) = some u) →
    (Extern.Bytes.loadBytes a xs.length acc).run P w = .ok (xs.foldl (fun r n => r.push (UInt8.ofNat n.toNat)) acc) w
  | [], a, acc, _ => by simp [Extern.Bytes.loadBytes]
  | x :: xs, a, acc, h => by
    have h0 := h 0 (.int .u8 x) rfl
    rw [V.add_zero] at h0
    have hl : (load a).run P w = .ok (.int .u8 x) w := by simp [load, Sem.run, h0]
    simp only [List.length_cons]
    unfold Extern.Bytes.loadBytes
    rw [Sem.run_bind', hl]
    simp only [Result.andThen, List.foldl_cons]
    exact load_bytes xs (a.add 1) _ fun j u hj => by rw [add1]; exact h (j + 1) u hj
theorem bytes_run {tg : TypeId} {v : Value} {xs : List Int} {C : List Nat} (hF : RdF (Kd.sl tg (Kd.int .u8)) s [v] xs C) : (Extern.Bytes.bytesOf v).run P s.w = .ok (str xs) s.w := by
 obtain ⟨v1, e1, A, cap, cells, rfl, hcap, hels, hc⟩ := hF
 obtain rfl : v = .slice A xs.length cap := by simpa using e1
 have hcells : cells = xs.map (.int .u8) := els_u8 hels
 cases A with
 | none =>
  have : xs = [] := by
   cases xs with
   | nil => rfl
   | cons x xs =>
    obtain ⟨ad, h, _⟩ := hc (by rw [hcells]; simp)
    cases h
  subst this
  simp [Extern.Bytes.bytesOf, str]
 | some a =>
  refine load_bytes xs a _ ?_
  rw [← hcells]
  by_cases hne : cells = []
  · rw [hne]; intro j u h; cases h
  · obtain ⟨ad, h, _, hcell⟩ := hc hne
    obtain rfl := Option.some.inj h
    exact hcell
theorem bcx {g : FuncId} {fn : Func} {X Y : Operand} {ts : Array TypeId} {t1 t2 : TypeId} {v u : Value} {xs ys : List Int} {C D : List Nat} (hX : RdF (Kd.sl t1 (Kd.int .u8)) s [v] xs C) (hY : RdF (Kd.sl t2 (Kd.int .u8)) s [u] ys D)
    (ho : ops[i]? = some o) (hd : o.dst = some d) (hN : Nat.blt d N = true) (hw : Region.wanted o (yv e ops) = true) (hop : o.op = .call { callee := .value (.func g), args := #[X, Y], argTypes := ts }) (hg : P.funcs[g]? = some fn) (hb : fn.body = none)
    (hn : (fn.name == "runtime.NumGoroutine") = false) (hnx : Extern.findNext fn = none) (hf : Extern.find fn = some Extern.BytealgCompare.compare) (hx : ev e X = v) (hy : ev e Y = u)
    (h : TM P f N m G R (.inRegion ops rest :: k) (upd e d (.int .i64 (bcmpS xs ys))) s.w) : TM P f N m G R (.inRegion ops (i :: rest) :: k) e s.w :=
  vl ho hd hN hw (ext_run hop hg hb hn hnx hf (by
    rw [show (#[X, Y] : Array Operand).map (ev e) = #[ev e X, ev e Y] from by simp, hx, hy]
    show Sem.run P (do let a ← Extern.Bytes.bytesOf v; let b ← Extern.Bytes.bytesOf u; pure (goInt (Extern.BytealgCompare.cmp a b))) s.w = _
    rw [Sem.run_bind', bytes_run hX]
    simp only [Result.andThen]
    rw [Sem.run_bind', bytes_run hY]
    rfl)) h
end
end Go.Proofs.YtegicanjlefmdaaGreat.V
set_option linter.unusedVariables false
set_option linter.unusedSimpArgs false
namespace Go.Proofs.YtegicanjlefmdaaGreat.V
open Go
def HoL {α β : Type} [Inhabited α] (te : TypeId) (K : Kd α) (A : Kd β) (q : Nat) (set : α → β → α) (s : St) (v : Value) (xs : List α) (ii : Int) (c : Nat) : Prop :=
 ∃ g cap cur c1 u0 c3 p1 p3, v = .slice (some ⟨g, 0, none⟩) xs.length cap ∧ s.w.heap[g]? = some (.cells cur te (0, 0)) ∧ xs.length ≤ cap ∧ cap ≤ maxLen ∧ cur.size = cap * K.n ∧
  cur.toList.take (xs.length * K.n) = c1 ++ (u0 ++ c3) ∧ u0.length = A.n ∧ c1.length = ii.toNat * K.n + q ∧ (g :: (p1 ++ p3)).Nodup ∧ (∀ b ∈ g :: (p1 ++ p3), s.g b = c ∧ b < s.w.heap.size) ∧ ii.toNat < xs.length ∧
  ∀ w' e2 y o2, A.ow w' e2 y o2 → Agr s.w w' (· ∈ p1 ++ p3) → ElsO K w' (xs.set ii.toNat (set (at_ xs ii) y)) (c1 ++ (e2 ++ c3)) (p1 ++ (o2 ++ p3))
theorem HoL.st {α β : Type} [Inhabited α] {te : TypeId} {K : Kd α} {A : Kd β} {q : Nat} {set : α → β → α} {s s' : St} {v : Value} {xs : List α} {ii : Int} {c : Nat} {S : List Nat} (h : HoL te K A q set s v xs ii c) (p : Stp S s s') (d : memb S c = false) : HoL te K A q set s' v xs ii c := by
 obtain ⟨g, cap, cur, c1, u0, c3, p1, p3, e1, e2, e3, e4, e5, e6, e7, e8, e9, e10, e11, e12⟩ := h
 have hs : ∀ b ∈ g :: (p1 ++ p3), s'.g b = s.g b ∧ s'.w.heap[b]? = s.w.heap[b]? := fun b hb => p.same b (e10 b hb).2 (by rw [(e10 b hb).1]; exact d)
 refine ⟨g, cap, cur, c1, u0, c3, p1, p3, e1, by rw [(hs g (by simp)).2]; exact e2, e3, e4, e5, e6, e7, e8, e9, fun b hb => ⟨by rw [(hs b hb).1]; exact (e10 b hb).1, Nat.lt_of_lt_of_le (e10 b hb).2 p.size⟩, e11, fun w' e2 y o2 hy ha => e12 w' e2 y o2 hy fun b hb hl => ?_⟩
 rw [ha b hb (Nat.lt_of_lt_of_le hl p.size), (hs b (by simp at hb ⊢; rcases hb with hb | hb <;> simp [hb])).2]
theorem take_ {α β : Type} [Inhabited α] {K : Kd α} {A : Kd β} {q te : Nat} {get : α → β} {set : α → β → α} {s : St} {v u : Value} {xs : List α} {c : Nat} {ii : Int} {ad : Addr} {es : List Value} {C : List Nat} (a : Nat) (L : LensG K A q get set)
    (hO : OwF (Kd.sl te K) s [v] xs c) (h0 : 0 ≤ ii) (h1 : ii < xs.length) (hA : IxA v K.n ii ad) (hC : CeF s ad es C) (hu : es[q]? = some u) (hqn : Nat.blt q K.n = true) (hn : A.n = 1) (h40 : Nat.ble 40 c = true) :
    ∃ s' : St, s.w = s'.w ∧ Stp [c] s s' ∧ OwF A s' [u] (get (at_ xs ii)) a ∧ HoL te K A q set s' v xs ii c ∧ CeF s' ad es C := by
  have h40' := Nat.le_of_ble_eq_true h40
  obtain ⟨os, ⟨v1, e1, cells, o1, o2, rfl, hR, hE⟩, hnd, hcol⟩ := hO
  obtain rfl : v = v1 := by simpa using e1
  obtain ⟨Aa, l, cap, hv, rfl⟩ := hA
  have hi : ii.toNat < xs.length := by omega
  have hq : q < K.n := by simp [Nat.blt] at hqn; omega
  obtain ⟨hl, hR2⟩ := hR
  rcases hR2 with ⟨h2, _⟩ | ⟨g, cap', cur, h2, hg, hlc, hcm, hsz, htk, rfl⟩
  · rw [h2] at hv; cases hv
  · rw [h2] at hv
    simp only [Value.slice.injEq, Option.some.injEq] at hv
    obtain ⟨rfl, rfl, rfl⟩ := hv
    obtain ⟨p1, p2, p3, rfl, hK, hset⟩ := hE.at_ ii.toNat hi
    rw [at_eq xs ii hi]
    obtain ⟨r1, r2, r3, q1, q2, q3, hes, hq1, rfl, hg2, hput⟩ := L _ _ _ _ hK
    have hr2 : r2.length = A.n := A.rd_len (A.ow_rd hg2)
    have hmul : (ii.toNat + 1) * K.n ≤ xs.length * K.n := Nat.mul_le_mul_right _ hi
    rw [Nat.add_mul, Nat.one_mul] at hmul
    have hcl : cells.length = xs.length * K.n := hl
    have hlt : (cells.take (ii.toNat * K.n)).length = ii.toNat * K.n := by rw [List.length_take]; omega
    have e0 : cells = (cells.take (ii.toNat * K.n) ++ r1) ++ (r2 ++ (r3 ++ cells.drop ((ii.toNat + 1) * K.n))) := by
      have : cells = cells.take (ii.toNat * K.n) ++ ((r1 ++ (r2 ++ r3)) ++ cells.drop ((ii.toNat + 1) * K.n)) := by
        rw [← hes, Nat.add_mul, Nat.one_mul, ← List.drop_drop, List.take_append_drop, List.take_append_drop]
      conv => lhs; rw [this]
      simp
    have hc1l : (cells.take (ii.toNat * K.n) ++ r1).length = ii.toNat * K.n + q := by rw [List.length_append, hlt, hq1]
    -- the cell is the one that was loaded
    have hru : r2 = [u] := by
      obtain ⟨u', rfl⟩ := List.length_eq_one_iff.1 (hr2.trans hn)
      have hcell := hC.2 q u hu
      rw [Addr.add_add', Addr.add_mid, Nat.zero_add] at hcell
      have hc2 : cells[ii.toNat * K.n + q]? = some u' := by
        rw [e0, List.getElem?_append_right (by omega), hc1l, Nat.sub_self]; rfl
      rw [← htk, List.getElem?_take] at hc2
      split at hc2
      · have : s.w.cell? ⟨g, ii.toNat * K.n + q, none⟩ = cur[ii.toNat * K.n + q]? := by simp [World.cell?, hg]
        rw [this, ← Array.getElem?_toList] at hcell
        rw [hcell] at hc2
        rw [Option.some.inj hc2]
      · cases hc2
    subst hru
    have hcnt : ∀ b, (g :: (p1 ++ (q1 ++ (q2 ++ q3)) ++ p3)).count b ≤ 1 := fun b => List.nodup_iff_count.1 hnd b
    have hgl : g < s.w.heap.size := (Array.getElem?_eq_some_iff.1 hg).1
    have hgq : g ∉ q2 := fun h => by
      have := hcnt g
      rw [List.count_cons_self] at this
      have h3 : 1 ≤ q2.count g := List.count_pos_iff.2 h
      simp only [List.count_append] at this
      omega
    have hout : ∀ b, b ∈ g :: ((p1 ++ q1) ++ (q3 ++ p3)) → b ∉ q2 := fun b hb hb2 => by
      have h3 : 1 ≤ q2.count b := List.count_pos_iff.2 hb2
      have h4 := hcnt b
      have h5 : 1 ≤ (g :: ((p1 ++ q1) ++ (q3 ++ p3))).count b := List.count_pos_iff.2 hb
      rw [List.count_cons] at h4 h5
      simp only [List.count_append] at h4 h5
      omega
    refine ⟨⟨s.w, fun b => open Classical in if b ∈ q2 then a else s.g b⟩, rfl, ⟨rfl, rfl, rfl, Nat.le_refl _, fun b hb hlo => ?_, fun b hb hm => ⟨?_, rfl⟩⟩, ⟨q2, hg2, ?_, fun b hb => by simp [hb]⟩, ?_, ?_⟩
    · have : b ∉ q2 := fun h => by
        have := hcol b (by simp [h])
        omega
      simp [this]
    · have : b ∉ q2 := fun h => by
        have := hcol b (by simp [h])
        rw [this] at hm; simp [memb] at hm
      simp [this]
    · rw [List.nodup_iff_count]
      intro b
      have h4 := hcnt b
      rw [List.count_cons] at h4
      simp only [List.count_append] at h4
      omega
    · refine ⟨g, cap', cur, _, [u], _, p1 ++ q1, q3 ++ p3, h2, hg, hlc, hcm, hsz, by rw [htk]; exact e0, hr2, hc1l, ?_, fun b hb => ⟨?_, ?_⟩, hi, fun w' e2 y o2 hy ha => ?_⟩
      · rw [List.nodup_iff_count]
        intro b
        have h4 := hcnt b
        rw [List.count_cons] at h4 ⊢
        simp only [List.count_append] at h4 ⊢
        omega
      · have := hout b hb
        simp only [this, if_false]
        refine hcol b ?_
        simp at hb ⊢
        rcases hb with rfl | hb | hb | hb | hb <;> simp [*]
      · simp at hb
        rcases hb with rfl | hb | hb | hb | hb
        · exact hgl
        · exact hE.lt b (by simp [hb])
        · exact hE.lt b (by simp [hb])
        · exact hE.lt b (by simp [hb])
        · exact hE.lt b (by simp [hb])
      · have h6 := hput w' y e2 o2 hy fun b hb hl => ha b (by simp at hb ⊢; rcases hb with hb | hb <;> simp [hb]) hl
        have h7 := hset w' _ _ _ h6 fun b hb hl => ha b (by simp at hb ⊢; rcases hb with hb | hb <;> simp [hb]) hl
        rw [← at_eq xs ii hi] at h7
        simpa using h7
    · refine ⟨?_, hC.2⟩
      have hb := hC.1
      rw [add_block] at hb ⊢
      have : (⟨g, 0, none⟩ : Addr).block ∉ q2 := hgq
      simp only [this, if_false]
      exact hb
section
variable {P : Program} {f : FuncId} {N : Nat} {O ρ : Type} {m : Option O} {G : O → Option ρ} {R : ρ → Ending → World → Prop} {e : Env} {s : St} {k : List Item} {ops : Array Oper} {i d : Nat} {rest : List Nat} {o : Oper}
theorem soh {α β : Type} [Inhabited α] {K : Kd α} {A : Kd β} {q : Nat} {set : α → β → α} {t te : TypeId} {x y : Operand} {v : Value} {vs : List Value} {xs : List α} {c d' : Nat} {ii : Int} {ad : Addr} {x' : β}
    (hH : HoL te K A q set s v xs ii c) (hA : IxA v K.n ii ad) (hX : OwF A s vs x' d') (hcd : Nat.beq c d' = false) (h10 : Nat.ble 40 d' = true) (hs : (P.info? t).map (·.size) = some A.n)
    (ho : ops[i]? = some o) (hd : o.dst = none) (hw : Region.wanted o (yv e ops) = true) (hop : o.op = .store t x y) (hx : ev e x = .pointer (some (ad.add q))) (hy : (ev e y).cells = vs.toArray)
    (h : ∀ s', Stp [c, d'] s s' → OwF (Kd.sl te K) s' [v] (xs.set ii.toNat (set (at_ xs ii) x')) c → TM P f N m G R (.inRegion ops rest :: k) e s'.w) : TM P f N m G R (.inRegion ops (i :: rest) :: k) e s.w := by
  have hcd' : c ≠ d' := fun h => by subst h; simp at hcd
  have hd10 := Nat.le_of_ble_eq_true h10
  obtain ⟨ox, hxo, hxn, hxc⟩ := hX
  have hvl : vs.length = A.n := A.rd_len (A.ow_rd hxo)
  have hv1 : ∀ u ∈ vs, u.oneCell' = true := A.rd_one (A.ow_rd hxo)
  obtain ⟨g, cap, cur, c1, u0, c3, p1, p3, rfl, hg, hlc, hcm, hsz, htk, hu0, hc1, hnd, hcol, hi, hmake⟩ := hH
  obtain ⟨Aa, l, cap2, hv, rfl⟩ := hA
  simp only [Value.slice.injEq, Option.some.injEq] at hv
  obtain ⟨rfl, rfl, rfl⟩ := hv
  have hcapm : xs.length * K.n ≤ cap * K.n := Nat.mul_le_mul_right _ hlc
  have hlen := congrArg List.length htk
  simp only [List.length_take, Array.length_toList, List.length_append] at hlen
  have hgc := (hcol g (by simp)).1
  have hgl := (hcol g (by simp)).2
  have hst := run_storeCells_at P g (ii.toNat * K.n + q) te vs 0 cur s.w hg (by rw [hvl, hsz]; omega) hv1
  simp only [Nat.add_zero] at hst
  have had : ((⟨g, 0, none⟩ : Addr).add (ii.toNat * K.n)).add q = ⟨g, ii.toNat * K.n + q, none⟩ := by rw [Addr.add_add', Addr.add_mid, Nat.zero_add]
  rw [had] at hx
  have hrun : (Instr.storeAt t (.pointer (some ⟨g, ii.toNat * K.n + q, none⟩)) (ev e y)).run P s.w = .ok () (s.w.setRow g (cur.toList.take (ii.toNat * K.n + q) ++ vs ++ cur.toList.drop (ii.toNat * K.n + q + vs.length)).toArray) := by
    unfold Instr.storeAt
    rw [Sem.run_bind']
    simp only [Instr.sureAddr, Sem.run_pure, Result.andThen]
    unfold storeVar
    rw [Sem.run_bind', size_run hs]
    simp only [Result.andThen, hy]
    simp [hvl]
    simp [hvl] at hst
    exact hst
  have hndc := List.nodup_cons.1 hnd
  refine vd (w' := s.w.setRow g (cur.toList.take (ii.toNat * K.n + q) ++ vs ++ cur.toList.drop (ii.toNat * K.n + q + vs.length)).toArray) ho hd hw (by simp [execOp, hop, hx, hrun, Result.andThen]) (h ⟨_, fun b => if s.g b = d' then c else s.g b⟩ ⟨rfl, rfl, rfl, by simp, fun b hb hl => ?_, fun b hb hm => ?_⟩ ?_)
  · have : ¬ s.g b = d' := by omega
    simp [this]
  · simp only [memb, Bool.or_eq_false_iff] at hm
    have q1 : s.g b ≠ c := fun h => by rw [h] at hm; simp at hm
    have q2 : ¬ s.g b = d' := fun h => by rw [h] at hm; simp at hm
    refine ⟨by simp [q2], setRow_other s.w g b _ fun e => q1 (by rw [e]; exact hgc)⟩
  · have hoth : ∀ b, b ≠ g → (s.w.setRow g (cur.toList.take (ii.toNat * K.n + q) ++ vs ++ cur.toList.drop (ii.toNat * K.n + q + vs.length)).toArray).heap[b]? = s.w.heap[b]? := fun b hb => setRow_other s.w g b _ hb
    have hgx : g ∉ ox := fun h => hcd' (hgc.symm.trans (hxc g h))
    have hA' := A.ow_frame hxo (w' := s.w.setRow g (cur.toList.take (ii.toNat * K.n + q) ++ vs ++ cur.toList.drop (ii.toNat * K.n + q + vs.length)).toArray) fun b hb _ => hoth b fun h => hgx (h ▸ hb)
    have hnew := hmake _ vs x' ox hA' fun b hb _ => hoth b fun h => hndc.1 (by subst h; exact hb)
    have hpre : cur.toList.take (ii.toNat * K.n + q) = c1 := by
      have := congrArg (List.take (ii.toNat * K.n + q)) htk
      rw [List.take_take, Nat.min_eq_left (by omega), ← hc1, List.take_left' rfl] at this
      rw [← hc1]; exact this
    have hsuf : (cur.toList.take (xs.length * K.n)).drop (ii.toNat * K.n + q + vs.length) = c3 := by
      rw [htk, ← List.append_assoc]
      exact List.drop_left' (by rw [List.length_append, hc1, hu0, hvl])
    refine ⟨[g] ++ (p1 ++ (ox ++ p3)), ⟨_, rfl, _, [g], _, rfl, ⟨?_, .inr ⟨g, cap, _, by rw [List.length_set], setRow_heap s.w g cur _ te _ hg, by simpa using hlc, hcm, ?_, ?_, rfl⟩⟩, hnew⟩, ?_, fun b hb => ?_⟩
    · simp only [List.length_set, List.length_append, hvl]
      omega
    · simp only [List.size_toArray, List.length_append, List.length_take, List.length_drop, Array.length_toList, hvl, hsz]
      omega
    · rw [List.length_set]
      have hla : (cur.toList.take (ii.toNat * K.n + q) ++ vs).length = ii.toNat * K.n + q + A.n := by
        rw [List.length_append, List.length_take, Array.length_toList, hvl, hsz]; omega
      rw [List.take_append, List.take_of_length_le (by omega), hla, hpre, List.append_assoc]
      congr 1
      congr 1
      rw [← hsuf, hvl, List.drop_take]
    · have hdj : ∀ b, b ∈ ox → b ∉ g :: (p1 ++ p3) := fun b hb hb2 => hcd' ((hcol b hb2).1.symm.trans (hxc b hb))
      rw [List.nodup_iff_count]
      intro b
      have c0 : (g :: (p1 ++ p3)).count b ≤ 1 := List.nodup_iff_count.1 hnd b
      have c1' : ox.count b ≤ 1 := List.nodup_iff_count.1 hxn b
      rw [List.count_cons] at c0
      simp only [List.singleton_append, List.count_cons, List.count_append] at c0 ⊢
      by_cases hb : b ∈ ox
      · have z0 : (g :: (p1 ++ p3)).count b = 0 := List.count_eq_zero.2 (hdj b hb)
        rw [List.count_cons] at z0
        simp only [List.count_append] at z0
        omega
      · have : ox.count b = 0 := List.count_eq_zero.2 hb
        omega
    · dsimp only
      simp only [List.singleton_append, List.mem_cons, List.mem_append] at hb
      rcases hb with rfl | hb | hb | hb
      · simp [hgc]
      · simp [(hcol b (by simp [hb])).1]
      · simp [hxc b hb]
      · simp [(hcol b (by simp [hb])).1]
theorem ixh {α β : Type} [Inhabited α] {te t : TypeId} {K : Kd α} {A : Kd β} {q : Nat} {set : α → β → α} {v : Value} {xs : List α} {c : Nat} {jj : Int} {kk : IntKind} {ii : Int} {X I : Operand} (hH : HoL te K A q set s v xs jj c) (hu : P.underlying t = some (.slice te)) (hs : (P.info? te).map (·.size) = some K.n)
    (ho : ops[i]? = some o) (hd : o.dst = some d) (hN : Nat.blt d N = true) (hw : Region.wanted o (yv e ops) = true) (hop : o.op = .indexAddr t X I) (hX : ev e X = v) (hI : ev e I = .int kk ii)
    (h : ∀ ad, 0 ≤ ii → ii < xs.length → IxA v K.n ii ad → TM P f N m G R (.inRegion ops rest :: k) (upd e d (.pointer (some ad))) s.w) :
    TM P f N (if 0 ≤ ii ∧ ii < xs.length then m else none) G R (.inRegion ops (i :: rest) :: k) e s.w := by
  refine mg fun hg => ?_
  obtain ⟨g, cap, cur, c1, u0, c3, p1, p3, rfl, _⟩ := hH
  refine vl (v := .pointer (some ((⟨g, 0, none⟩ : Addr).add (ii.toNat * K.n)))) ho hd hN hw ?_ (h _ hg.1 hg.2 ⟨_, _, cap, rfl, rfl⟩)
  have h1 := hg.1
  have h2 := hg.2
  simp [execOp, hop, hX, hI, Instr.indexAt, asIntOf, run_underlying hu, h1, h2, size_run hs, Result.andThen]
end
theorem RwF.sub {α : Type} {e : TypeId} {K : Kd α} {s : St} {v : Value} {xs : List α} {c : Nat} {C : List Nat} (h : RwF e K s v xs c C) {D : List Nat} (d : V.sub C D = true) : RwF e K s v xs c D := by
 obtain ⟨cells, os, h1, h2, h3⟩ := h
 exact ⟨cells, os, h1, h2, h3.mono fun b hb _ => sub_out d hb⟩
end Go.Proofs.YtegicanjlefmdaaGreat.V
set_option linter.unusedVariables false
set_option linter.unusedSimpArgs false
namespace Go.Proofs.YtegicanjlefmdaaGreat.V
open Go
theorem ElsR.set {α : Type} {K : Kd α} {w : World} {F : Nat → Prop} {xs : List α} {cells c' : List Value} {y : α} (h : ElsR K w F xs cells) (i : Nat) (hi : i < xs.length) (hy : K.rd w c' y F) : ElsR K w F (xs.set i y) (cells.take (i * K.n) ++ c' ++ cells.drop ((i + 1) * K.n)) := by
 rw [List.set_eq_take_append_cons_drop, if_pos hi, List.append_assoc]
 exact (h.take i).append ⟨c', _, rfl, hy, h.drop (i + 1)⟩
section
variable {P : Program} {f : FuncId} {N : Nat} {O ρ : Type} {m : Option O} {G : O → Option ρ} {R : ρ → Ending → World → Prop} {e : Env} {s : St} {k : List Item} {ops : Array Oper} {i d : Nat} {rest : List Nat} {o : Oper}
end
end Go.Proofs.YtegicanjlefmdaaGreat.V
set_option linter.unusedVariables false
set_option linter.unusedSimpArgs false
namespace Go.Proofs.YtegicanjlefmdaaGreat.V
open Go
section
variable {P : Program} {f : FuncId} {N : Nat} {O ρ : Type} {m : Option O} {G : O → Option ρ} {R : ρ → Ending → World → Prop} {e : Env} {s : St} {k : List Item} {ops : Array Oper} {i d : Nat} {rest : List Nat} {o : Oper}
end
end Go.Proofs.YtegicanjlefmdaaGreat.V
set_option linter.unusedVariables false
set_option linter.unusedSimpArgs false
namespace Go.Proofs.YtegicanjlefmdaaGreat.V
open Go
section
variable {P : Program} {f : FuncId} {N : Nat} {O ρ : Type} {m : Option O} {G : O → Option ρ} {R : ρ → Ending → World → Prop} {e : Env} {k : List Item} {ops : Array Oper}
variable {s : St} {i d : Nat} {rest : List Nat} {o : Oper}
end
end Go.Proofs.YtegicanjlefmdaaGreat.V
set_option linter.unusedVariables false
set_option linter.unusedSimpArgs false
namespace Go.Proofs.YtegicanjlefmdaaGreat.V
open Go
abbrev RT {ρ : Type} (Q : ρ → Value → World → Prop) (r : ρ) (en : Ending) (w' : World) : Prop := ∃ v, en = .returned v ∧ Q r v w'
end Go.Proofs.YtegicanjlefmdaaGreat.V
set_option linter.unusedVariables false
set_option linter.unusedSimpArgs false
namespace Go.Proofs.YtegicanjlefmdaaGreat.V
open Go
def CutV (n L : Nat) (v : Value) (a b : Nat) (v' : Value) : Prop := ∃ A cap, v = .slice A L cap ∧ a ≤ b ∧ b ≤ cap ∧ v' = .slice (if cap = a then A else A.map (·.add (a * n))) (b - a) (cap - a)
def CapV (v : Value) (N : Nat) : Prop := ∃ A l cap, v = .slice A l cap ∧ N ≤ cap
section
variable {α : Type} {K : Kd α} {te : TypeId} {s : St} {v v' : Value} {xs : List α} {c : Nat}
theorem cut_e (hO : OwF (Kd.sl te K) s [v] xs c) {a b : Nat} (hab : a ≤ b) (hb : b ≤ xs.length) : ∃ v', CutV K.n xs.length v a b v' := by
 obtain ⟨os, ⟨v1, e1, cells, o1, o2, rfl, hR, hE⟩, hnd, hcol⟩ := hO
 obtain rfl : v = v1 := by simpa using e1
 rcases hR.2 with ⟨rfl, h2, _⟩ | ⟨g, cap, cur, rfl, _, hnc, _⟩
 · exact ⟨_, none, 0, by rw [h2], hab, by omega, rfl⟩
 · exact ⟨_, _, cap, rfl, hab, by omega, rfl⟩
theorem cut_ow (hK : FlK K) (hO : OwF (Kd.sl te K) s [v] xs c) {b : Nat} (hb : b ≤ xs.length) (hC : CutV K.n xs.length v 0 b v') : OwF (Kd.sl te K) s [v'] (xs.take b) c ∧ CapV v' xs.length := by
 obtain ⟨os, ⟨v1, e1, cells, o1, o2, rfl, hR, hE⟩, hnd, hcol⟩ := hO
 obtain rfl : v = v1 := by simpa using e1
 obtain ⟨A, cap', e2, _, hbc, rfl⟩ := hC
 have hE2 := hE.rd.take b
 have hlt : (xs.take b).length = b := by simp; omega
 have hA : ∀ B : Option Addr, (if cap' = 0 then B else Option.map (fun a : Addr => a.add (0 * K.n)) B) = B := fun B => by
  split
  · rfl
  · cases B <;> simp [add_zero]
 rw [hA, Nat.sub_zero, Nat.sub_zero]
 rcases hR.2 with ⟨e3, h2, rfl⟩ | ⟨g, cap, cur, e3, hg2, hnc, hcm, hcs, htake, rfl⟩
 · rw [e3] at e2
   simp only [Value.slice.injEq] at e2
   obtain ⟨rfl, _, rfl⟩ := e2
   have hb0 : b = 0 := by omega
   subst hb0
   exact ⟨Ym te K s c, ⟨_, _, _, rfl, by omega⟩⟩
 · rw [e3] at e2
   simp only [Value.slice.injEq, true_and] at e2
   obtain ⟨rfl, rfl⟩ := e2
   refine ⟨⟨[g] ++ [], ⟨_, rfl, cells.take (b * K.n), [g], [], rfl, ?_, hK.els _ hE2⟩, by simp, fun b' hb' => hcol b' (by simp at hb'; simp [hb'])⟩, ⟨_, _, _, rfl, hnc⟩⟩
   have hmul : b * K.n ≤ xs.length * K.n := Nat.mul_le_mul_right _ hb
   rw [hlt]
   refine ⟨by rw [List.length_take, hR.1]; omega, .inr ⟨g, cap, cur, rfl, hg2, by omega, hcm, hcs, ?_, rfl⟩⟩
   rw [← htake, List.take_take]
   congr 1
   omega
end
section
variable {P : Program} {f : FuncId} {N : Nat} {O ρ : Type} {m : Option O} {G : O → Option ρ} {R : ρ → Ending → World → Prop} {e : Env} {s : St} {k : List Item} {ops : Array Oper} {i d : Nat} {rest : List Nat} {o : Oper}
theorem cutRun {w : World} {t te n L : Nat} {v v' : Value} {a b : Nat} {lo hi : Option Value} (hC : CutV n L v a b v') (hu : P.underlying t = some (.slice te)) (hs : (P.info? te).map (·.size) = some n)
    (hlo : (lo = none ∧ a = 0) ∨ ∃ k, lo = some (.int k a)) (hhi : (hi = none ∧ b = L) ∨ ∃ k, hi = some (.int k b)) : (Instr.sliceAt t v lo hi none).run P w = .ok v' w := by
  obtain ⟨A, cap, rfl, hab, hb, rfl⟩ := hC
  exact cut_run hu hs hab hb hlo hhi
theorem slA_ {t te n L : Nat} {v v' : Value} {a : Int} {k1 : IntKind} {x p : Operand} (h0 : 0 ≤ a) (hC : CutV n L v a.toNat L v') (hu : P.underlying t = some (.slice te)) (hs : (P.info? te).map (·.size) = some n)
    (ho : ops[i]? = some o) (hd : o.dst = some d) (hN : Nat.blt d N = true) (hw : Region.wanted o (yv e ops) = true) (hop : o.op = .slice t x (some p) none none) (hx : ev e x = v) (hp : ev e p = .int k1 a)
    (h : TM P f N m G R (.inRegion ops rest :: k) (upd e d v') s.w) : TM P f N m G R (.inRegion ops (i :: rest) :: k) e s.w := by
  have hr := cutRun (P := P) (w := s.w) (lo := some (.int k1 a)) (hi := none) hC hu hs (.inr ⟨k1, by rw [Int.toNat_of_nonneg h0]⟩) (.inl ⟨rfl, rfl⟩)
  exact vl ho hd hN hw (by simp [execOp, hop, hx, hp, hr, Result.andThen]) h
theorem slH_ {t te n L : Nat} {v v' : Value} {b : Int} {k1 : IntKind} {x p : Operand} (h0 : 0 ≤ b) (hC : CutV n L v 0 b.toNat v') (hu : P.underlying t = some (.slice te)) (hs : (P.info? te).map (·.size) = some n)
    (ho : ops[i]? = some o) (hd : o.dst = some d) (hN : Nat.blt d N = true) (hw : Region.wanted o (yv e ops) = true) (hop : o.op = .slice t x none (some p) none) (hx : ev e x = v) (hp : ev e p = .int k1 b)
    (h : TM P f N m G R (.inRegion ops rest :: k) (upd e d v') s.w) : TM P f N m G R (.inRegion ops (i :: rest) :: k) e s.w := by
  have hr := cutRun (P := P) (w := s.w) (lo := none) (hi := some (.int k1 b)) hC hu hs (.inl ⟨rfl, rfl⟩) (.inr ⟨k1, by rw [Int.toNat_of_nonneg h0]⟩)
  exact vl ho hd hN hw (by simp [execOp, hop, hx, hp, hr, Result.andThen]) h
theorem clr_ {α : Type} {K : Kd α} {t te : TypeId} {y : Operand} {v u : Value} {xs : List α} {c a b : Nat} {z : Value} {x0 : α} (hK : FlK K) (hO : OwF (Kd.sl te K) s [v] xs c) (hC : CutV K.n xs.length v a b u) (ha : a ≤ xs.length) (hb : xs.length ≤ b)
    (hu : P.underlying t = some (.slice te)) (hz : (P.info? te).bind (·.zero) = some z) (hzs : Nat.beq z.cells.size K.n = true) (hn : Nat.ble 1 K.n = true) (h0 : ∀ w, K.ow w z.cells.toList x0 [])
    (ho : ops[i]? = some o) (hd : o.dst = none) (hw : Region.wanted o (yv e ops) = true) (hop : o.op = .call { callee := .builtin .clear, args := #[y], argTypes := #[t] }) (hy : ev e y = u)
    (h : ∀ s', Stp [c] s s' → OwF (Kd.sl te K) s' [v] (xs.take a ++ List.replicate (xs.length - a) x0) c → TM P f N m G R (.inRegion ops rest :: k) e s'.w) : TM P f N m G R (.inRegion ops (i :: rest) :: k) e s.w := by
  have hzs' := Nat.eq_of_beq_eq_true hzs
  have hn' := Nat.le_of_ble_eq_true hn
  have hrefl : Stp [c] s s := ⟨rfl, rfl, rfl, Nat.le_refl _, fun _ _ _ => rfl, fun _ _ _ => ⟨rfl, rfl⟩⟩
  have hO' := hO
  obtain ⟨os, ⟨v1, e1, cells, o1, o2, rfl, hR, hE⟩, hnd, hcol⟩ := hO
  obtain rfl : v = v1 := by simpa using e1
  obtain ⟨A, cap', e2, hab, hbc, rfl⟩ := hC
  have noop : a = b → (Builtin.clear_ #[t] o.type #[.slice (if cap' = a then A else A.map (·.add (a * K.n))) (b - a) (cap' - a)]).run P s.w = .ok (.tuple #[]) s.w := fun hab' => by
    subst hab'
    rw [Nat.sub_self]
    unfold Builtin.clear_
    generalize (if cap' = a then A else A.map (·.add (a * K.n))) = B
    cases B <;> simp [run_underlying hu, Result.andThen]
  have noop2 : a = b → TM P f N m G R (.inRegion ops (i :: rest) :: k) e s.w := fun hab' => by
    have hr := noop hab'
    refine TM.of (fun _ h => T_value0 (v := .tuple #[]) (w' := s.w) ho hd hw (by simp [execOp, hop, resolve, invoke, builtin, hy, hr, Result.andThen]) h) (h s hrefl ?_)
    have : a = xs.length := by omega
    subst this
    rw [List.take_length, Nat.sub_self]; simpa using hO'
  rcases hR.2 with ⟨e3, h2, _⟩ | ⟨g, cap, cur, e3, hg, hlc, hcm, hsz, htk, rfl⟩
  · rw [e3] at e2
    simp only [Value.slice.injEq] at e2
    exact noop2 (by omega)
  by_cases hab' : a = b
  · exact noop2 hab'
  rw [e3] at e2
  simp only [Value.slice.injEq, true_and] at e2
  obtain ⟨rfl, rfl⟩ := e2
  have hac : ¬ cap = a := by omega
  rw [if_neg hac] at hy
  simp only [Option.map_some, Addr.add_mid, Nat.zero_add] at hy
  have hzE : ∀ w l, ElsO K w (List.replicate l x0) (Builtin.zeroCells z.cells l).toList [] := fun w l => by rw [zero_made, hzs']; exact made_els hzs' hn' h0 w l
  have hzl : (Builtin.zeroCells z.cells (b - a)).toList.length = (b - a) * K.n := by rw [Array.length_toList, size_zeroCells, hzs']
  have hm1 : a * K.n ≤ b * K.n := Nat.mul_le_mul_right _ hab
  have hm2 : b * K.n ≤ cap * K.n := Nat.mul_le_mul_right _ hbc
  have hm3 : a * K.n ≤ xs.length * K.n := Nat.mul_le_mul_right _ ha
  have hm4 : xs.length * K.n ≤ b * K.n := Nat.mul_le_mul_right _ hb
  have hsub : (b - a) * K.n = b * K.n - a * K.n := Nat.sub_mul _ _ _
  have hst := run_storeCells_at P g (a * K.n) te (Builtin.zeroCells z.cells (b - a)).toList 0 cur s.w hg (by rw [hzl, hsz]; omega) (hzE s.w (b - a)).rd.one
  simp only [Nat.add_zero, hzl] at hst
  have hrun : (Builtin.clear_ #[t] o.type #[.slice (some ⟨g, a * K.n, none⟩) (b - a) (cap - a)]).run P s.w = .ok (.tuple #[]) (s.w.setRow g (cur.toList.take (a * K.n) ++ (Builtin.zeroCells z.cells (b - a)).toList ++ cur.toList.drop (a * K.n + (b - a) * K.n)).toArray) := by
    obtain ⟨q, hq⟩ : ∃ q, b - a = q + 1 := ⟨b - a - 1, by omega⟩
    rw [hq] at hst ⊢
    simp [Builtin.clear_, run_underlying hu, zero_run hz, hst, Result.andThen]
  refine TM.of (fun _ h => T_value0 (v := .tuple #[]) (w' := s.w.setRow g (cur.toList.take (a * K.n) ++ (Builtin.zeroCells z.cells (b - a)).toList ++ cur.toList.drop (a * K.n + (b - a) * K.n)).toArray) ho hd hw (by simp [execOp, hop, resolve, invoke, builtin, hy, hrun, Result.andThen]) h) (h ⟨_, s.g⟩ ⟨rfl, rfl, rfl, by simp, fun _ _ _ => rfl, fun b' hb' hm => ⟨rfl, setRow_other s.w g b' _ fun e => ?_⟩⟩ ?_)
  · rw [e, hcol g (by simp)] at hm; simp [memb] at hm
  · have hcl : cells.length = xs.length * K.n := hR.1
    have hlen : (xs.take a ++ List.replicate (xs.length - a) x0).length = xs.length := by simp; omega
    have hE1 := ((hE.rd.take a).mono (F' := fun _ => True) fun _ _ _ => trivial).append ((hzE s.w (xs.length - a)).rd.mono (F' := fun _ => True) fun _ _ _ => trivial)
    have hE2 := hK.els (s.w.setRow g (cur.toList.take (a * K.n) ++ (Builtin.zeroCells z.cells (b - a)).toList ++ cur.toList.drop (a * K.n + (b - a) * K.n)).toArray) hE1
    refine ⟨[g] ++ [], ⟨v, rfl, _, [g], [], rfl, ⟨?_, .inr ⟨g, cap, _, by rw [hlen]; exact e3, setRow_heap s.w g cur _ te _ hg, by rw [hlen]; exact hlc, hcm, ?_, ?_, rfl⟩⟩, hE2⟩, by simp, fun b' hb' => hcol b' (by simp at hb'; simp [hb'])⟩
    · have hz2 : (Builtin.zeroCells z.cells (xs.length - a)).toList.length = (xs.length - a) * K.n := by rw [Array.length_toList, size_zeroCells, hzs']
      rw [hlen, List.length_append, List.length_take, hz2, hcl, Nat.sub_mul]; omega
    · simp only [List.size_toArray, List.length_append, List.length_take, List.length_drop, Array.length_toList, hsz, size_zeroCells, hzs']; omega
    · rw [hlen]
      have e5 : (cells.take (a * K.n)) = cur.toList.take (a * K.n) := by rw [← htk, List.take_take]; congr 1; omega
      have e6 : (Builtin.zeroCells z.cells (b - a)).toList.take (xs.length * K.n - a * K.n) = (Builtin.zeroCells z.cells (xs.length - a)).toList := by
        apply List.ext_getElem
        · have hz2 : (Builtin.zeroCells z.cells (xs.length - a)).toList.length = (xs.length - a) * K.n := by rw [Array.length_toList, size_zeroCells, hzs']
          have hsub2 : (xs.length - a) * K.n = xs.length * K.n - a * K.n := Nat.sub_mul _ _ _
          rw [List.length_take, hzl, hz2, hsub, hsub2]; omega
        · intro j h1 h2
          simp [Builtin.zeroCells]
      rw [e5]
      have hla : (cur.toList.take (a * K.n)).length = a * K.n := by rw [List.length_take, Array.length_toList, hsz]; omega
      rw [List.append_assoc, List.take_append, hla, List.take_of_length_le (by rw [hla]; omega), List.take_append, hzl, e6, show xs.length * K.n - a * K.n - (b - a) * K.n = 0 by omega, List.take_zero, List.append_nil]
theorem sets_all : ∀ (vs cs : List Value), cs.length = vs.length → sets cs 0 vs = vs := by
 have key : ∀ (vs : List Value) (q : Nat) (cs : List Value), cs.length = q + vs.length → sets cs q vs = cs.take q ++ vs := by
  intro vs
  induction vs with
  | nil => intro q cs h; simp only [sets]; rw [List.take_of_length_le (by simp at h; omega), List.append_nil]
  | cons v vs ih =>
   intro q cs h
   simp only [sets]
   rw [ih (q + 1) (cs.set q v) (by rw [List.length_set, h, List.length_cons]; omega), List.take_succ_eq_append_getElem (by rw [List.length_set, h, List.length_cons]; omega)]
   simp [List.take_set_of_le]
 intro vs cs h
 simpa using key vs 0 cs (by simpa using h)
theorem svp {t b : Nat} {tb : TypeId} {x y : Operand} {cs vs : List Value} {c : Nat} (hB : BlF s b tb cs c) (hs : (P.info? t).map (·.size) = some vs.length) (hv : ∀ v ∈ vs, v.oneCell' = true) (hl : cs.length = vs.length)
    (ho : ops[i]? = some o) (hd : o.dst = none) (hw : Region.wanted o (yv e ops) = true) (hop : o.op = .store t x y) (hx : ev e x = .pointer (some ⟨b, 0, none⟩)) (hy : ev e y = .agg vs.toArray)
    (h : ∀ s', Stp [c] s s' → BlF s' b tb vs c → TM P f N m G R (.inRegion ops rest :: k) e s'.w) : TM P f N m G R (.inRegion ops (i :: rest) :: k) e s.w :=
  sva (q := 0) hB hs ho hd hw hop hx hy (List.all_eq_true.2 hv) (by rw [Nat.zero_add, hl]; exact Nat.ble_self_eq_true _) fun s' p hB' => h s' p (by rw [sets_all vs cs hl] at hB'; exact hB')
theorem ldp {t b : Nat} {tb : TypeId} {dd : TypeDesc} {x : Operand} {cs : List Value} {c : Nat} (hB : BlF s b tb cs c) (hu : P.underlying t = some dd) (hs : (P.info? t).map (·.size) = some cs.length)
    (ho : ops[i]? = some o) (hd : o.dst = some d) (hN : Nat.blt d N = true) (hw : Region.wanted o (yv e ops) = true) (hop : o.op = .load t x) (hr : dd.isRow = true) (hx : ev e x = .pointer (some ⟨b, 0, none⟩))
    (h : TM P f N m G R (.inRegion ops rest :: k) (upd e d (.agg cs.toArray)) s.w) : TM P f N m G R (.inRegion ops (i :: rest) :: k) e s.w :=
  lda (q := 0) hB hu hs ho hd hN hw hop hr hx (by simp) h
end
end Go.Proofs.YtegicanjlefmdaaGreat.V
set_option linter.unusedVariables false
set_option linter.unusedSimpArgs false
set_option linter.unusedSectionVars false
namespace Go.Proofs.YtegicanjlefmdaaGreat.V
open Go
section
variable {α : Type} [Inhabited α]
theorem wr64 {n : Int} (h0 : -9223372036854775808 ≤ n) (h1 : n ≤ 9223372036854775807) : IntKind.i64.wrap n = n := by
 rw [IntKind.wrap_i64]; omega
theorem at_n (xs : List α) (k : Nat) (h : k < xs.length) : at_ xs (k : Int) = xs[k] := by rw [at_eq xs _ (by simpa using h)]; simp
theorem it_l {S O : Type} {body : S → Option (S ⊕ O)} {s s' : S} (h : body s = some (.inl s')) : iter body s = iter body s' := by rw [iter_eq, h]; rfl
theorem it_r {S O : Type} {body : S → Option (S ⊕ O)} {s : S} {o : O} (h : body s = some (.inr o)) : iter body s = some o := by rw [iter_eq, h]; rfl
noncomputable def ixB (a0 : List α) (a1 : α → Option Bool) (x2 : Int) : Option (Int ⊕ Int) :=
 (if (decide (x2 < (a0.length : Int))) = true then (if 0 ≤ x2 ∧ x2 < (a0.length : Int) then ((a1 (at_ a0 x2)).bind fun r8 => (if r8 = true then (some (Sum.inr x2)) else (some (Sum.inl (IntKind.wrap .i64 (x2 + (1 : Int))))))) else none) else ((some (-1 : Int)).bind fun o => some (Sum.inr o)))
noncomputable def dfB (z : α) (a1 : α → Option Bool) (x7 : List α × Int × Int) : Option ((List α × Int × Int) ⊕ List α) :=
 (if (decide (x7.2.2 < (x7.1.length : Int))) = true then (if 0 ≤ x7.2.2 ∧ x7.2.2 < (x7.1.length : Int) then ((a1 (at_ x7.1 x7.2.2)).bind fun r20 => ((if (!r20) = true then (if 0 ≤ x7.2.1 ∧ x7.2.1 < (x7.1.length : Int) then (some ((x7.1.set (x7.2.1).toNat (at_ x7.1 x7.2.2)), (IntKind.wrap .i64 (x7.2.1 + (1 : Int))))) else none) else (some (x7.1, x7.2.1))).bind fun y22 => (some (Sum.inl (y22.1, y22.2, (IntKind.wrap .i64 (x7.2.2 + (1 : Int)))))))) else none) else ((if 0 ≤ x7.2.1 ∧ x7.2.1 ≤ (x7.1.length : Int) then (if 0 ≤ x7.2.1 ∧ x7.2.1 ≤ ((x7.1.take (x7.2.1).toNat ++ List.replicate (x7.1.length - (x7.2.1).toNat) z).length : Int) then (some ((x7.1.take (x7.2.1).toNat ++ List.replicate (x7.1.length - (x7.2.1).toNat) z).take (x7.2.1).toNat)) else none) else none).bind fun o => some (Sum.inr o)))
noncomputable def dfM (z : α) (a0 : List α) (a1 : α → Option Bool) : Option (List α) := ((iter (ixB a0 a1) (0 : Int)).bind fun r2 => (if (r2 == (-1 : Int)) = true then (some a0) else (iter (dfB z a1) (a0, r2, (IntKind.wrap .i64 (r2 + (1 : Int)))))))
theorem ix_some (a0 : List α) (a1 : α → Option Bool) (g : α → Bool) (hl : a0.length ≤ maxLen) (h : ∀ x ∈ a0, a1 x = some (g x)) : ∃ r, iter (ixB a0 a1) (0 : Int) = some r ∧ ((r = -1 ∧ ∀ x ∈ a0, g x = false) ∨ ∃ (k : Nat) (hk : k < a0.length), r = (k : Int) ∧ g a0[k] = true ∧ ∀ x ∈ a0.take k, g x = false) := by
 have hl' := hl
 simp only [maxLen] at hl'
 have key : ∀ (m k : Nat), k + m = a0.length → (∀ x ∈ a0.take k, g x = false) → ∃ r, iter (ixB a0 a1) (k : Int) = some r ∧ ((r = -1 ∧ ∀ x ∈ a0, g x = false) ∨ ∃ (k : Nat) (hk : k < a0.length), r = (k : Int) ∧ g a0[k] = true ∧ ∀ x ∈ a0.take k, g x = false) := by
  intro m
  induction m with
  | zero =>
   intro k hk hb
   have : k = a0.length := by omega
   subst this
   refine ⟨-1, it_r ?_, .inl ⟨rfl, by simpa using hb⟩⟩
   unfold ixB
   rw [if_neg (by simp)]; rfl
  | succ m ih =>
   intro k hk hb
   have hk1 : k < a0.length := by omega
   have hx := h _ (List.getElem_mem hk1)
   cases hg : g a0[k] with
   | true =>
    refine ⟨(k : Int), it_r ?_, .inr ⟨k, hk1, rfl, hg, hb⟩⟩
    unfold ixB
    rw [if_pos (by simp; omega), if_pos ⟨by omega, by omega⟩, at_n _ k hk1, hx, Option.bind_some, hg, if_pos rfl]
   | false =>
    obtain ⟨r, hr, hq⟩ := ih (k + 1) (by omega) (fun x hx' => by
     rw [List.take_succ_eq_append_getElem hk1] at hx'
     rcases List.mem_append.1 hx' with h1 | h1
     · exact hb x h1
     · simp at h1; rw [h1]; exact hg)
    refine ⟨r, ?_, hq⟩
    rw [← hr]
    refine it_l ?_
    unfold ixB
    rw [if_pos (by simp; omega), if_pos ⟨by omega, by omega⟩, at_n _ k hk1, hx, Option.bind_some, hg, if_neg (by decide), wr64 (by omega) (by omega)]; rfl
 exact key a0.length 0 (by omega) (by simp)
theorem dfM_eq (z : α) (a0 : List α) (a1 : α → Option Bool) (g : α → Bool) (hl : a0.length ≤ maxLen) (h : ∀ x ∈ a0, a1 x = some (g x)) : dfM z a0 a1 = some (a0.filter fun x => !g x) := by
 have hl' := hl
 simp only [maxLen] at hl'
 obtain ⟨r, hr, hq⟩ := ix_some a0 a1 g hl h
 unfold dfM
 rw [hr, Option.bind_some]
 rcases hq with ⟨rfl, hall⟩ | ⟨k0, hk0, rfl, hgk, hb⟩
 · rw [if_pos (by decide), List.filter_eq_self.2 fun x hx => by rw [hall x hx]; rfl]
 · rw [if_neg (by simp), wr64 (by omega) (by omega)]
   -- behind j elements of the row, those that stay lie ahead
   have key : ∀ (m j : Nat) (l : List α) (i : Nat), j + m = a0.length → l.length = a0.length → i ≤ j → (∀ q, j ≤ q → l[q]? = a0[q]?) → l.take i = (a0.take j).filter (fun x => !g x) → iter (dfB z a1) (l, (i : Int), (j : Int)) = some (a0.filter fun x => !g x) := by
    intro m
    induction m with
    | zero =>
     intro j l i hj hll hij hrest htk
     have : j = a0.length := by omega
     subst this
     refine it_r ?_
     unfold dfB
     simp only []
     rw [if_neg (by rw [hll]; simp), if_pos ⟨by omega, by omega⟩, if_pos ⟨by omega, by simp; omega⟩, Option.bind_some, Int.toNat_natCast]
     rw [List.take_append_of_le_length (by rw [List.length_take]; omega), List.take_take, Nat.min_self, htk, List.take_length]
    | succ m ih =>
     intro j l i hj hll hij hrest htk
     have hj1 : j < a0.length := by omega
     have hlj : l[j]'(by omega) = a0[j] := by
      have := hrest j (Nat.le_refl _)
      rw [List.getElem?_eq_getElem (by omega), List.getElem?_eq_getElem hj1] at this
      exact Option.some.inj this
     have hx := h _ (List.getElem_mem hj1)
     have hbody : dfB z a1 (l, (i : Int), (j : Int)) = if g a0[j] = true then some (.inl (l, (i : Int), ((j + 1 : Nat) : Int))) else some (.inl (l.set i a0[j], ((i + 1 : Nat) : Int), ((j + 1 : Nat) : Int))) := by
      unfold dfB
      simp only []
      rw [if_pos (by rw [hll]; simp; omega), if_pos ⟨by omega, by omega⟩, at_n l j (by omega), hlj, hx, Option.bind_some]
      cases hg : g a0[j] with
      | true => rw [if_neg (by decide), Option.bind_some, if_pos rfl, wr64 (by omega) (by omega)]; rfl
      | false =>
       rw [if_pos (by decide), if_pos ⟨by omega, by omega⟩, Option.bind_some, if_neg (by decide), wr64 (by omega) (by omega), wr64 (by omega) (by omega)]; rfl
     cases hg : g a0[j] with
     | true =>
      rw [hg, if_pos rfl] at hbody
      rw [it_l hbody]
      refine ih (j + 1) l i (by omega) hll (by omega) (fun q hq => hrest q (by omega)) ?_
      rw [htk, List.take_succ_eq_append_getElem hj1, List.filter_append]
      simp [hg]
     | false =>
      rw [hg, if_neg (by decide)] at hbody
      rw [it_l hbody]
      refine ih (j + 1) (l.set i a0[j]) (i + 1) (by omega) (by rw [List.length_set]; exact hll) (by omega) (fun q hq => by rw [List.getElem?_set_ne (by omega)]; exact hrest q (by omega)) ?_
      rw [List.take_succ_eq_append_getElem (by rw [List.length_set]; omega), List.take_set_of_le (Nat.le_refl _), htk, List.take_succ_eq_append_getElem hj1, List.filter_append]
      simp [hg]
   refine key (a0.length - (k0 + 1)) (k0 + 1) a0 k0 (by omega) rfl (by omega) (fun _ _ => rfl) ?_
   rw [List.take_succ_eq_append_getElem hk0, List.filter_append, List.filter_eq_self.2 fun x hx => by rw [hb x hx]; rfl]
   simp [hgk]
end
section
variable {β : Type} [Inhabited β] {K : Kd β} {te : TypeId}
def PkB (K : Kd β) (s : St) (ps : List (Pk β × List Nat)) (c : Nat) : Prop := (∀ p ∈ ps, K.ow s.w p.1.cs p.1.x p.2) ∧ ((ps.map (·.2)).flatten).Nodup ∧ ∀ b ∈ (ps.map (·.2)).flatten, s.g b = c
theorem mem_fl {ps : List (Pk β × List Nat)} {p : Pk β × List Nat} (h : p ∈ ps) {b : Nat} (hb : b ∈ p.2) : b ∈ (ps.map (·.2)).flatten := List.mem_flatten.2 ⟨p.2, List.mem_map.2 ⟨p, h, rfl⟩, hb⟩
theorem PkB.st {s s' : St} {S : List Nat} {ps : List (Pk β × List Nat)} {c : Nat} (h : PkB K s ps c) (p : Stp S s s') (d : memb S c = false) : PkB K s' ps c := by
 refine ⟨fun q hq => K.ow_frame (h.1 q hq) fun b hb hl => (p.same b hl (by rw [h.2.2 b (mem_fl hq hb)]; exact d)).2, h.2.1, fun b hb => ?_⟩
 obtain ⟨l, hl, hbl⟩ := List.mem_flatten.1 hb
 obtain ⟨q, hq, rfl⟩ := List.mem_map.1 hl
 rw [(p.same b (K.ow_lt (h.1 q hq) b hbl) (by rw [h.2.2 b hb]; exact d)).1, h.2.2 b hb]
theorem pk_fw {w w' : World} {v : Value} {ps qs : List (Pk β × List Nat)} {o1 o2 : List Nat} (hn : (o1 ++ o2).Nodup) (ho : (ps.map (·.2)).flatten = o2) (hlt : ∀ b ∈ o2, b < w.heap.size) (hsl : qs.Sublist ps) (hst : ∀ p ∈ ps, K.ow w' p.1.cs p.1.x p.2)
    (hfw : FW (Kd.sl te (Kd.pk β K.n)) o1 w w' [v] (qs.map (·.1))) : FW (Kd.sl te K) (o1 ++ o2) w w' [v] (qs.map fun p => p.1.x) := by
  obtain ⟨os', ⟨v', e5, cells', p1, p2, rfl, hrow5, hels5⟩, hnd5, hsub5⟩ := hfw
  obtain rfl : v = v' := by simpa using e5
  obtain ⟨hcs5, hp2⟩ := pk_cells hels5
  subst hp2
  have hos2 : ((qs.map (·.2)).flatten).Sublist o2 := by rw [← ho]; exact flat_sub _ hsl
  refine ⟨p1 ++ (qs.map (·.2)).flatten, ⟨v, rfl, cells', p1, _, rfl, ?_, ?_⟩, ?_, fun b hb => ?_⟩
  · rw [List.length_map] at hrow5 ⊢; exact hrow5
  · rw [hcs5, List.map_map]; exact pk_back qs fun p hp => hst p (hsl.subset hp)
  · refine List.nodup_append.2 ⟨by simpa using hnd5, hos2.nodup (List.nodup_append.1 hn).2.1, fun a ha b hb hab => ?_⟩
    subst hab
    have hb2 := hos2.subset hb
    rcases hsub5 a (by simpa using ha) with h | h
    · exact (List.nodup_append.1 hn).2.2 a h a hb2 rfl
    · have := hlt a hb2
      omega
  · rcases List.mem_append.1 hb with hb | hb
    · rcases hsub5 b (by simpa using hb) with h | h
      · exact .inl (List.mem_append_left _ h)
      · exact .inr h
    · exact .inl (List.mem_append_right _ (hos2.subset hb))
end
end Go.Proofs.YtegicanjlefmdaaGreat.V
set_option linter.unusedVariables false
set_option linter.unusedSimpArgs false
namespace Go.Proofs.YtegicanjlefmdaaGreat.V
open Go
def cov : List Nat → List Nat → List Nat → Bool
 | [], _, _ => true
 | c :: D, E, C => (memb E c || memb C c) && cov D E C
theorem cov_out {D E C : List Nat} (h : cov D E C = true) {n : Nat} (hn : memb D n = true) : memb E n = true ∨ memb C n = true := by
 induction D with
 | nil => cases hn
 | cons c D ih =>
  simp only [cov, Bool.and_eq_true, Bool.or_eq_true] at h
  simp only [memb, Bool.or_eq_true] at hn
  rcases hn with hn | hn
  · have := Nat.eq_of_beq_eq_true hn
    subst this; exact h.1
  · exact ih h.2 hn
structure Rc (E : List Nat) (q : Nat) (s s' : St) : Prop where
 w : s.w = s'.w
 inn : ∀ b, memb E (s.g b) = true → s'.g b = q
 out : ∀ b, memb E (s.g b) = false → s'.g b = s.g b
theorem RdF.rc {α : Type} {K : Kd α} {s s' : St} {cs : List Value} {x : α} {D E C : List Nat} {q : Nat} (h : RdF K s cs x D) (r : Rc E q s s') (hq : memb C q = true) (hc : cov D E C = true) : RdF K s' cs x C := by
 unfold RdF at h ⊢
 rw [← r.w]
 refine K.rd_mono h fun b hb _ => ?_
 rcases cov_out hc hb with h1 | h1
 · rw [r.inn b h1]; exact hq
 · cases hm : memb E (s.g b) with
   | true => rw [r.inn b hm]; exact hq
   | false => rw [r.out b hm]; exact h1
end Go.Proofs.YtegicanjlefmdaaGreat.V
set_option linter.unusedVariables false
set_option linter.unusedSimpArgs false
namespace Go.Proofs.YtegicanjlefmdaaGreat.V
open Go
theorem ZN.bl {F : Nat → Prop} {ps : List (List Nat × Nat)} {s : St} (z : ZN F ps s) {b c : Nat} {t : TypeId} {cs : List Value} (hm : ([b], c) ∈ ps) (h : BlW s.w b t cs) : BlF s b t cs c := ⟨h, z.pt _ hm b (by simp)⟩
theorem ZN.fwm {F : Nat → Prop} {p0 : Nat} {os : List Nat} {s s' : St} (z : ZN F [([p0], 2), (os, 40)] s) (p : Kp s s') {α : Type} {K : Kd α} {cs : List Value} {x : α} {C : List Nat} (h : OwC K s' cs x C) (hC : C.all (Nat.ble 40 ·) = true) : FW K os s.w s'.w cs x := by
 obtain ⟨qs, ho, hn, hc⟩ := h
 refine ⟨qs, ho, hn, fun b hb => ?_⟩
 by_cases hl : b < s.w.heap.size
 · left
   refine Classical.byContradiction fun hne => ?_
   have h40 := Nat.le_of_ble_eq_true (List.all_eq_true.1 hC _ (memb_iff.1 (hc b hb)))
   have hlt : s.g b < 40 := by
    by_cases h0 : b = p0
    · have := z.pt ([p0], 2) (by simp) b (by simp [h0])
      rw [this]; show (2 : Nat) < 40; omega
    · have := z.lo b (by simp [fl_, h0, hne])
      omega
   have := p.col b hl hlt
   omega
 · right; omega
theorem nwm2 {s : St} {p pb cB : Nat} {t : TypeId} {cs : List Value} {os : List Nat} {w' : World} (c : Nat) (hc : ∀ b ∈ os, s.g b = p) (hB : BlF s pb t cs cB) (ky : Ky (pb :: os) s.w w') (h40 : Nat.ble 40 p = true) (hne : Nat.beq p cB = false) : ∃ s' : St, s'.w = w' ∧ Stp [cB, p] s s' ∧ Nm s s' os c ∧ s'.g pb = cB := by
 have h40' := Nat.le_of_ble_eq_true h40
 have hpb : pb ∉ os := fun h => by
  have h1 := hc pb h
  rw [hB.2] at h1
  rw [h1, Nat.beq_refl] at hne; cases hne
 have hbl : pb < s.w.heap.size := (Array.getElem?_eq_some_iff.1 hB.1).1
 refine ⟨⟨w', fun b => open Classical in if b ∈ os then c else if b < s.w.heap.size then s.g b else c⟩, rfl, ⟨ky.os, ky.tape, ky.output, ky.size, fun b hb hl => ?_, fun b hb hm => ?_⟩, ⟨fun b hb hn => by simp [hb, hn], fun b hb => by simp [hb], fun b hb => ?_⟩, by simp [hpb, hbl, hB.2]⟩
 · have : b ∉ os := fun h => by have := hc b h; omega
   simp [this, hb]
 · have h1 : b ∉ os := fun h => by rw [hc b h] at hm; simp [memb] at hm
   have h2 : b ≠ pb := fun h => by rw [h, hB.2] at hm; simp [memb] at hm
   exact ⟨by simp [h1, hb], ky.same b hb (by simp [h1, h2])⟩
 · have : ¬ b < s.w.heap.size := by omega
   simp [this]
theorem bl_out {s : St} {b c p : Nat} {t : TypeId} {cs : List Value} {os : List Nat} (hB : BlF s b t cs c) (hc : ∀ b ∈ os, s.g b = p) (hne : Nat.beq p c = false) : b ∉ os := fun h => by
 have h1 := hc b h
 rw [hB.2] at h1
 rw [h1, Nat.beq_refl] at hne; cases hne
theorem apart2 {F : Nat → Prop} {b : Nat} {os : List Nat} (h1 : ∀ x, F x → x ∉ [b]) (h2 : ∀ x, F x → x ∉ os) : ∀ x, F x → x ∉ b :: os := fun x hx => by
 have := h1 x hx
 have := h2 x hx
 simp_all
section
variable {P : Program} {N : Nat} {e : Env} {s : St} {ops : Array Oper} {i d : Nat} {o : Oper}
end
end Go.Proofs.YtegicanjlefmdaaGreat.V
set_option linter.unusedVariables false
set_option linter.unusedSimpArgs false
set_option linter.unusedSectionVars false
namespace Go.Proofs.YtegicanjlefmdaaGreat.V
open Go
theorem delG {P : Program} {f te : Nat} {β : Type} [Inhabited β] {K : Kd β} {D : List (Pk β) → (Pk β → Option Bool) → Option (List (Pk β))}
    (hc : ∀ (a0 : List (Pk β)) (a1 : Pk β → Option Bool) (w : World) (F : Nat → Prop) (w0 f1 : Value) (os : List Nat) (h0 : (Kd.sl te (Kd.pk β K.n)).ow w [w0] a0 os) (hn : os.Nodup) (hF : ∀ b, F b → b ∉ os)
      (hf1 : ∀ (x0 : Pk β) (w' : World), Ky os w w' → ∀ r, a1 x0 = some r → CallV P f1 [.agg x0.cs.toArray] w' fun en w'' => ∃ v, en = .returned v ∧ v = .bool r ∧ Ky [] w' w'') (ho1 : f1.cells = #[f1])
      (r : List (Pk β)) (m : D a0 a1 = some r),
      Calls P f #[w0, f1] w fun en w' => ∃ v, en = .returned v ∧ FW (Kd.sl te (Kd.pk β K.n)) os w w' [v] r ∧ Ky os w w')
    (hD : ∀ (a0 : List (Pk β)) (a1 : Pk β → Option Bool) (g : Pk β → Bool), a0.length ≤ maxLen → (∀ p ∈ a0, a1 p = some (g p)) → D a0 a1 = some (a0.filter fun p => !g p))
    (a0 : List β) (a1 : β → Option Bool) (w : World) (w0 f1 : Value) (os : List Nat) (h0 : (Kd.sl te K).ow w [w0] a0 os) (hn : os.Nodup)
    (hf1 : ∀ (x0 : β) (cs : List Value) (w' : World), Ky os w w' → K.rd w' cs x0 (fun _ => True) → ∀ r, a1 x0 = some r → CallV P f1 [.agg cs.toArray] w' fun en w'' => ∃ v, en = .returned v ∧ v = .bool r ∧ Ky [] w' w'') (ho1 : f1.cells = #[f1])
    (r : List β) (m : delF a0 a1 = some r) :
    Calls P f #[w0, f1] w fun en w' => ∃ v, en = .returned v ∧ FW (Kd.sl te K) os w w' [v] r ∧ Ky os w w' := by
  obtain ⟨v, e1, cells, o1, o2, rfl, hrow, hels⟩ := h0
  obtain rfl : w0 = v := by simpa using e1
  obtain ⟨ps, hx, ho, hcs, hp⟩ := pk_of hels
  have hl : (ps.map (·.1)).length = a0.length := by rw [← hx]; simp
  have hn1 : o1.Nodup := (List.nodup_append.1 hn).1
  have hpk : (Kd.sl te (Kd.pk β K.n)).ow w [w0] (ps.map (·.1)) o1 := ⟨_, rfl, cells, o1, [], by simp, by rw [hl]; exact hrow, by rw [← hcs]; exact pk_els w ps hp⟩
  have hml : a0.length ≤ maxLen := by
    rcases hrow.2 with ⟨_, h, _⟩ | ⟨g, cap, cur, _, _, h1, h2, _⟩
    · rw [h]; exact Nat.zero_le _
    · omega
  obtain ⟨hall, hr⟩ := delF_out m
  have hstay : ∀ w', Ky o1 w w' → ∀ p ∈ ps, K.ow w' p.1.cs p.1.x p.2 := fun w' k p hpm => K.ow_frame (hp p hpm) fun b hb hl => k.same b hl fun hm => (List.nodup_append.1 hn).2.2 b hm b (by rw [← ho]; exact mem_fl hpm hb) rfl
  let A : Pk β → Option Bool := fun q => open Classical in if q ∈ ps.map (·.1) then a1 q.x else none
  have hA : ∀ q ∈ ps.map (·.1), A q = some ((a1 q.x).getD false) := fun q hq => by
    have hq2 : q.x ∈ a0 := by
      obtain ⟨p, hp1, rfl⟩ := List.mem_map.1 hq
      rw [← hx]; exact List.mem_map.2 ⟨p, hp1, rfl⟩
    obtain ⟨b, hb⟩ := hall _ hq2
    simp only [A, if_pos hq, hb, Option.getD_some]
  have hm := hD (ps.map (·.1)) A (fun q => (a1 q.x).getD false) (by rw [hl]; exact hml) hA
  have key := hc (ps.map (·.1)) A w (fun b => b ∈ o2) w0 f1 o1 hpk hn1 (fun b hb hm => (List.nodup_append.1 hn).2.2 b hm b hb rfl) (fun q w' k r hqr => by
    by_cases hq : q ∈ ps.map (·.1)
    · simp only [A, if_pos hq] at hqr
      obtain ⟨p, hp1, rfl⟩ := List.mem_map.1 hq
      exact hf1 p.1.x p.1.cs w' ⟨k.os, k.tape, k.output, k.size, fun b hb hm => k.same b hb fun h => hm (List.mem_append_left _ h)⟩ (K.rd_mono (K.ow_rd (hstay w' k p hp1)) fun _ _ _ => trivial) r hqr
    · simp only [A, if_neg hq] at hqr; cases hqr) ho1 _ hm
  have hfil : (ps.map (·.1)).filter (fun q => !(a1 q.x).getD false) = (ps.filter fun p => !(a1 p.1.x).getD false).map (·.1) := by rw [List.filter_map]; rfl
  have hr2 : r = (ps.filter fun p => !(a1 p.1.x).getD false).map fun p => p.1.x := by rw [hr, ← hx, List.filter_map]; rfl
  refine key.mono fun en w' ⟨v, he, hfw, ky⟩ => ⟨v, he, ?_, ⟨ky.os, ky.tape, ky.output, ky.size, fun b hb hm => ky.same b hb fun h => hm (List.mem_append_left _ h)⟩⟩
  rw [hfil] at hfw
  rw [hr2]
  exact pk_fw hn ho (fun b hb => hels.lt b hb) List.filter_sublist (hstay w' ky) hfw
section
variable {P : Program} {f : FuncId} {N : Nat} {O ρ : Type} {G : O → Option ρ} {R : ρ → Ending → World → Prop} {k : List Item} {e : Env} {ops : Array Oper}
theorem Yn {α : Type} {x : Option α} {km : α → Option O} {i d : Nat} {rest : List Nat} {o : Oper} {g : FuncId} {fn : Func} {c : Code} {args : Array Operand} {ts : Array TypeId} {vs : List Value} {s : St} {V : α → Value} (cc : Nat) (t0 : E5 (ops[i]?) (some o) (o.dst) (some d) (Nat.blt d N) (true) (Region.wanted o (yv e ops)) (true) (o.op) (.call { callee := .value (.func g), args := args, argTypes := ts })) (hg : P.funcs[g]? = some fn) (t6 : E3 (fn.body) (some c) ((fn.name == "runtime.NumGoroutine")) (false) (args.toList.map (ev e)) (vs)) (hc : ∀ a, x = some a → Calls P g vs.toArray s.w fun en w' => ∃ v, en = .returned v ∧ v = V a ∧ Ky [] s.w w')
  (h : ∀ a s', Stp [] s s' → Nw s s' cc → TM P f N (km a) G R (.inRegion ops rest :: k) (upd e d (V a)) s'.w) : TM P f N (x.bind km) G R (.inRegion ops (i :: rest) :: k) e s.w :=
 cl (e5_ t0).1 (e5_ t0).2.1 (e5_ t0).2.2.1 (e5_ t0).2.2.2.1 (e5_ t0).2.2.2.2 hg (e3_ t6).1 (e3_ t6).2.1 (e3_ t6).2.2 hc fun a v w' _ hq => by
  obtain ⟨rfl, ky⟩ := hq
  obtain ⟨s', rfl, p, n⟩ := nwx s w' cc ky
  exact h a s' p n
theorem clO {α : Type} {x : Option α} {km : α → Option O} {i d : Nat} {rest : List Nat} {o : Oper} {g : FuncId} {fn : Func} {c : Code} {args : Array Operand} {ts : Array TypeId} {vs : List Value} {s : St} {β : Type} {K : Kd β} {X : α → β} (cc : Nat) (t0 : E5 (ops[i]?) (some o) (o.dst) (some d) (Nat.blt d N) (true) (Region.wanted o (yv e ops)) (true) (o.op) (.call { callee := .value (.func g), args := args, argTypes := ts })) (hg : P.funcs[g]? = some fn) (t6 : E3 (fn.body) (some c) ((fn.name == "runtime.NumGoroutine")) (false) (args.toList.map (ev e)) (vs)) (hc : ∀ a, x = some a → Calls P g vs.toArray s.w fun en w' => ∃ v, en = .returned v ∧ FO K s.w w' [v] (X a) ∧ Ky [] s.w w')
  (h : ∀ a v s', Stp [] s s' → OwF K s' [v] (X a) cc → TM P f N (km a) G R (.inRegion ops rest :: k) (upd e d v) s'.w) : TM P f N (x.bind km) G R (.inRegion ops (i :: rest) :: k) e s.w :=
 cl (e5_ t0).1 (e5_ t0).2.1 (e5_ t0).2.2.1 (e5_ t0).2.2.2.1 (e5_ t0).2.2.2.2 hg (e3_ t6).1 (e3_ t6).2.1 (e3_ t6).2.2 hc fun a v w' _ hq => by
  obtain ⟨f, ky⟩ := hq
  obtain ⟨s', rfl, p, n⟩ := nwx s w' cc ky
  exact h a v s' p (f.c n)
theorem clB {α : Type} {x : Option α} {km : α → Option O} {i d : Nat} {rest : List Nat} {o : Oper} {g : FuncId} {fn : Func} {c : Code} {args : Array Operand} {ts : Array TypeId} {vs : List Value} {s : St} {V : α → Value} {W : α → List Value} {b tb cb : Nat} {cs : List Value} (hB : BlF s b tb cs cb) (t0 : E5 (ops[i]?) (some o) (o.dst) (some d) (Nat.blt d N) (true) (Region.wanted o (yv e ops)) (true) (o.op) (.call { callee := .value (.func g), args := args, argTypes := ts })) (hg : P.funcs[g]? = some fn) (t6 : E3 (fn.body) (some c) ((fn.name == "runtime.NumGoroutine")) (false) (args.toList.map (ev e)) (vs)) (hc : ∀ a, x = some a → Calls P g vs.toArray s.w fun en w' => ∃ v, en = .returned v ∧ v = V a ∧ BlW w' b tb (W a) ∧ Ky [b] s.w w')
  (h : ∀ a s', Stp [cb] s s' → BlF s' b tb (W a) cb → TM P f N (km a) G R (.inRegion ops rest :: k) (upd e d (V a)) s'.w) : TM P f N (x.bind km) G R (.inRegion ops (i :: rest) :: k) e s.w :=
 cl (e5_ t0).1 (e5_ t0).2.1 (e5_ t0).2.2.1 (e5_ t0).2.2.2.1 (e5_ t0).2.2.2.2 hg (e3_ t6).1 (e3_ t6).2.1 (e3_ t6).2.2 hc fun a v w' _ hq => by
  obtain ⟨rfl, bw, ky⟩ := hq
  obtain ⟨s', rfl, p, n, g⟩ := nwb 0 hB ky
  exact h a s' p (blf_mk bw g)
end
end Go.Proofs.YtegicanjlefmdaaGreat.V
