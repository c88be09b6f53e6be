
import Derived.Test.YtcagjdngannneaaVg
set_option linter.unusedVariables false
set_option linter.unusedSimpArgs false
namespace Go.Proofs.Ytcagjdngannneaa.V
open Go

def ResL (P : Program) (w : World) (e : Env) : List ResultVar → List Value → Prop
  | [], vs => vs = []
  | .tmp t :: rs, vs => ∃ v vs', vs = v :: vs' ∧ e t = v ∧ ResL P w e rs vs'
  | .cell a t :: rs, vs => ∃ v vs' ad, vs = v :: vs' ∧ e a = .pointer (some ad) ∧ (loadVar t ad).run P w = .ok v w ∧ ResL P w e rs vs'
theorem r_nil {P : Program} {w : World} {e : Env} : ResL P w e [] [] := rfl
theorem r_t {P : Program} {w : World} {e : Env} {t : Nat} {v : Value} {rs : List ResultVar} {vs : List Value} (h : e t = v) (h2 : ResL P w e rs vs) : ResL P w e (.tmp t :: rs) (v :: vs) := ⟨v, vs, rfl, h, h2⟩
theorem r_b {P : Program} {s : St} {e : Env} {t a b c tb : Nat} {dd : TypeDesc} {cs : List Value} {rs : List ResultVar} {vs : List Value} (hB : BlF s b tb cs c) (hu : P.underlying t = some dd) (hr : dd.isRow = true) (hs : (P.info? t).map (·.size) = some cs.length) (h : e a = .pointer (some ⟨b, 0, none⟩)) (h2 : ResL P s.w e rs vs) : ResL P s.w e (.cell a t :: rs) (.agg cs.toArray :: vs) :=
  ⟨_, vs, _, rfl, h, run_loadVar_mid s.w b 0 t cs dd (fun j v hv => by rw [Nat.zero_add]; exact bl_cell hB hv) hu hr hs, h2⟩
section
variable {P : Program} {f : FuncId} {N : Nat} {O ρ : Type} {m : Option O} {G : O → Option ρ} {R : ρ → Ending → World → Prop} {e : Env} {w : World} {k : List Item} {ops : Array Oper}
theorem res_list {fn : Func} {rs : List ResultVar} {vs : List Value} (h : fn.results = rs.toArray) (hL : ResL P w e rs vs) {a : Act} (ha : Fr N e a) :
    (results fn a.tmps).run P w = .ok (match vs with | [v] => v | _ => .tuple vs.toArray) w := by
  have key : ∀ (F : ResultVar → Sem Value) (hF : ∀ r v, (match r with | .tmp t => e t = v | .cell a t => ∃ ad, e a = .pointer (some ad) ∧ (loadVar t ad).run P w = .ok v w) → (F r).run P w = .ok v w) (rs : List ResultVar) (vs : List Value), ResL P w e rs vs → (List.mapM F rs).run P w = .ok vs w := by
    intro F hF rs
    induction rs with
    | nil => intro vs h; simp [ResL] at h; simp [h]
    | cons r rs ih =>
      intro vs h
      rw [List.mapM_cons, Sem.run_bind']
      cases r with
      | tmp t =>
        obtain ⟨v, vs', rfl, h1, h2⟩ := h
        rw [hF (.tmp t) v h1]
        simp only [Result.andThen]
        rw [Sem.run_bind', ih _ h2]
        simp [Result.andThen]
      | cell a t =>
        obtain ⟨v, vs', ad, rfl, h0, h1, h2⟩ := h
        rw [hF (.cell a t) v ⟨ad, h0, h1⟩]
        simp only [Result.andThen]
        rw [Sem.run_bind', ih _ h2]
        simp [Result.andThen]
  unfold results
  rw [h, List.mapM_toArray, Sem.run_bind']
  have h2 : ∀ (s : Sem (List Value)) (l : List Value), s.run P w = .ok l w → (List.toArray <$> s : Sem (Array Value)).run P w = .ok l.toArray w := by
    intro s l hs
    show (s.bind (Sem.pure ∘ List.toArray)).run P w = _
    have := Sem.run_bind' P s (fun l => (Sem.pure l.toArray : Sem (Array Value))) w
    exact this.trans (by rw [hs]; rfl)
  refine (congrArg (fun z => Result.andThen z _) (h2 _ _ (key _ (fun r v hr => ?_) rs vs hL))).trans ?_
  · cases r with
    | tmp t => simp only [] at hr; simp only [ha.get, Sem.run_pure, hr]
    | cell a t =>
      obtain ⟨ad, h1, h2⟩ := hr
      simp only [ha.get, h1]
      rw [Sem.run_bind']
      simp [asAddr, Result.andThen, h2]
  · match vs with
    | [] => simp [Result.andThen]
    | [v] => simp [Result.andThen]
    | v :: v' :: vs => simp [Result.andThen]
theorem re {fn : Func} {rs : List ResultVar} {vs : List Value} {v : Value} {r : ρ} {o : O} (hG : G o = some r) (hf : P.funcs[f]? = some fn) (h : fn.results = rs.toArray) (hL : ResL P w e rs vs) (hv : (match vs with | [v] => v | _ => .tuple vs.toArray) = v) (hR : R r (.returned v) w) : TM P f N (some o) G R (.code .ret :: k) e w :=
  rtG hG hf (fun a ha => by rw [← hv]; exact res_list h hL ha) hR
theorem sgi {S : Type} {g : S → Option ρ} {o : O} (h : TM P f N (some o) G R k e w) : TM P f N (some (.inr o)) (SG g G) R k e w := by
  intro o' ho r hr
  obtain rfl := Option.some.inj ho
  exact h o rfl r hr
theorem sgb {S : Type} {g : S → Option ρ} (h : TM P f N m G R k e w) : TM P f N (m.bind fun o => some (.inr o)) (SG g G) R k e w := by
  intro o' ho r hr
  obtain ⟨o, hm, ho⟩ := Option.bind_eq_some_iff.1 ho
  obtain rfl := Option.some.inj ho
  exact h o hm r hr
theorem jc {α : Type} {x : Option α} {km : α → Option O} {I : Item} (Inv : α → Env → World → Prop) (H : ∀ Gj : α → Option ρ, (∀ y e w, Inv y e w → TM P f N (some y) Gj R k e w) → TM P f N x Gj R (I :: k) e w)
    (J : ∀ y e w, Inv y e w → TM P f N (km y) G R k e w) : TM P f N (x.bind km) G R (I :: k) e w :=
  jb fun Gj hG => by subst hG; exact H _ fun y e w hI => jn (J y e w hI)
def sel {α β : Type} (f : α → Option β) : α ⊕ β → Option β
  | .inl y => f y
  | .inr o => some o
@[simp] theorem sel_inl {α β : Type} (f : α → Option β) (y : α) : sel f (.inl y) = f y := rfl
@[simp] theorem sel_inr {α β : Type} (f : α → Option β) (o : β) : sel f (.inr o) = some o := rfl
theorem ji {α : Type} {x : Option α} {km : α → Option O} (rest' : List Nat) {l : List Nat} (Inv : α → Env → World → Prop) (H : ∀ Gj : α → Option ρ, (∀ y e w, Inv y e w → TM P f N (some y) Gj R (.inRegion ops rest' :: k) e w) → TM P f N x Gj R (.inRegion ops l :: k) e w)
    (J : ∀ y e w, Inv y e w → TM P f N (km y) G R (.inRegion ops rest' :: k) e w) : TM P f N (x.bind km) G R (.inRegion ops l :: k) e w :=
  jb fun Gj hG => by subst hG; exact H _ fun y e w hI => jn (J y e w hI)
theorem jy (ds : List Nat) (rest' : List Nat) (t : Nat) (v : Value) {l : List Nat} (ht : memb ds t = true) (H : (∀ e', Ag ds e e' → e' t = v → TM P f N m G R (.inRegion ops rest' :: k) e' w) → TM P f N m G R (.inRegion ops l :: k) e w)
    (J : ∀ junk, TM P f N m G R (.inRegion ops rest' :: k) (upd (ovr ds junk e) t v) w) : TM P f N m G R (.inRegion ops l :: k) e w :=
  H fun e' ha hv => by
    have h1 := ha.ovr
    have h2 := upd_self hv
    have := J e'
    rw [← h1] at this
    rwa [h2] at this
theorem sbT {d : Nat} {b c : Bool} {todo : List Item} (hb : b = c) (h : TM P f N m G R todo (upd e d (.bool c)) w) : TM P f N m G R todo (upd e d (.bool b)) w := by subst hb; exact h
theorem Ag.ov {ds ds' : List Nat} {e e' junk : Env} (h : Ag ds e e') (hd : sub ds' ds = true) : Ag ds e (V.ovr ds' junk e') := fun t ht => by
  have : memb ds' t = false := by
    cases hm : memb ds' t with
    | false => rfl
    | true => rw [sub_out hd hm] at ht; cases ht
  simp only [V.ovr, this, cond_false]
  exact h t ht
theorem Ag.base {ds : List Nat} {e : Env} {d : Nat} {v v' : Value} (hd : memb ds d = true) : Ag ds (upd e d v) (upd e d v') := fun t ht => by
  have : t ≠ d := fun h => by rw [h, hd] at ht; cases ht
  rw [upd_ne _ _ _ _ this, upd_ne _ _ _ _ this]
theorem ue {e e' : Env} {d : Nat} {v : Value} (h : e = e') (hv : e d = v) : e = upd e' d v := by subst h; exact (upd_self hv).symm
end
section
variable {P : Program} {f : FuncId} {N : Nat} {O ρ : Type} {m : Option O} {G : O → Option ρ} {R : ρ → Ending → World → Prop} {e : Env} {s : St} {k : List Item} {ops : Array Oper} {i d : Nat} {rest : List Nat} {o : Oper}
theorem shrK {t1 t2 : TypeId} {k1 k2 : IntKind} {a b : Int} {x y : Operand} (h0 : decide (0 ≤ b) = true)
    (ho : ops[i]? = some o) (hd : o.dst = some d) (hN : Nat.blt d N = true) (hw : Region.wanted o (yv e ops) = true) (hop : o.op = .binOp .shr t1 x y t2) (hx : ev e x = .int k1 a) (hy : ev e y = .int k2 b)
    (h : TM P f N m G R (.inRegion ops rest :: k) (upd e d (.int k1 (ishr k1 a b))) s.w) : TM P f N m G R (.inRegion ops (i :: rest) :: k) e s.w := by
  have := shr_ (m := m) (s := s) ho hd hN hw hop hx hy h
  rwa [if_pos (of_decide_eq_true h0)] at this
theorem shlK {t1 t2 : TypeId} {k1 k2 : IntKind} {a b : Int} {x y : Operand} (h0 : decide (0 ≤ b) = true)
    (ho : ops[i]? = some o) (hd : o.dst = some d) (hN : Nat.blt d N = true) (hw : Region.wanted o (yv e ops) = true) (hop : o.op = .binOp .shl t1 x y t2) (hx : ev e x = .int k1 a) (hy : ev e y = .int k2 b)
    (h : TM P f N m G R (.inRegion ops rest :: k) (upd e d (.int k1 (ishl k1 a b))) s.w) : TM P f N m G R (.inRegion ops (i :: rest) :: k) e s.w := by
  have := shl_ (m := m) (s := s) ho hd hN hw hop hx hy h
  rwa [if_pos (of_decide_eq_true h0)] at this
theorem remK {t1 t2 : TypeId} {k1 : IntKind} {a b : Int} {x y : Operand} (h0 : decide (b ≠ 0) = true)
    (ho : ops[i]? = some o) (hd : o.dst = some d) (hN : Nat.blt d N = true) (hw : Region.wanted o (yv e ops) = true) (hop : o.op = .binOp .rem t1 x y t2) (hx : ev e x = .int k1 a) (hy : ev e y = .int k1 b)
    (h : TM P f N m G R (.inRegion ops rest :: k) (upd e d (.int k1 (a.tmod b))) s.w) : TM P f N m G R (.inRegion ops (i :: rest) :: k) e s.w := by
  have := rem_ (m := m) (s := s) ho hd hN hw hop hx hy h
  rwa [if_pos (of_decide_eq_true h0)] at this
theorem beq_ {t1 t2 : TypeId} {a b : Bool} {x y : Operand} (hu : P.underlying t1 = some .bool)
    (ho : ops[i]? = some o) (hd : o.dst = some d) (hN : Nat.blt d N = true) (hw : Region.wanted o (yv e ops) = true) (hop : o.op = .binOp .eql t1 x y t2) (hx : ev e x = .bool a) (hy : ev e y = .bool b)
    (h : TM P f N m G R (.inRegion ops rest :: k) (upd e d (.bool (a == b))) s.w) : TM P f N m G R (.inRegion ops (i :: rest) :: k) e s.w :=
  vl ho hd hN hw (by
    have : (Op.equal t1 (.bool a) (.bool b)).run P s.w = .ok (a == b) s.w := by
      unfold Op.equal Op.maxDepth Op.equalIn
      rw [Sem.run_bind', run_underlying hu]; simp [Result.andThen]
    simp [execOp, hop, hx, hy, binOp, eqGuard, this, Result.andThen]) h
theorem bne_ {t1 t2 : TypeId} {a b : Bool} {x y : Operand} (hu : P.underlying t1 = some .bool)
    (ho : ops[i]? = some o) (hd : o.dst = some d) (hN : Nat.blt d N = true) (hw : Region.wanted o (yv e ops) = true) (hop : o.op = .binOp .neq t1 x y t2) (hx : ev e x = .bool a) (hy : ev e y = .bool b)
    (h : TM P f N m G R (.inRegion ops rest :: k) (upd e d (.bool (!(a == b)))) s.w) : TM P f N m G R (.inRegion ops (i :: rest) :: k) e s.w :=
  vl ho hd hN hw (by
    have : (Op.equal t1 (.bool a) (.bool b)).run P s.w = .ok (a == b) s.w := by
      unfold Op.equal Op.maxDepth Op.equalIn
      rw [Sem.run_bind', run_underlying hu]; simp [Result.andThen]
    simp [execOp, hop, hx, hy, binOp, eqGuard, this, Result.andThen]) h
end
section
variable {P : Program} {f : FuncId} {N : Nat} {O ρ : Type} {m : Option O} {G : O → Option ρ} {R : ρ → Ending → World → Prop} {e : Env} {s : St} {k : List Item} {ops : Array Oper} {i d : Nat} {rest : List Nat} {o : Oper}
theorem sva {t b q : Nat} {tb : TypeId} {x y : Operand} {cs vs : List Value} {c : Nat} (hB : BlF s b tb cs c) (hs : (P.info? t).map (·.size) = some vs.length)
    (ho : ops[i]? = some o) (hd : o.dst = none) (hw : Region.wanted o (yv e ops) = true) (hop : o.op = .store t x y) (hx : ev e x = .pointer (some ⟨b, q, none⟩)) (hy : ev e y = .agg vs.toArray) (hv : vs.all (·.oneCell') = true) (hq : Nat.ble (q + vs.length) cs.length = true)
    (h : ∀ s', Stp [c] s s' → BlF s' b tb (sets cs q vs) c → TM P f N m G R (.inRegion ops rest :: k) e s'.w) : TM P f N m G R (.inRegion ops (i :: rest) :: k) e s.w := by
  have key : ∀ (vs : List Value) (j : Nat) (cs : List Value) (s : St), BlF s b tb cs c → vs.all (·.oneCell') = true → q + j + vs.length ≤ cs.length →
      ∃ s' : St, (storeCells ⟨b, q, none⟩ vs j).run P s.w = .ok () s'.w ∧ Stp [c] s s' ∧ BlF s' b tb (sets cs (q + j) vs) c := by
    intro vs
    induction vs with
    | nil => intro j cs s hB _ _; exact ⟨s, by simp [storeCells], ⟨rfl, rfl, rfl, Nat.le_refl _, fun _ _ _ => rfl, fun _ _ _ => ⟨rfl, rfl⟩⟩, hB⟩
    | cons v vs ih =>
      intro j cs s hB hv hq
      simp only [List.all_cons, Bool.and_eq_true] at hv
      obtain ⟨s1, hs1, p1, hB1⟩ := Stp.set (q := q + j) hB v
      obtain ⟨s2, hs2, p2, hB2⟩ := ih (j + 1) (cs.set (q + j) v) s1 hB1 hv.2 (by simp at hq ⊢; omega)
      refine ⟨s2, ?_, ?_, hB2⟩
      · unfold storeCells
        rw [Sem.run_bind']
        have hlt : q + j < cs.length := by simp at hq; omega
        have hcell : s.w.cell? ⟨b, q + j, none⟩ = some cs[q + j] := bl_cell hB (List.getElem?_eq_getElem hlt)
        have hfr : s.w.frozen? ⟨b, q + j, none⟩ = false := by simp [World.frozen?, hB.1]
        have ha : (⟨b, q, none⟩ : Addr).add j = ⟨b, q + j, none⟩ := Addr.add_mid b q j
        have hst : (store ((⟨b, q, none⟩ : Addr).add j) v).run P s.w = .ok () s1.w := by
          rw [ha, hs1]
          have hv1 := hv.1
          cases v <;> first | (cases hv1; done) | simp [store, Sem.run, hcell, hfr]
        rw [hst]
        simp only [Result.andThen]
        exact hs2
      · have := p1.trans p2
        refine ⟨this.os, this.tape, this.output, this.size, this.low, fun b' hb' hm => this.same b' hb' ?_⟩
        simp only [memb, List.cons_append, List.nil_append, Bool.or_eq_false_iff] at hm ⊢
        exact ⟨hm.1, hm.1, trivial⟩
  obtain ⟨s', hs', p, hB'⟩ := key vs 0 cs s hB hv (by have := Nat.le_of_ble_eq_true hq; omega)
  refine vd (w' := s'.w) ho hd hw ?_ (h s' p hB')
  have : (Instr.storeAt t (.pointer (some ⟨b, q, none⟩)) (.agg vs.toArray)).run P s.w = .ok () s'.w := by
    unfold Instr.storeAt
    rw [Sem.run_bind']
    simp only [Instr.sureAddr, Sem.run_pure, Result.andThen]
    unfold storeVar
    rw [Sem.run_bind', size_run hs]
    simp only [Result.andThen, Value.cells]
    simp [hs']
  simp [execOp, hop, hx, hy, this, Result.andThen]
theorem lt0 {α : Type} {K : Kd α} {t te n : Nat} (c : Nat) (hu : P.underlying t = some (.slice te)) (hs : (P.info? te).map (·.size) = some n)
    (ho : ops[i]? = some o) (hd : o.dst = some d) (hN : Nat.blt d N = true) (hw : Region.wanted o (yv e ops) = true) (hop : o.op = .buildSlice t 0 #[])
    (h : ∀ v s', Stp [] s s' → OwF (Kd.sl te K) s' [v] [] c → TM P f N m G R (.inRegion ops rest :: k) (upd e d v) s'.w) :
    TM P f N m G R (.inRegion ops (i :: rest) :: k) e s.w := by
  obtain ⟨s', hs', p, nn, hrow⟩ := new_row (s := s) (te := te) (n := K.n) (l := 0) (cells := #[]) c rfl (by simp) (Nat.zero_le _)
  have hrow2 : (newRow te #[]).run P s.w = .ok ⟨s.w.heap.size, 0, none⟩ (s.w.alloc (.cells #[] te)) := by simp [newRow, newObj]; rfl
  have : (Instr.buildSlice t 0 #[]).run P s.w = .ok (.slice (some ⟨s.w.heap.size, 0, none⟩) 0 0) (s.w.alloc (.cells #[] te)) := by
    unfold Instr.buildSlice
    rw [Sem.run_bind', run_underlying hu]
    simp only [Result.andThen]
    rw [Sem.run_bind', size_run hs]
    simp only [Result.andThen, Nat.zero_mul]
    have h0 : (Array.range 0).map (fun _ => (default : Value)) = #[] := by simp [Array.range]
    simp [Instr.fill, h0, hrow2, Result.andThen]
  refine vl (v := .slice (some ⟨s.w.heap.size, 0, none⟩) 0 0) (w' := s'.w) ho hd hN hw (by rw [hs']; simp [execOp, hop, this, Result.andThen]) (h _ s' p ?_)
  refine ⟨[s.w.heap.size] ++ [], ⟨_, rfl, _, _, [], rfl, by simpa using hrow, by simp [ElsO]⟩, by simp, fun b hb => ?_⟩
  simp at hb; subst hb; exact nn.new _ (Nat.le_refl _)
end
theorem RdF.one {α : Type} {te : TypeId} {K : Kd α} {s : St} {v : Value} {xs : List α} {C : List Nat} (h : RdF (Kd.sl te K) s [v] xs C) : v.oneCell' = true := (Kd.sl te K).rd_one h v (by simp)
theorem on_nil : ([] : List Value).all (·.oneCell') = true := rfl
theorem on_cons {v : Value} {vs : List Value} (h : v.oneCell' = true) (h2 : vs.all (·.oneCell') = true) : (v :: vs).all (·.oneCell') = true := by simp only [List.all_cons, h, h2, Bool.and_self]

structure Z0 (F : Nat → Prop) (s : St) : Prop where
  z : ∀ b, F b ↔ s.g b = 0
  lt : ∀ b, s.g b < 2
theorem start0 (w : World) (F : Nat → Prop) : ∃ s : St, s.w = w ∧ Kp s s ∧ Z0 F s := by
  refine ⟨st0 w F, rfl, st0_kp w F, ⟨fun b => ?_, fun b => ?_⟩⟩ <;> unfold st0 <;> dsimp only <;> split <;> simp_all
theorem Z0.rd {F : Nat → Prop} {s : St} (z : Z0 F s) {α : Type} {K : Kd α} {cs : List Value} {x : α} (h : K.rd s.w cs x F) : RdF K s cs x [0] :=
  K.rd_mono h fun b hb _ => by rw [(z.z b).1 hb]; rfl
theorem Z0.ky {F : Nat → Prop} {s s' : St} (z : Z0 F s) (p : Kp s s') : Ky [] s.w s'.w := ⟨p.os, p.tape, p.output, p.size, fun b hb _ => p.same b hb (z.lt b)⟩
theorem Z0.fr {F : Nat → Prop} {s s' : St} (z : Z0 F s) (p : Kp s s') {α : Type} {K : Kd α} {cs : List Value} {x : α} {C : List Nat} (h : RdF K s' cs x C) (hC : okC C = true) : FR K F s.w s'.w cs x := by
  refine K.rd_mono h fun b hb _ => ?_
  by_cases hl : b < s.w.heap.size
  · right
    have h3 : s.g b < 40 := Nat.lt_trans (z.lt b) (by omega)
    have h1 := p.col b hl h3
    have h2 := okC_out hC hb
    rw [h1] at h2
    exact (z.z b).2 (by omega)
  · left; omega
theorem Z0.l {F : Nat → Prop} {s : St} (z : Z0 F s) : ∀ b, s.g b < 40 := fun b => Nat.lt_trans (z.lt b) (by omega)
structure Z1 (F : Nat → Prop) (os : List Nat) (s : St) : Prop where
  z : ∀ b, F b ↔ s.g b = 0
  o : ∀ b, b ∈ os ↔ s.g b = 2
  lt : ∀ b, s.g b < 3
theorem start1 (w : World) (F : Nat → Prop) (os : List Nat) (h : ∀ b, F b → b ∉ os) : ∃ s : St, s.w = w ∧ Kp s s ∧ Z1 F os s := by
  refine ⟨⟨w, fun b => open Classical in if F b then 0 else if b ∈ os then 2 else 1⟩, rfl, Kp.refl _ fun b _ => ?_, ⟨fun b => ?_, fun b => ?_, fun b => ?_⟩⟩
  · dsimp only; split
    · omega
    · split <;> omega
  · dsimp only; split
    · simp_all
    · split <;> simp_all
  · dsimp only; split
    · rename_i hF; have := h b hF; simp_all
    · split <;> simp_all
  · dsimp only; split
    · omega
    · split <;> omega
theorem Z1.l {F : Nat → Prop} {os : List Nat} {s : St} (z : Z1 F os s) : ∀ b, s.g b < 40 := fun b => Nat.lt_trans (z.lt b) (by omega)
theorem Z1.rd {F : Nat → Prop} {os : List Nat} {s : St} (z : Z1 F os s) {α : Type} {K : Kd α} {cs : List Value} {x : α} (h : K.rd s.w cs x F) : RdF K s cs x [0] :=
  K.rd_mono h fun b hb _ => by rw [(z.z b).1 hb]; rfl
theorem Z1.ow {F : Nat → Prop} {os : List Nat} {s : St} (z : Z1 F os s) {α : Type} {K : Kd α} {cs : List Value} {x : α} (h : K.ow s.w cs x os) (hn : os.Nodup) : OwF K s cs x 2 := ⟨os, h, hn, fun b hb => (z.o b).1 hb⟩
theorem Z1.ky {F : Nat → Prop} {os : List Nat} {s s' : St} (z : Z1 F os s) (p : Kp s s') : Ky os s.w s'.w := ⟨p.os, p.tape, p.output, p.size, fun b hb hn => p.same b hb (by
  have := z.lt b
  have h2 : s.g b ≠ 2 := fun h => hn ((z.o b).2 h)
  omega)⟩
theorem Z1.fw {F : Nat → Prop} {os : List Nat} {s s' : St} (z : Z1 F os s) (p : Kp s s') {α : Type} {K : Kd α} {cs : List Value} {x : α} (h : OwF K s' cs x 2) : FW K os s.w s'.w cs x := by
  obtain ⟨os', ho, hn, hc⟩ := h
  refine ⟨os', ho, hn, fun b hb => ?_⟩
  by_cases hl : b < s.w.heap.size
  · left
    have h1 := p.col b hl (Nat.lt_trans (z.lt b) (by omega))
    rw [hc b hb] at h1
    exact (z.o b).2 h1.symm
  · right; omega
theorem Z1.fr {F : Nat → Prop} {os : List Nat} {s s' : St} (z : Z1 F os s) (p : Kp s s') {α : Type} {K : Kd α} {cs : List Value} {x : α} {C : List Nat} (h : RdF K s' cs x C) (hC : okC C = true) : FR K F s.w s'.w cs x := by
  refine K.rd_mono h fun b hb _ => ?_
  by_cases hl : b < s.w.heap.size
  · right
    have h3 : s.g b < 40 := Nat.lt_trans (z.lt b) (by omega)
    have h1 := p.col b hl h3
    have h2 := okC_out hC hb
    rw [h1] at h2
    exact (z.z b).2 (by omega)
  · left; omega

theorem OwF.rc {α : Type} {K : Kd α} {s : St} {cs : List Value} {x : α} {d : Nat} (h : OwF K s cs x d) (c : Nat) (hd : Nat.ble 40 d = true) : ∃ s' : St, s.w = s'.w ∧ Stp [d] s s' ∧ OwF K s' cs x c := by
  have hd' := Nat.le_of_ble_eq_true hd
  obtain ⟨os, ho, hn, hc⟩ := h
  refine ⟨⟨s.w, fun b => if s.g b = d then c else s.g b⟩, rfl, ⟨rfl, rfl, rfl, Nat.le_refl _, fun b hb hl => ?_, fun b hb hm => ⟨?_, rfl⟩⟩, os, ho, hn, fun b hb => ?_⟩
  · have : ¬ s.g b = d := by omega
    simp [this]
  · have : ¬ s.g b = d := fun h => by rw [h] at hm; simp [memb] at hm
    simp [this]
  · simp [hc b hb]
theorem RwF.rc {α : Type} {e : TypeId} {K : Kd α} {s : St} {v : Value} {xs : List α} {d : Nat} {C : List Nat} (h : RwF e K s v xs d C) (c : Nat) (hd : Nat.ble 40 d = true) (hC : memb C d = false) : ∃ s' : St, s.w = s'.w ∧ Stp [d] s s' ∧ RwF e K s' v xs c C := by
  have hd' := Nat.le_of_ble_eq_true hd
  obtain ⟨cells, os, hr, hc, he⟩ := h
  refine ⟨⟨s.w, fun b => if s.g b = d then c else s.g b⟩, rfl, ⟨rfl, rfl, rfl, Nat.le_refl _, fun b hb hl => ?_, fun b hb hm => ⟨?_, rfl⟩⟩, cells, os, hr, fun b hb => ?_, he.mono fun b hb _ => ?_⟩
  · have : ¬ s.g b = d := by omega
    simp [this]
  · have : ¬ s.g b = d := fun h => by rw [h] at hm; simp [memb] at hm
    simp [this]
  · simp [hc b hb]
  · have : ¬ s.g b = d := fun h => by rw [h] at hb; rw [hb] at hC; cases hC
    simp only [this, if_false]; exact hb

theorem nwo {α : Type} {K : Kd α} {s : St} {cs' : List Value} {x' : α} {p : Nat} {os : List Nat} {w' : World} (c : Nat) (hc : ∀ b ∈ os, s.g b = p) (ky : Ky os s.w w') (h : FW K os s.w w' cs' x') :
    ∃ s' : St, s'.w = w' ∧ Stp [p] s s' ∧ OwF K s' cs' x' p := by
  obtain ⟨os', ho, hn, hf⟩ := h
  refine ⟨⟨w', fun b => open Classical in if b < s.w.heap.size then s.g b else if b ∈ os' then p else c⟩, rfl, ⟨ky.os, ky.tape, ky.output, ky.size, fun b hb _ => by simp [hb], fun b hb hm => ⟨by simp [hb], ky.same b hb fun h => ?_⟩⟩, os', ho, hn, fun b hb => ?_⟩
  · rw [hc b h] at hm; simp [memb] at hm
  · dsimp only
    by_cases hl : b < s.w.heap.size
    · rw [if_pos hl]
      rcases hf b hb with h | h
      · exact hc b h
      · omega
    · rw [if_neg hl, if_pos hb]
theorem apart_of {s : St} {os : List Nat} {p : Nat} {C : List Nat} (hc : ∀ b ∈ os, s.g b = p) (h : memb C p = false) : ∀ b, memb C (s.g b) = true → b ∉ os := fun b hb hm => by
  rw [hc b hm] at hb; rw [hb] at h; cases h
end Go.Proofs.Ytcagjdngannneaa.V
