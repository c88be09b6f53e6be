
import Derived.Test.YtcagjdngannneaaVi
set_option linter.unusedVariables false
set_option linter.unusedSimpArgs false
namespace Go.Proofs.Ytcagjdngannneaa.V
open Go

def Qv (P : Program) (N : Nat) (ops : Array Oper) (e : Env) (w : World) (i d : Nat) (v : Value) : Prop :=
  ∃ o, ops[i]? = some o ∧ o.dst = some d ∧ Nat.blt d N = true ∧ selB o = false ∧
    ((Region.wanted o (yv e ops) = true ∧ (execOp (ev e) o).run P w = .ok (.value v) w) ∨ (Region.wanted o (yv e ops) = false ∧ v = undef))
def Pq (P : Program) (N : Nat) (ops : Array Oper) (e : Env) (w : World) : List Nat → Prop
  | [] => True
  | i :: L => (∃ d, Qv P N ops e w i d (e d)) ∧ Pq P N ops e w L
theorem pq_nil {P : Program} {N : Nat} {ops : Array Oper} {e : Env} {w : World} : Pq P N ops e w [] := trivial
theorem pq_cons {P : Program} {N : Nat} {ops : Array Oper} {e : Env} {w : World} {i d : Nat} {L : List Nat} {v : Value} (h : Qv P N ops e w i d v) (hv : e d = v) (h2 : Pq P N ops e w L) : Pq P N ops e w (i :: L) := ⟨⟨d, by rw [hv]; exact h⟩, h2⟩
theorem Pq.out {P : Program} {N : Nat} {ops : Array Oper} {e : Env} {w : World} {L : List Nat} (h : Pq P N ops e w L) {i : Nat} (hi : i ∈ L) : ∃ d, Qv P N ops e w i d (e d) := by
  induction L with
  | nil => cases hi
  | cons x L ih =>
    rcases List.mem_cons.1 hi with rfl | hi
    · exact h.1
    · exact ih h.2 hi
theorem Qv.congr {P : Program} {N : Nat} {ops : Array Oper} {e e' : Env} {w : World} {i d : Nat} {v : Value} (h : Qv P N ops e w i d v) (ha : ∀ t ∈ (lks ops).getD i [], e' t = e t) : Qv P N ops e' w i d v := by
  obtain ⟨o, ho, hd, hN, hs, h⟩ := h
  have hl : (lks ops).getD i [] = lk1 ops o := by simp [lks, List.getD_eq_getElem?_getD, ho]
  rw [hl] at ha
  have hx : ∀ x ∈ o.op.operands.toList, ev e' x = ev e x := by
    intro x hx
    cases x with
    | tmp t => exact ha t (by simp only [lk1, List.mem_append, List.mem_flatMap]; exact .inl ⟨_, hx, by simp [tmpOf]⟩)
    | const v => rfl
    | global g => rfl
    | func f => rfl
  have hy : Region.wanted o (yv e' ops) = Region.wanted o (yv e ops) := by
    unfold Region.wanted
    cases hg : o.guard with
    | none => rfl
    | some gw =>
      obtain ⟨g, want⟩ := gw
      simp only []
      have : yv e' ops g = yv e ops g := by
        unfold yv
        cases hb : (ops[g]?).bind (·.dst) with
        | none => rfl
        | some t =>
          simp only []
          rw [ha t (by simp [lk1, hg, hb])]
      rw [this]
  refine ⟨o, ho, hd, hN, hs, ?_⟩
  rw [hy, exec_congr o (ev e') (ev e) hs hx]
  exact h
structure Zr (E : List (List Nat)) (Ds : List (Option Nat)) (L D : List Nat) (l : List Nat) (e Ec : Env) : Prop where
  nd : l.Nodup
  lt : ∀ i ∈ l, i < E.length
  dn : ∀ i, i < E.length → i ∉ l → ∀ j ∈ E.getD i [], j ∉ l
  dep : ∀ a i b, l = a ++ i :: b → ∀ j ∈ E.getD i [], j ∉ i :: b
  done : ∀ i ∈ D, i ∉ l
  ld : ∀ i, i < E.length → i ∉ l → i ∈ D ∨ i ∈ L
  env : ∀ t, (∀ j ∈ L, Ds.getD j none = some t → j ∉ l) → e t = Ec t
theorem Zr.start {E : List (List Nat)} {Ds : List (Option Nat)} {l : List Nat} {e : Env} {n : Nat} (h : Ext n E l) (hn : E.length = n) : Zr E Ds [] [] l e e := by
  subst hn
  refine ⟨h.nd, fun i hi => (h.all i).1 hi, fun i h1 h2 => absurd ((h.all i).2 h1) h2, fun a i b hab j hj hm => ?_, by simp, fun i h1 h2 => absurd ((h.all i).2 h1) h2, fun _ _ => rfl⟩
  have h1 := h.dep a i b hab j hj
  have h2 := h.nd
  rw [hab, List.nodup_append] at h2
  exact h2.2.2 j h1 j hm rfl
section
variable {E : List (List Nat)} {Ds : List (Option Nat)} {L D l : List Nat} {e Ec : Env}
def optB (x : Option Nat) (d : Nat) : Bool := match x with
  | some t => Nat.beq t d
  | none => false
theorem optB_iff {x : Option Nat} {d : Nat} : optB x d = true ↔ x = some d := by
  cases x with
  | none => simp [optB]
  | some t => simp only [optB, Option.some.injEq]; exact ⟨Nat.eq_of_beq_eq_true, fun h => by rw [h]; exact Nat.beq_refl d⟩
theorem nmemb {C : List Nat} {n : Nat} (h : memb C n = false) : n ∉ C := fun hm => by rw [memb_iff.2 hm] at h; cases h
theorem Zr.add (z : Zr E Ds L D l e Ec) (i d : Nat) (v : Value) (h : (Nat.blt i E.length && optB (Ds.getD i none) d && !memb L i && !memb D i) = true) : Zr E Ds (i :: L) D l e (upd Ec d v) := by
  simp only [Bool.and_eq_true, Bool.not_eq_true', optB_iff] at h
  obtain ⟨⟨⟨h0, h1⟩, h2⟩, h3⟩ := h
  have h0' : i < E.length := by simp [Nat.blt] at h0; omega
  refine ⟨z.nd, z.lt, z.dn, z.dep, z.done, fun j hj hl => (z.ld j hj hl).imp id fun h => List.mem_cons_of_mem _ h, fun t ht => ?_⟩
  have hne : t ≠ d := by
    rintro rfl
    rcases z.ld i h0' (ht i (by simp) h1) with h | h
    · exact nmemb h3 h
    · exact nmemb h2 h
  rw [upd_ne _ _ _ _ hne]
  exact z.env t fun j hj => ht j (List.mem_cons_of_mem _ hj)
def scan (E : List (List Nat)) : Nat → List Nat → List Nat
  | 0, acc => acc
  | n + 1, acc => scan E n (bif memb acc n then (E.getD n []).filter (fun j => !memb acc j) ++ acc else acc)
theorem scan_out {l : List Nat} (hE : ∀ i, i ∉ l → i < E.length → ∀ j ∈ E.getD i [], j ∉ l) (hlt : ∀ i ∈ l, i < E.length) : ∀ n acc, (∀ x ∈ acc, x ∉ l) → ∀ x ∈ scan E n acc, x ∉ l := by
  intro n
  induction n with
  | zero => intro acc h; exact h
  | succ n ih =>
    intro acc h
    refine ih _ fun x hx => ?_
    cases hm : memb acc n with
    | false => rw [hm] at hx; exact h x hx
    | true =>
      rw [hm] at hx
      simp only [cond_true, List.mem_append, List.mem_filter] at hx
      rcases hx with hx | hx
      · by_cases hn : n < E.length
        · exact hE n (h n (memb_iff.1 hm)) hn x hx.1
        · have : E.getD n [] = [] := by rw [List.getD_eq_getElem?_getD, List.getElem?_eq_none (by omega)]; rfl
          rw [this] at hx; cases hx.1
      · exact h x hx
theorem Zr.scan (z : Zr E Ds L D l e Ec) (n : Nat) : ∀ x ∈ V.scan E n D, x ∉ l := scan_out (fun i h1 h2 => z.dn i h2 h1) z.lt n D z.done
def pend (E : List (List Nat)) (n : Nat) (L D : List Nat) : List Nat := L.filter fun i => !memb (scan E n D) i
theorem scan_mem : ∀ (n : Nat) (acc : List Nat) (x : Nat), x ∈ acc → x ∈ V.scan E n acc := by
  intro n
  induction n with
  | zero => intro acc x h; exact h
  | succ n ih =>
    intro acc x h
    refine ih _ x ?_
    cases memb acc n with
    | false => exact h
    | true => exact List.mem_append.2 (.inr h)
theorem Zr.settle (z : Zr E Ds L D l e Ec) (n : Nat) : Zr E Ds (pend E n L D) (V.scan E n D) l e Ec := by
  have hs := z.scan n
  refine ⟨z.nd, z.lt, z.dn, z.dep, hs, fun i h1 h2 => ?_, fun t ht => z.env t fun j hj hd => ?_⟩
  · rcases z.ld i h1 h2 with h | h
    · exact .inl (scan_mem n D i h)
    · cases hm : memb (V.scan E n D) i with
      | true => exact .inl (memb_iff.1 hm)
      | false => exact .inr (List.mem_filter.2 ⟨h, by simp [hm]⟩)
  · cases hm : memb (V.scan E n D) j with
    | true => exact hs j (memb_iff.1 hm)
    | false => exact ht j (List.mem_filter.2 ⟨hj, by simp [hm]⟩) hd
theorem Zr.run {i d : Nat} (z : Zr E Ds L D (i :: l) e Ec) (hi : i ∈ L) (hd : Ds.getD i none = some d) : Zr E Ds L D l (upd e d (Ec d)) Ec := by
  have hnd := List.nodup_cons.1 z.nd
  refine ⟨hnd.2, fun j hj => z.lt j (List.mem_cons_of_mem _ hj), fun j hj hl x hx hm => ?_, fun a j b hab => z.dep (i :: a) j b (by rw [hab]; rfl), fun j hj hl => z.done j hj (List.mem_cons_of_mem _ hl), fun j hj hl => ?_, fun t ht => ?_⟩
  · by_cases hji : j = i
    · subst hji; exact z.dep [] j l rfl x hx (List.mem_cons_of_mem _ hm)
    · exact z.dn j hj (by simp [hji, hl]) x hx (List.mem_cons_of_mem _ hm)
  · by_cases hji : j = i
    · subst hji; exact .inr hi
    · exact z.ld j hj (by simp [hji, hl])
  · by_cases htd : t = d
    · subst htd; rw [upd_at]
    · rw [upd_ne _ _ _ _ htd]
      refine z.env t fun j hj hjt hm => ?_
      rcases List.mem_cons.1 hm with rfl | hm
      · rw [hd] at hjt; exact htd (Option.some.inj hjt).symm
      · exact ht j hj hjt hm
theorem Zr.eff {c d : Nat} {v : Value} (z : Zr E Ds L D (c :: l) e Ec) (hd : Ds.getD c none = some d) (hc : memb L c = false) : Zr E Ds L (c :: D) l (upd e d v) (upd Ec d v) := by
  have hnd := List.nodup_cons.1 z.nd
  refine ⟨hnd.2, fun j hj => z.lt j (List.mem_cons_of_mem _ hj), fun j hj hl x hx hm => ?_, fun a j b hab => z.dep (c :: a) j b (by rw [hab]; rfl), fun j hj hl => ?_, fun j hj hl => ?_, fun t ht => ?_⟩
  · by_cases hji : j = c
    · subst hji; exact z.dep [] j l rfl x hx (List.mem_cons_of_mem _ hm)
    · exact z.dn j hj (by simp [hji, hl]) x hx (List.mem_cons_of_mem _ hm)
  · rcases List.mem_cons.1 hj with rfl | hj
    · exact hnd.1 hl
    · exact z.done j hj (List.mem_cons_of_mem _ hl)
  · by_cases hji : j = c
    · exact .inl (by simp [hji])
    · exact (z.ld j hj (by simp [hji, hl])).imp (List.mem_cons_of_mem _) id
  · by_cases htd : t = d
    · subst htd; rw [upd_at, upd_at]
    · rw [upd_ne _ _ _ _ htd, upd_ne _ _ _ _ htd]
      refine z.env t fun j hj hjt hm => ?_
      rcases List.mem_cons.1 hm with rfl | hm
      · exact nmemb hc hj
      · exact ht j hj hjt hm
end
structure Tb (ops : Array Oper) (E : List (List Nat)) (Ds : List (Option Nat)) (Us : List (List Nat)) : Prop where
  e : eds .any ops = E
  d : dss ops = Ds
  u : lks ops = Us
def mix (pd : List (Option Nat)) (Ec e : Env) : Env := fun t => bif pd.any (fun x => optB x t) then e t else Ec t
def useB (E : List (List Nat)) (Ds : List (Option Nat)) (Us : List (List Nat)) (L : List Nat) : Bool :=
  allB L fun i => allB L fun j => match Ds.getD j none with
    | some t => !memb (Us.getD i []) t || memb (E.getD i []) j
    | none => true
def rangeB : Nat → (Nat → Bool) → Bool
  | 0, _ => true
  | n + 1, p => p n && rangeB n p
theorem rangeB_out {n : Nat} {p : Nat → Bool} (h : rangeB n p = true) : ∀ i, i < n → p i = true := by
  induction n with
  | zero => intro i hi; omega
  | succ n ih =>
    simp only [rangeB, Bool.and_eq_true] at h
    intro i hi
    by_cases hin : i = n
    · subst hin; exact h.1
    · exact ih h.2 i (by omega)
def anyB : List Nat → (Nat → Bool) → Bool
  | [], _ => false
  | x :: xs, p => p x || anyB xs p
theorem anyB_out {xs : List Nat} {p : Nat → Bool} (h : anyB xs p = true) : ∃ x ∈ xs, p x = true := by
  induction xs with
  | nil => cases h
  | cons y ys ih =>
    simp only [anyB, Bool.or_eq_true] at h
    rcases h with h | h
    · exact ⟨y, by simp, h⟩
    · obtain ⟨x, hx, hp⟩ := ih h; exact ⟨x, by simp [hx], hp⟩
def nextB (E : List (List Nat)) (L D : List Nat) (c : Nat) : Bool :=
  Nat.blt c E.length && !memb L c && !memb D c && rangeB E.length fun i => Nat.beq i c || memb L i || memb D i || anyB (E.getD i []) (fun j => Nat.blt j E.length && !memb L j && !memb D j)

section
variable {P : Program} {f : FuncId} {N : Nat} {O ρ : Type} {m : Option O} {G : O → Option ρ} {R : ρ → Ending → World → Prop} {k : List Item} {ops : Array Oper}
variable {E : List (List Nat)} {Ds : List (Option Nat)} {Us : List (List Nat)} {L D l : List Nat} {e Ec : Env} {w : World}
theorem quiet (tb : Tb ops E Ds Us) {i : Nat} (z : Zr E Ds L D (i :: l) e Ec) (hq : Pq P N ops Ec w L) (hu : useB E Ds Us L = true) (hi : i ∈ L)
    (h : ∀ e', Zr E Ds L D l e' Ec → TM P f N m G R (.inRegion ops l :: k) e' w) : TM P f N m G R (.inRegion ops (i :: l) :: k) e w := by
  obtain ⟨d, hv⟩ := hq.out hi
  have hv' : Qv P N ops e w i d (Ec d) := hv.congr fun t ht => by
    refine z.env t fun j hj hjt => ?_
    have := allB_out (allB_out hu i hi) j hj
    simp only [hjt] at this
    rw [tb.u] at ht
    rw [memb_iff.2 ht] at this
    simp only [Bool.not_true, Bool.false_or] at this
    intro hm
    exact z.dep [] i l rfl j (memb_iff.1 this) hm
  obtain ⟨o, ho, hd, hN, hs, hr⟩ := hv'
  have hdd : Ds.getD i none = some d := by
    rw [← tb.d]; simp [dss, List.getD_eq_getElem?_getD, ho, hd]
  have z' := z.run hi hdd
  rcases hr with ⟨hw, hr⟩ | ⟨hw, hr⟩
  · exact vl ho hd hN hw hr (h _ z')
  · rw [hr] at z'
    exact uw ho hd hN hw (h _ z')
theorem zstep (c : Nat) (pd : List (Option Nat)) (tb : Tb ops E Ds Us) (z : Zr E Ds L D l e Ec) (hq : Pq P N ops Ec w L) (hb : (useB E Ds Us L && nextB E L D c) = true)
    (hp : ((pend E E.length L [c]).map fun i => Ds.getD i none) = pd)
    (h : ∀ l' e', Zr E Ds L D (c :: l') (mix pd Ec e') Ec → TM P f N m G R (.inRegion ops (c :: l') :: k) (mix pd Ec e') w) : TM P f N m G R (.inRegion ops l :: k) e w := by
  simp only [Bool.and_eq_true] at hb
  obtain ⟨hu, hn⟩ := hb
  simp only [nextB, Bool.and_eq_true, Bool.not_eq_true'] at hn
  obtain ⟨⟨⟨hc, hcL⟩, hcD⟩, hn⟩ := hn
  have hc' : c < E.length := by simp [Nat.blt] at hc; omega
  induction l generalizing e with
  | nil =>
    rcases z.ld c hc' (by simp) with h | h
    · exact absurd h (nmemb hcD)
    · exact absurd h (nmemb hcL)
  | cons i l ih =>
    by_cases hi : i ∈ L
    · exact quiet tb z hq hu hi fun e' z' => ih z'
    · have hD : i ∉ D := fun h => z.done i h (by simp)
      have hlt := z.lt i (by simp)
      have := rangeB_out hn i hlt
      simp only [Bool.or_eq_true] at this
      have hic : i = c := by
        rcases this with ((h | h) | h) | h
        · exact Nat.eq_of_beq_eq_true h
        · exact absurd (memb_iff.1 h) hi
        · exact absurd (memb_iff.1 h) hD
        · obtain ⟨j, hj, hp⟩ := anyB_out h
          simp only [Bool.and_eq_true, Bool.not_eq_true'] at hp
          have hjl : j ∉ i :: l := z.dep [] i l rfl j hj
          have hjlt : j < E.length := by have := hp.1.1; simp [Nat.blt] at this; omega
          rcases z.ld j hjlt hjl with h | h
          · exact absurd h (nmemb hp.2)
          · exact absurd h (nmemb hp.1.2)
      subst hic
      have he : e = mix pd Ec e := by
        funext t
        unfold mix
        cases hm : pd.any (fun x => optB x t) with
        | true => rfl
        | false =>
          refine z.env t fun j hj hjt hm2 => ?_
          have hjp : memb (pend E E.length L [i]) j = false := by
            cases hh : memb (pend E E.length L [i]) j with
            | false => rfl
            | true =>
              have : pd.any (fun x => optB x t) = true := by
                rw [List.any_eq_true]
                refine ⟨some t, ?_, optB_iff.2 rfl⟩
                rw [← hp]
                exact List.mem_map.2 ⟨j, memb_iff.1 hh, hjt⟩
              rw [this] at hm; cases hm
          have hjs : j ∈ scan E E.length [i] := by
            cases hh : memb (scan E E.length [i]) j with
            | true => exact memb_iff.1 hh
            | false => exact absurd (List.mem_filter.2 ⟨hj, by simp [hh]⟩ : j ∈ pend E E.length L [i]) (nmemb hjp)
          have hnd := List.nodup_cons.1 z.nd
          have := scan_out (E := E) (l := l) (fun x hx hlt y hy hm => by
            by_cases hxi : x = i
            · subst hxi; exact z.dep [] x l rfl y hy (List.mem_cons_of_mem _ hm)
            · exact z.dn x hlt (by simp [hxi, hx]) y hy (List.mem_cons_of_mem _ hm)) (fun x hx => z.lt x (List.mem_cons_of_mem _ hx)) E.length [i] (by simpa using hnd.1) j hjs
          rcases List.mem_cons.1 hm2 with rfl | hm2
          · exact nmemb hcL hj
          · exact this hm2
      rw [he] at z ⊢
      exact h l e z
theorem zdone {d : Nat} {v : Value} {l' L' D' : List Nat} {c : Nat} {e1 E1 : Env} (z : Zr E Ds L D (c :: l') e1 E1) (hb : (optB (Ds.getD c none) d && !memb L c) = true)
    (hL : pend E E.length L (c :: D) = L') (hD : scan E E.length (c :: D) = D')
    (h : Zr E Ds L' D' l' (upd e1 d v) (upd E1 d v) → TM P f N m G R (.inRegion ops l' :: k) (upd e1 d v) w) : TM P f N m G R (.inRegion ops l' :: k) (upd e1 d v) w := by
  simp only [Bool.and_eq_true, Bool.not_eq_true'] at hb
  have := (z.eff (v := v) (optB_iff.1 hb.1) hb.2).settle E.length
  rw [hL, hD] at this
  exact h this
def chainB (E : List (List Nat)) : List Nat → Bool
  | [] => true
  | [_] => true
  | r :: r' :: rs => memb (E.getD r' []) r && chainB E (r' :: rs)
def finB (E : List (List Nat)) (Ds : List (Option Nat)) (Us : List (List Nat)) (L D rest : List Nat) : Bool :=
  useB E Ds Us L && rangeB E.length (fun i => memb L i || memb D i || memb rest i) && allB rest (fun i => !memb L i && !memb D i && Nat.blt i E.length) && chainB E rest &&
    (match rest with
     | [] => true
     | r :: _ => allB L fun i => memb (scan E E.length [r]) i)
theorem chain_eq {E : List (List Nat)} : ∀ (rest l : List Nat), chainB E rest = true → l.Nodup → rest.Nodup → (∀ i, i ∈ l ↔ i ∈ rest) → (∀ a i b, l = a ++ i :: b → ∀ j ∈ E.getD i [], j ∉ i :: b) → l = rest
  | [], l, _, _, _, hm, _ => by
    cases l with
    | nil => rfl
    | cons x l => exact absurd ((hm x).1 (by simp)) (by simp)
  | r :: rs, l, hc, hn, hn2, hm, hd => by
    cases l with
    | nil => exact absurd ((hm r).2 (by simp)) (by simp)
    | cons x l =>
      have hxr : x = r := by
        by_cases h : x = r
        · exact h
        · exfalso
          have hx : x ∈ rs := by
            have := (hm x).1 (by simp)
            simpa [h] using this
          have key : ∀ (r : Nat) (rs : List Nat), chainB E (r :: rs) = true → x ∈ rs → ∃ y ∈ r :: rs, y ∈ E.getD x [] := by
            intro r rs
            induction rs generalizing r with
            | nil => intro _ h; cases h
            | cons r' rs ih =>
              intro hc hx
              simp only [chainB, Bool.and_eq_true] at hc
              rcases List.mem_cons.1 hx with rfl | hx
              · exact ⟨r, by simp, memb_iff.1 hc.1⟩
              · obtain ⟨y, hy, hy2⟩ := ih r' hc.2 hx
                exact ⟨y, List.mem_cons_of_mem _ hy, hy2⟩
          obtain ⟨y, hy, hy2⟩ := key r rs hc hx
          exact hd [] x l rfl y hy2 ((hm y).2 hy)
      subst hxr
      have h1 := List.nodup_cons.1 hn
      have h2 := List.nodup_cons.1 hn2
      rw [chain_eq rs l (by cases rs with
        | nil => rfl
        | cons r' rs => simp only [chainB, Bool.and_eq_true] at hc; exact hc.2) h1.2 h2.2 (fun i => ⟨fun hi => by
          have := (hm i).1 (List.mem_cons_of_mem _ hi)
          rcases List.mem_cons.1 this with rfl | h
          · exact absurd hi h1.1
          · exact h, fun hi => by
          have := (hm i).2 (List.mem_cons_of_mem _ hi)
          rcases List.mem_cons.1 this with rfl | h
          · exact absurd hi h2.1
          · exact h⟩) (fun a i b hab => hd (x :: a) i b (by rw [hab]; rfl))]
theorem zfin (rest : List Nat) (tb : Tb ops E Ds Us) (z : Zr E Ds L D l e Ec) (hq : Pq P N ops Ec w L) (hb : finB E Ds Us L D rest = true) (hnd : rest.Nodup)
    (h : TM P f N m G R (.inRegion ops rest :: k) Ec w) : TM P f N m G R (.inRegion ops l :: k) e w := by
  simp only [finB, Bool.and_eq_true] at hb
  obtain ⟨⟨⟨⟨hu, hr⟩, ha⟩, hc⟩, hs⟩ := hb
  -- when none of L is left
  have fin : ∀ l e, Zr E Ds L D l e Ec → (∀ i ∈ L, i ∉ l) → TM P f N m G R (.inRegion ops l :: k) e w := by
    intro l e z hL
    have he : e = Ec := funext fun t => z.env t fun j hj _ => hL j hj
    have hl : l = rest := chain_eq rest l hc z.nd hnd (fun i => ⟨fun hi => by
      have := rangeB_out hr i (z.lt i hi)
      simp only [Bool.or_eq_true] at this
      rcases this with (h | h) | h
      · exact absurd hi (hL i (memb_iff.1 h))
      · exact absurd hi (z.done i (memb_iff.1 h))
      · exact memb_iff.1 h, fun hi => by
      have := allB_out ha i hi
      simp only [Bool.and_eq_true, Bool.not_eq_true'] at this
      by_cases hil : i ∈ l
      · exact hil
      · rcases z.ld i (by have := this.2; simp [Nat.blt] at this; omega) hil with h | h
        · exact absurd h (nmemb this.1.2)
        · exact absurd h (nmemb this.1.1)⟩) z.dep
    rw [he, hl]; exact h
  induction l generalizing e with
  | nil => exact fin _ _ z fun i _ => by simp
  | cons i l ih =>
    by_cases hi : i ∈ L
    · exact quiet tb z hq hu hi fun e' z' => ih z'
    · refine fin _ _ z fun j hj hm => ?_
      have hir : i ∈ rest := by
        have := rangeB_out hr i (z.lt i (by simp))
        simp only [Bool.or_eq_true] at this
        rcases this with (h | h) | h
        · exact absurd (memb_iff.1 h) hi
        · exact absurd (by simp) (z.done i (memb_iff.1 h))
        · exact memb_iff.1 h
      cases rest with
      | nil => cases hir
      | cons r rs =>
        simp only [] at hs
        -- r is i, or r is done, or something ahead of i is left
        have hjs := memb_iff.1 (allB_out hs j hj)
        have hri : r = i := by
          by_cases h : r = i
          · exact h
          · exfalso
            have key : ∀ (r : Nat) (rs : List Nat), chainB E (r :: rs) = true → i ∈ rs → ∃ y ∈ r :: rs, y ∈ E.getD i [] := by
              intro r rs
              induction rs generalizing r with
              | nil => intro _ h; cases h
              | cons r' rs ih =>
                intro hc hx
                simp only [chainB, Bool.and_eq_true] at hc
                rcases List.mem_cons.1 hx with rfl | hx
                · exact ⟨r, by simp, memb_iff.1 hc.1⟩
                · obtain ⟨y, hy, hy2⟩ := ih r' hc.2 hx
                  exact ⟨y, List.mem_cons_of_mem _ hy, hy2⟩
            obtain ⟨y, hy, hy2⟩ := key r rs hc (by
              rcases List.mem_cons.1 hir with h2 | h2
              · exact absurd h2.symm h
              · exact h2)
            have hyl := z.dep [] i l rfl y hy2
            have := allB_out ha y hy
            simp only [Bool.and_eq_true, Bool.not_eq_true'] at this
            rcases z.ld y (by have := this.2; simp [Nat.blt] at this; omega) hyl with h | h
            · exact nmemb this.1.2 h
            · exact nmemb this.1.1 h
        subst hri
        have hnd2 := List.nodup_cons.1 z.nd
        have := scan_out (E := E) (l := l) (fun x hx hlt y hy hmy => by
          by_cases hxi : x = r
          · subst hxi; exact z.dep [] x l rfl y hy (List.mem_cons_of_mem _ hmy)
          · exact z.dn x hlt (by simp [hxi, hx]) y hy (List.mem_cons_of_mem _ hmy)) (fun x hx => z.lt x (List.mem_cons_of_mem _ hx)) E.length [r] (by simpa using hnd2.1) j hjs
        rcases List.mem_cons.1 hm with rfl | hm
        · exact hi hj
        · exact this hm
theorem zdraw {id : Nat} {s : St} {e : Env} (E : List (List Nat)) (Ds : List (Option Nat)) (Us : List (List Nat)) (rs : List Nat) (tb : Tb ops E Ds Us) (hr : okA ops rs = true)
    (h : ∀ s', Stp [] s s' → ∀ l, Tb ops E Ds Us → Zr E Ds [] [] l e e → TM P f N m G R (.inRegion ops l :: k) e s'.w) : TM P f N m G R (.code (.region id ops true) :: k) e s.w := by
  intro o ho r hG
  refine T_draw fun t => ?_
  have hx := sched_ext hr (P.follows .mixedOrders) t
  rw [tb.e] at hx
  exact h ⟨{ s.w with drawn := s.w.drawn + 1 }, s.g⟩ ⟨rfl, rfl, rfl, Nat.le_refl _, fun _ _ _ => rfl, fun _ _ _ => ⟨rfl, rfl⟩⟩ _ tb (Zr.start hx (by rw [← tb.e]; simp [eds])) o ho r hG
end
end Go.Proofs.Ytcagjdngannneaa.V
