import Derived.Test.YtdhefendaopcbaaGreatDoorG1
import Derived.MapKept
import Derived.Carry
import Derived.RangeFuncRecord
import Derived.Lib.ConvBytes
set_option linter.unusedVariables false
set_option linter.unusedSimpArgs false
namespace Go.Proofs.YtdhefendaopcbaaGreatDoor.V
open Go
section
variable {P : Program} {f : Who} {N : Nat} {O ρ : Type} {m : Option O} {G : O → Option ρ} {R : ρ → Ending → World → Prop} {e : Env} {s : St} {k : List Item} {ops : Array Oper} {i d : Nat} {rest : List Nat} {o : Oper}
end
theorem sp2 {α : Type} {K : Kd α} {s : St} {cs : List Value} {x : α} {p r : List Nat} {c : Nat} (c' : Nat) (h : K.ow s.w cs x p) (hn : (p ++ r).Nodup) (hc : ∀ b ∈ p ++ r, s.g b = c) (h10 : Nat.ble 40 c = true) :
    ∃ s' : St, s.w = s'.w ∧ Stp [c] s s' ∧ OwF K s' cs x c ∧ r.Nodup ∧ ∀ b ∈ r, s'.g b = c' := by
  have h10' := Nat.le_of_ble_eq_true h10
  have hn' := List.nodup_append.1 hn
  refine ⟨⟨s.w, fun b => open Classical in if b ∈ r then c' else s.g b⟩, rfl, ⟨rfl, rfl, rfl, Nat.le_refl _, fun b hb hl => ?_, fun b hb hm => ⟨?_, rfl⟩⟩, ⟨p, h, hn'.1, fun b hb => ?_⟩, hn'.2.1, fun b hb => by simp [hb]⟩
  · have : ¬ b ∈ r := fun h => by have := hc b (by simp [h]); omega
    simp [this]
  · have : ¬ b ∈ r := fun h => by have := hc b (by simp [h]); rw [this] at hm; simp [memb] at hm
    simp [this]
  · have : ¬ b ∈ r := fun h => hn'.2.2 b hb b h rfl
    simp only [this, if_false]
    exact hc b (by simp [hb])
theorem sp1 {α : Type} {K : Kd α} {s : St} {cs : List Value} {x : α} {p : List Nat} {c : Nat} (h : K.ow s.w cs x p) (hn : p.Nodup) (hc : ∀ b ∈ p, s.g b = c) : OwF K s cs x c := ⟨p, h, hn, hc⟩
def nextN (E : List (List Nat)) (L D : List Nat) (cs : List Nat) : Bool :=
 rangeB E.length fun i => memb cs i || memb L i || memb D i || anyB (E.getD i []) (fun j => Nat.blt j E.length && !memb L j && !memb D j)
section
variable {P : Program} {f : Who} {N : Nat} {O ρ : Type} {m : Option O} {G : O → Option ρ} {R : ρ → Ending → World → Prop} {k : List Item} {ops : Array Oper}
variable {E : List (List Nat)} {Ds : List (Option Nat)} {Us : List (List Nat)} {L D l : List Nat} {e Ec : Env} {w : World}
theorem zstepN (cs : List (Nat × List (Option Nat))) (tb : Tb ops E Ds Us) (z : Zr E Ds L D l e Ec) (hq : Pq P N ops Ec w L)
    (hb : (useB E Ds Us L && nextN E L D (cs.map (·.1)) && cs.all (fun p => Nat.blt p.1 E.length && !memb L p.1 && !memb D p.1) && !cs.isEmpty) = true)
    (hp : cs.all (fun p => ((pend E E.length L [p.1]).map fun i => Ds.getD i none) == p.2) = true)
    (h : ∀ p ∈ cs, ∀ l' e', Zr E Ds L D (p.1 :: l') (mix p.2 Ec e') Ec → TM P f N m G R (.inRegion ops (p.1 :: l') :: k) (mix p.2 Ec e') w) : TM P f N m G R (.inRegion ops l :: k) e w := by
  simp only [Bool.and_eq_true, Bool.not_eq_true'] at hb
  obtain ⟨⟨⟨hu, hn⟩, hall⟩, hne⟩ := hb
  induction l generalizing e with
  | nil =>
    cases cs with
    | nil => cases hne
    | cons p cs =>
      have hc := List.all_eq_true.1 hall p (by simp)
      simp only [Bool.and_eq_true, Bool.not_eq_true'] at hc
      have hc' : p.1 < E.length := by have := hc.1.1; simp [Nat.blt] at this; omega
      rcases z.ld p.1 hc' (by simp) with h | h
      · exact absurd h (nmemb hc.2)
      · exact absurd h (nmemb hc.1.2)
  | cons i l ih =>
    by_cases hi : i ∈ L
    · exact quiet tb z hq hu hi fun e' z' => ih z'
    · have hD : i ∉ D := fun h => z.done i h (by simp)
      have hlt := z.lt i (by simp)
      have := rangeB_out hn i hlt
      simp only [Bool.or_eq_true] at this
      have hic : i ∈ cs.map (·.1) := by
        rcases this with ((h | h) | h) | h
        · exact memb_iff.1 h
        · exact absurd (memb_iff.1 h) hi
        · exact absurd (memb_iff.1 h) hD
        · obtain ⟨j, hj, hp⟩ := anyB_out h
          simp only [Bool.and_eq_true, Bool.not_eq_true'] at hp
          have hjl : j ∉ i :: l := z.dep [] i l rfl j hj
          have hjlt : j < E.length := by have := hp.1.1; simp [Nat.blt] at this; omega
          rcases z.ld j hjlt hjl with h | h
          · exact absurd h (nmemb hp.2)
          · exact absurd h (nmemb hp.1.2)
      obtain ⟨⟨c, pd⟩, hmem, hcc⟩ := List.mem_map.1 hic
      simp only at hcc
      subst hcc
      have hc := List.all_eq_true.1 hall _ hmem
      simp only [Bool.and_eq_true, Bool.not_eq_true'] at hc
      have hpd := List.all_eq_true.1 hp _ hmem
      simp only [beq_iff_eq] at hpd
      have hcL := hc.1.2
      have he : e = mix pd Ec e := by
        funext t
        unfold mix
        cases hm2 : pd.any (fun x => optB x t) with
        | true => rfl
        | false =>
          refine z.env t fun j hj hjt hm3 => ?_
          have hjp : memb (pend E E.length L [c]) j = false := by
            cases hh : memb (pend E E.length L [c]) j with
            | false => rfl
            | true =>
              have : pd.any (fun x => optB x t) = true := by
                rw [List.any_eq_true]
                refine ⟨some t, ?_, optB_iff.2 rfl⟩
                rw [← hpd]
                exact List.mem_map.2 ⟨j, memb_iff.1 hh, hjt⟩
              rw [this] at hm2; cases hm2
          have hjs : j ∈ scan E E.length [c] := by
            cases hh : memb (scan E E.length [c]) j with
            | true => exact memb_iff.1 hh
            | false => exact absurd (List.mem_filter.2 ⟨hj, by simp [hh]⟩ : j ∈ pend E E.length L [c]) (nmemb hjp)
          have hnd := List.nodup_cons.1 z.nd
          have := scan_out (E := E) (l := l) (fun x hx hlt y hy hm => by
            by_cases hxi : x = c
            · subst hxi; exact z.dep [] x l rfl y hy (List.mem_cons_of_mem _ hm)
            · exact z.dn x hlt (by simp [hxi, hx]) y hy (List.mem_cons_of_mem _ hm)) (fun x hx => z.lt x (List.mem_cons_of_mem _ hx)) E.length [c] (by simpa using hnd.1) j hjs
          rcases List.mem_cons.1 hm3 with rfl | hm3
          · exact nmemb hcL hj
          · exact this hm3
      rw [he] at z ⊢
      exact h _ hmem l e z
theorem zstep2 (c1 c2 : Nat) (pd1 pd2 : List (Option Nat)) (tb : Tb ops E Ds Us) (z : Zr E Ds L D l e Ec) (hq : Pq P N ops Ec w L)
    (hb : (useB E Ds Us L && nextN E L D [c1, c2] && ([(c1, pd1), (c2, pd2)] : List (Nat × List (Option Nat))).all (fun p => Nat.blt p.1 E.length && !memb L p.1 && !memb D p.1) && !([(c1, pd1), (c2, pd2)] : List (Nat × List (Option Nat))).isEmpty) = true)
    (hp : ([(c1, pd1), (c2, pd2)] : List (Nat × List (Option Nat))).all (fun p => ((pend E E.length L [p.1]).map fun i => Ds.getD i none) == p.2) = true)
    (h1 : ∀ l' e', Zr E Ds L D (c1 :: l') (mix pd1 Ec e') Ec → TM P f N m G R (.inRegion ops (c1 :: l') :: k) (mix pd1 Ec e') w)
    (h2 : ∀ l' e', Zr E Ds L D (c2 :: l') (mix pd2 Ec e') Ec → TM P f N m G R (.inRegion ops (c2 :: l') :: k) (mix pd2 Ec e') w) : TM P f N m G R (.inRegion ops l :: k) e w :=
  zstepN [(c1, pd1), (c2, pd2)] tb z hq hb hp fun p hp l' e' => by
    simp only [List.mem_cons, List.not_mem_nil, or_false] at hp
    rcases hp with rfl | rfl
    · exact h1 l' e'
    · exact h2 l' e'
end
end Go.Proofs.YtdhefendaopcbaaGreatDoor.V
set_option linter.unusedVariables false
set_option linter.unusedSimpArgs false
namespace Go.Proofs.YtdhefendaopcbaaGreatDoor.V
open Go
def fl_ (ps : List (List Nat × Nat)) : List Nat := (ps.map (·.1)).flatten
structure ZN (F : Nat → Prop) (ps : List (List Nat × Nat)) (s : St) : Prop where
 z : ∀ b, F b ↔ s.g b = 0
 lo : ∀ b, b ∉ fl_ ps → s.g b < 2
 pt : ∀ p ∈ ps, ∀ b ∈ p.1, s.g b = p.2
section
variable {F : Nat → Prop} {ps : List (List Nat × Nat)} {s s' : St}
theorem ZN.rd (z : ZN F ps s) {α : Type} {K : Kd α} {cs : List Value} {x : α} (h : K.rd s.w cs x F) : RdF K s cs x [0] :=
 K.rd_mono h fun b hb _ => by rw [(z.z b).1 hb]; rfl
theorem ZN.ow (z : ZN F ps s) {α : Type} {K : Kd α} {cs : List Value} {x : α} {p : List Nat} {c : Nat} (hm : (p, c) ∈ ps) (hn : p.Nodup) (h : K.ow s.w cs x p) : OwF K s cs x c := ⟨p, h, hn, fun b hb => z.pt _ hm b hb⟩
theorem ZN.ky (z : ZN F ps s) (p : Kp s s') : Ky (fl_ ps) s.w s'.w := ⟨p.os, p.tape, p.output, p.size, fun b hb hn => p.same b hb (z.lo b hn)⟩
end
structure Nm (s s' : St) (os : List Nat) (c : Nat) : Prop where
 old : ∀ b, b < s.w.heap.size → b ∉ os → s'.g b = s.g b
 mv : ∀ b ∈ os, s'.g b = c
 new : ∀ b, s.w.heap.size ≤ b → s'.g b = c
theorem FW.m {α : Type} {K : Kd α} {s s' : St} {os : List Nat} {cs : List Value} {x : α} {c : Nat} (h : FW K os s.w s'.w cs x) (n : Nm s s' os c) : OwF K s' cs x c := by
 obtain ⟨os', ho, hn, hf⟩ := h
 refine ⟨os', ho, hn, fun b hb => ?_⟩
 rcases hf b hb with h | h
 · exact n.mv b h
 · exact n.new b h
theorem BlF.rc {s : St} {b : Nat} {t : TypeId} {cs : List Value} {d : Nat} (h : BlF s b t cs d) (c : Nat) (hd : Nat.ble 40 d = true) : ∃ s' : St, s.w = s'.w ∧ Stp [d] s s' ∧ BlF s' b t cs c := by
 have hd' := Nat.le_of_ble_eq_true hd
 refine ⟨⟨s.w, fun b => if s.g b = d then c else s.g b⟩, rfl, ⟨rfl, rfl, rfl, Nat.le_refl _, fun b hb hl => ?_, fun b hb hm => ⟨?_, rfl⟩⟩, h.1, ?_⟩
 · have : ¬ s.g b = d := by omega
   simp [this]
 · have : ¬ s.g b = d := fun h => by rw [h] at hm; simp [memb] at hm
   simp [this]
 · simp [h.2]
section
variable {P : Program} {f : Who} {N : Nat} {O ρ : Type} {m : Option O} {G : O → Option ρ} {R : ρ → Ending → World → Prop} {e : Env} {s : St} {k : List Item} {ops : Array Oper} {i d : Nat} {rest : List Nat} {o : Oper}
end
end Go.Proofs.YtdhefendaopcbaaGreatDoor.V
set_option linter.unusedVariables false
set_option linter.unusedSimpArgs false
namespace Go.Proofs.YtdhefendaopcbaaGreatDoor.V
open Go
abbrev MD := List (Int × Bool)
def mcell (p : Int × Bool) : Value × Value := (.int .i64 p.1, .bool p.2)
def MpF (s : St) (b : Nat) (m : MD) (c : Nat) : Prop := ∃ es clock, s.w.heap[b]? = some (.map es clock) ∧ s.g b = c ∧ es.toList.map (fun e => (e.key, e.val)) = m.map mcell
theorem MpF.st {s s' : St} {S : List Nat} {b c : Nat} {m : MD} (h : MpF s b m c) (p : Stp S s s') (d : memb S c = false) : MpF s' b m c := by
 obtain ⟨es, cl, hb, hc, he⟩ := h
 have hl : b < s.w.heap.size := (Array.getElem?_eq_some_iff.1 hb).1
 have := p.same b hl (by rw [hc]; exact d)
 exact ⟨es, cl, by rw [this.2]; exact hb, by rw [this.1]; exact hc, he⟩
section
variable {P : Program} {f : Who} {N : Nat} {O ρ : Type} {m : Option O} {G : O → Option ρ} {R : ρ → Ending → World → Prop} {e : Env} {s : St} {k : List Item} {ops : Array Oper} {i d : Nat} {rest : List Nat} {o : Oper}
end
end Go.Proofs.YtdhefendaopcbaaGreatDoor.V
set_option linter.unusedVariables false
set_option linter.unusedSimpArgs false
namespace Go.Proofs.YtdhefendaopcbaaGreatDoor.V
open Go
structure Pk (β : Type) where
 cs : List Value
 x : β
instance {β : Type} [Inhabited β] : Inhabited (Pk β) := ⟨⟨[], default⟩⟩
end Go.Proofs.YtdhefendaopcbaaGreatDoor.V
set_option linter.unusedVariables false
set_option linter.unusedSimpArgs false
namespace Go.Proofs.YtdhefendaopcbaaGreatDoor.V
open Go
section
variable {P : Program} {f : Who} {N : Nat} {O ρ : Type} {m : Option O} {G : O → Option ρ} {R : ρ → Ending → World → Prop} {e : Env} {s : St} {k : List Item} {ops : Array Oper} {i d : Nat} {rest : List Nat} {o : Oper}
end
end Go.Proofs.YtdhefendaopcbaaGreatDoor.V
set_option linter.unusedVariables false
set_option linter.unusedSimpArgs false
namespace Go.Proofs.YtdhefendaopcbaaGreatDoor.V
open Go
def HoL {α β : Type} [Inhabited α] (te : TypeId) (K : Kd α) (A : Kd β) (q : Nat) (set : α → β → α) (s : St) (v : Value) (xs : List α) (ii : Int) (c : Nat) : Prop :=
 ∃ g cap cur c1 u0 c3 p1 p3, v = .slice (some ⟨g, 0, none⟩) xs.length cap ∧ Hr s.w g cur te ∧ xs.length ≤ cap ∧ cap ≤ maxLen ∧ cur.size = cap * K.n ∧
  cur.toList.take (xs.length * K.n) = c1 ++ (u0 ++ c3) ∧ u0.length = A.n ∧ c1.length = ii.toNat * K.n + q ∧ (g :: (p1 ++ p3)).Nodup ∧ (∀ b ∈ g :: (p1 ++ p3), s.g b = c ∧ b < s.w.heap.size) ∧ ii.toNat < xs.length ∧
  ∀ w' e2 y o2, A.ow w' e2 y o2 → Agr s.w w' (· ∈ p1 ++ p3) → ElsO K w' (xs.set ii.toNat (set (at_ xs ii) y)) (c1 ++ (e2 ++ c3)) (p1 ++ (o2 ++ p3))
theorem HoL.st {α β : Type} [Inhabited α] {te : TypeId} {K : Kd α} {A : Kd β} {q : Nat} {set : α → β → α} {s s' : St} {v : Value} {xs : List α} {ii : Int} {c : Nat} {S : List Nat} (h : HoL te K A q set s v xs ii c) (p : Stp S s s') (d : memb S c = false) : HoL te K A q set s' v xs ii c := by
 obtain ⟨g, cap, cur, c1, u0, c3, p1, p3, e1, e2, e3, e4, e5, e6, e7, e8, e9, e10, e11, e12⟩ := h
 have hs : ∀ b ∈ g :: (p1 ++ p3), s'.g b = s.g b ∧ s'.w.heap[b]? = s.w.heap[b]? := fun b hb => p.same b (e10 b hb).2 (by rw [(e10 b hb).1]; exact d)
 refine ⟨g, cap, cur, c1, u0, c3, p1, p3, e1, e2.eq (hs g (by simp)).2, e3, e4, e5, e6, e7, e8, e9, fun b hb => ⟨by rw [(hs b hb).1]; exact (e10 b hb).1, Nat.lt_of_lt_of_le (e10 b hb).2 p.size⟩, e11, fun w' e2 y o2 hy ha => e12 w' e2 y o2 hy fun b hb hl => ?_⟩
 rw [ha b hb (Nat.lt_of_lt_of_le hl p.size), (hs b (by simp at hb ⊢; rcases hb with hb | hb <;> simp [hb])).2]
section
variable {P : Program} {f : Who} {N : Nat} {O ρ : Type} {m : Option O} {G : O → Option ρ} {R : ρ → Ending → World → Prop} {e : Env} {s : St} {k : List Item} {ops : Array Oper} {i d : Nat} {rest : List Nat} {o : Oper}
end
theorem RwF.sub {α : Type} {e : TypeId} {K : Kd α} {s : St} {v : Value} {xs : List α} {c : Nat} {C : List Nat} (h : RwF e K s v xs c C) {D : List Nat} (d : V.sub C D = true) : RwF e K s v xs c D := by
 obtain ⟨cells, os, h1, h2, h3⟩ := h
 exact ⟨cells, os, h1, h2, h3.mono fun b hb _ => sub_out d hb⟩
end Go.Proofs.YtdhefendaopcbaaGreatDoor.V
set_option linter.unusedVariables false
set_option linter.unusedSimpArgs false
namespace Go.Proofs.YtdhefendaopcbaaGreatDoor.V
open Go
theorem ElsR.set {α : Type} {K : Kd α} {w : World} {F : Nat → Prop} {xs : List α} {cells c' : List Value} {y : α} (h : ElsR K w F xs cells) (i : Nat) (hi : i < xs.length) (hy : K.rd w c' y F) : ElsR K w F (xs.set i y) (cells.take (i * K.n) ++ c' ++ cells.drop ((i + 1) * K.n)) := by
 rw [List.set_eq_take_append_cons_drop, if_pos hi, List.append_assoc]
 exact (h.take i).append ⟨c', _, rfl, hy, h.drop (i + 1)⟩
section
variable {P : Program} {f : Who} {N : Nat} {O ρ : Type} {m : Option O} {G : O → Option ρ} {R : ρ → Ending → World → Prop} {e : Env} {s : St} {k : List Item} {ops : Array Oper} {i d : Nat} {rest : List Nat} {o : Oper}
end
end Go.Proofs.YtdhefendaopcbaaGreatDoor.V
set_option linter.unusedVariables false
set_option linter.unusedSimpArgs false
namespace Go.Proofs.YtdhefendaopcbaaGreatDoor.V
open Go
section
variable {P : Program} {f : Who} {N : Nat} {O ρ : Type} {m : Option O} {G : O → Option ρ} {R : ρ → Ending → World → Prop} {e : Env} {s : St} {k : List Item} {ops : Array Oper} {i d : Nat} {rest : List Nat} {o : Oper}
end
end Go.Proofs.YtdhefendaopcbaaGreatDoor.V
set_option linter.unusedVariables false
set_option linter.unusedSimpArgs false
namespace Go.Proofs.YtdhefendaopcbaaGreatDoor.V
open Go
section
variable {P : Program} {f : Who} {N : Nat} {O ρ : Type} {m : Option O} {G : O → Option ρ} {R : ρ → Ending → World → Prop} {e : Env} {k : List Item} {ops : Array Oper}
variable {s : St} {i d : Nat} {rest : List Nat} {o : Oper}
end
end Go.Proofs.YtdhefendaopcbaaGreatDoor.V
set_option linter.unusedVariables false
set_option linter.unusedSimpArgs false
namespace Go.Proofs.YtdhefendaopcbaaGreatDoor.V
open Go
abbrev RT {ρ : Type} (Q : ρ → Value → World → Prop) (r : ρ) (en : Ending) (w' : World) : Prop := ∃ v, en = .returned v ∧ Q r v w'
end Go.Proofs.YtdhefendaopcbaaGreatDoor.V
set_option linter.unusedVariables false
set_option linter.unusedSimpArgs false
namespace Go.Proofs.YtdhefendaopcbaaGreatDoor.V
open Go
section
variable {α : Type} {K : Kd α} {te : TypeId} {s : St} {v v' : Value} {xs : List α} {c : Nat}
end
section
variable {P : Program} {f : Who} {N : Nat} {O ρ : Type} {m : Option O} {G : O → Option ρ} {R : ρ → Ending → World → Prop} {e : Env} {s : St} {k : List Item} {ops : Array Oper} {i d : Nat} {rest : List Nat} {o : Oper}
end
end Go.Proofs.YtdhefendaopcbaaGreatDoor.V
set_option linter.unusedVariables false
set_option linter.unusedSimpArgs false
set_option linter.unusedSectionVars false
namespace Go.Proofs.YtdhefendaopcbaaGreatDoor.V
open Go
section
variable {α : Type} [Inhabited α]
end
section
variable {β : Type} [Inhabited β] {K : Kd β} {te : TypeId}
def PkB (K : Kd β) (s : St) (ps : List (Pk β × List Nat)) (c : Nat) : Prop := (∀ p ∈ ps, K.ow s.w p.1.cs p.1.x p.2) ∧ ((ps.map (·.2)).flatten).Nodup ∧ ∀ b ∈ (ps.map (·.2)).flatten, s.g b = c
theorem mem_fl {ps : List (Pk β × List Nat)} {p : Pk β × List Nat} (h : p ∈ ps) {b : Nat} (hb : b ∈ p.2) : b ∈ (ps.map (·.2)).flatten := List.mem_flatten.2 ⟨p.2, List.mem_map.2 ⟨p, h, rfl⟩, hb⟩
theorem PkB.st {s s' : St} {S : List Nat} {ps : List (Pk β × List Nat)} {c : Nat} (h : PkB K s ps c) (p : Stp S s s') (d : memb S c = false) : PkB K s' ps c := by
 refine ⟨fun q hq => K.ow_frame (h.1 q hq) fun b hb hl => (p.same b hl (by rw [h.2.2 b (mem_fl hq hb)]; exact d)).2, h.2.1, fun b hb => ?_⟩
 obtain ⟨l, hl, hbl⟩ := List.mem_flatten.1 hb
 obtain ⟨q, hq, rfl⟩ := List.mem_map.1 hl
 rw [(p.same b (K.ow_lt (h.1 q hq) b hbl) (by rw [h.2.2 b hb]; exact d)).1, h.2.2 b hb]
end
end Go.Proofs.YtdhefendaopcbaaGreatDoor.V
set_option linter.unusedVariables false
set_option linter.unusedSimpArgs false
namespace Go.Proofs.YtdhefendaopcbaaGreatDoor.V
open Go
def cov : List Nat → List Nat → List Nat → Bool
 | [], _, _ => true
 | c :: D, E, C => (memb E c || memb C c) && cov D E C
theorem cov_out {D E C : List Nat} (h : cov D E C = true) {n : Nat} (hn : memb D n = true) : memb E n = true ∨ memb C n = true := by
 induction D with
 | nil => cases hn
 | cons c D ih =>
  simp only [cov, Bool.and_eq_true, Bool.or_eq_true] at h
  simp only [memb, Bool.or_eq_true] at hn
  rcases hn with hn | hn
  · have := Nat.eq_of_beq_eq_true hn
    subst this; exact h.1
  · exact ih h.2 hn
structure Rc (E : List Nat) (q : Nat) (s s' : St) : Prop where
 w : s.w = s'.w
 inn : ∀ b, memb E (s.g b) = true → s'.g b = q
 out : ∀ b, memb E (s.g b) = false → s'.g b = s.g b
theorem RdF.rc {α : Type} {K : Kd α} {s s' : St} {cs : List Value} {x : α} {D E C : List Nat} {q : Nat} (h : RdF K s cs x D) (r : Rc E q s s') (hq : memb C q = true) (hc : cov D E C = true) : RdF K s' cs x C := by
 unfold RdF at h ⊢
 rw [← r.w]
 refine K.rd_mono h fun b hb _ => ?_
 rcases cov_out hc hb with h1 | h1
 · rw [r.inn b h1]; exact hq
 · cases hm : memb E (s.g b) with
   | true => rw [r.inn b hm]; exact hq
   | false => rw [r.out b hm]; exact h1
end Go.Proofs.YtdhefendaopcbaaGreatDoor.V
set_option linter.unusedVariables false
set_option linter.unusedSimpArgs false
namespace Go.Proofs.YtdhefendaopcbaaGreatDoor.V
open Go
theorem ZN.bl {F : Nat → Prop} {ps : List (List Nat × Nat)} {s : St} (z : ZN F ps s) {b c : Nat} {t : TypeId} {cs : List Value} (hm : ([b], c) ∈ ps) (h : BlW s.w b t cs) : BlF s b t cs c := ⟨h, z.pt _ hm b (by simp)⟩
section
variable {P : Program} {N : Nat} {e : Env} {s : St} {ops : Array Oper} {i d : Nat} {o : Oper}
end
end Go.Proofs.YtdhefendaopcbaaGreatDoor.V
set_option linter.unusedVariables false
set_option linter.unusedSimpArgs false
set_option linter.unusedSectionVars false
namespace Go.Proofs.YtdhefendaopcbaaGreatDoor.V
open Go
end Go.Proofs.YtdhefendaopcbaaGreatDoor.V
set_option linter.unusedVariables false
set_option linter.unusedSimpArgs false
namespace Go.Proofs.YtdhefendaopcbaaGreatDoor.V
open Go
structure Wg (w w' : World) : Prop where
 os : w'.os = w.os
 tape : w'.tape = w.tape
 output : w'.output = w.output
 size : w.heap.size ≤ w'.heap.size
structure LpZ where
 l : Nat
 D : Nat
 lp : Loop
structure LoopF (Z : LpZ) (c : Nat) (st : LoopState) (s : St) : Prop where
 lh : s.w.heap[Z.l]? = some (.loop { Z.lp with state := st })
 dh : s.w.heap[Z.D]? = some (.deferred (some []))
 lc : s.g Z.l = c
 dc : s.g Z.D = c
 ne : Z.l ≠ Z.D
 pe : Z.lp.pending = none
theorem LoopF.st {Z : LpZ} {c : Nat} {st : LoopState} {s s' : St} {S : List Nat} (h : LoopF Z c st s) (p : Stp S s s') (d : memb S c = false) : LoopF Z c st s' := by
 have h1 := p.same Z.l (Array.getElem?_eq_some_iff.1 h.lh).1 (by rw [h.lc]; exact d)
 have h2 := p.same Z.D (Array.getElem?_eq_some_iff.1 h.dh).1 (by rw [h.dc]; exact d)
 exact ⟨h1.2.trans h.lh, h2.2.trans h.dh, h1.1.trans h.lc, h2.1.trans h.dc, h.ne, h.pe⟩
theorem LoopF.set {Z : LpZ} {c : Nat} {st : LoopState} {s : St} (h : LoopF Z c st s) (st' : LoopState) : ∃ s' : St, s'.w = s.w.putObj Z.l (.loop { Z.lp with state := st' }) ∧ Stp [c] s s' ∧ LoopF Z c st' s' := by
 refine ⟨⟨s.w.putObj Z.l (.loop { Z.lp with state := st' }), s.g⟩, rfl, ⟨rfl, rfl, rfl, by simp, fun _ _ _ => rfl, fun b hb hm => ⟨rfl, ?_⟩⟩, ⟨World.putObj_heap_same (Array.getElem?_eq_some_iff.1 h.lh).1, ?_, h.lc, h.dc, h.ne, h.pe⟩⟩
 · refine World.putObj_heap_other fun e => ?_
   subst e; rw [h.lc] at hm; simp [memb] at hm
 · exact (World.putObj_heap_other (Ne.symm h.ne)).trans h.dh
def JF {σ : Type} (J : σ → World → Prop) (s : St) (y : σ) : Prop := J y s.w
theorem Stp.ky {s s' : St} (p : Stp [] s s') : Ky [] s.w s'.w := ⟨p.os, p.tape, p.output, p.size, fun b hb _ => (p.same b hb rfl).2⟩
theorem JF.st {σ : Type} {J : σ → World → Prop} {s s' : St} {y : σ} (h : JF J s y) (hJ : ∀ y w w', J y w → Ky [] w w' → J y w') (p : Stp [] s s') : JF J s' y := hJ _ _ _ h p.ky
section
variable {P : Program} {f : Who} {N : Nat} {O ρ : Type} {m : Option O} {G : O → Option ρ} {R : ρ → Ending → World → Prop} {e : Env} {s : St} {w : World} {k : List Item} {ops : Array Oper} {i d : Nat} {rest : List Nat} {o : Oper}
end
end Go.Proofs.YtdhefendaopcbaaGreatDoor.V
set_option linter.unusedVariables false
set_option linter.unusedSimpArgs false
namespace Go.Proofs.YtdhefendaopcbaaGreatDoor.V
open Go
def bts (x : ByteArray) : List Int := x.data.toList.map fun b => (b.toNat : Int)
theorem bts_len (x : ByteArray) : (bts x).length = x.size := by simp [bts]
theorem Hr.mark {P : Program} {w : World} {g : Nat} {cur : Array Value} {e : TypeId} (h : Hr w g cur e) : (markStringish ⟨g, 0, none⟩).run P w = .ok () (w.freeze ⟨g, cur.size, none⟩ 1) ∧ Hr (w.freeze ⟨g, cur.size, none⟩ 1) g cur e ∧ (∀ b, b ≠ g → (w.freeze ⟨g, cur.size, none⟩ 1).heap[b]? = w.heap[b]?) ∧ (w.freeze ⟨g, cur.size, none⟩ 1).heap.size = w.heap.size := by
 obtain ⟨⟨lo, hi⟩, h, h2⟩ := h
 have hsh : w.shape? g = some (e, cur.size) := by unfold World.shape?; rw [h]
 refine ⟨?_, ⟨(if lo == hi then (cur.size, cur.size + 1) else (min lo cur.size, max hi (cur.size + 1))), ?_, ?_⟩, fun b hb => ?_, ?_⟩
 · simp [markStringish, hsh, Result.andThen]
 · simp only [World.freeze, Nat.one_ne_zero, if_false]
   rw [Array.getElem?_modify, if_pos rfl, h]; rfl
 · right
   split
   · exact Nat.le_refl _
   · rcases h2 with h2 | h2
     · obtain ⟨rfl, rfl⟩ := Prod.mk.inj h2
       rename_i hh; simp at hh
     · simp only at h2 ⊢; omega
 · simp only [World.freeze, Nat.one_ne_zero, if_false]
   rw [Array.getElem?_modify, if_neg (fun e => hb e.symm)]
 · simp [World.freeze]
def Kd.glb (bs : List Nat) (Φ : World → Prop) (hΦ : ∀ w w' : World, (∀ b ∈ bs, w'.heap[b]? = w.heap[b]?) → Φ w → Φ w') : Kd Unit where
 n := 0
 rd := fun w cs _ F => cs = [] ∧ Φ w ∧ ∀ b ∈ bs, F b ∧ b < w.heap.size
 ow := fun _ _ _ _ => False
 rd_len := fun h => by rw [h.1]; rfl
 rd_one := fun h v hv => by rw [h.1] at hv; cases hv
 rd_frame := fun {w w' cs x F} h ha => ⟨h.1, hΦ w w' (fun b hb => ha b (h.2.2 b hb).1 (h.2.2 b hb).2) h.2.1, fun b hb => ⟨(h.2.2 b hb).1, by
  have h1 := ha b (h.2.2 b hb).1 (h.2.2 b hb).2
  rw [Array.getElem?_eq_getElem (h.2.2 b hb).2] at h1
  exact (Array.getElem?_eq_some_iff.1 h1).1⟩⟩
 rd_mono := fun h hF => ⟨h.1, h.2.1, fun b hb => ⟨hF b (h.2.2 b hb).1 (h.2.2 b hb).2, (h.2.2 b hb).2⟩⟩
 ow_frame := fun h => h.elim
 ow_lt := fun h => h.elim
 ow_rd := fun h => h.elim
theorem var_fr {P : Program} {w w' : World} {nm : String} {g : Nat} (hg : P.globalNamed nm = some g) (h : w'.heap[g]? = w.heap[g]?) : w'.var? P nm = w.var? P nm := by
 unfold World.var?
 rw [hg]
 simp only [Option.bind_some, h]
theorem var_lt {P : Program} {w : World} {nm : String} {g : Nat} {cs : Array Value} (hg : P.globalNamed nm = some g) (h : w.var? P nm = some cs) : g < w.heap.size := by
 unfold World.var? at h
 rw [hg] at h
 simp only [Option.bind_some] at h
 cases hh : w.heap[g]? with
 | none => rw [hh] at h; cases h
 | some o => exact (Array.getElem?_eq_some_iff.1 hh).1
def enum : Nat → List Value → List (Nat × Value)
 | _, [] => []
 | q, v :: vs => (q, v) :: enum (q + 1) vs
theorem lfill_lin : ∀ (vs : List Value) (pre zs : List Value), vs.all (·.oneCell') = true → vs.length = zs.length → lfill (fun i => some (i * 1, 1)) (pre ++ zs) (enum pre.length vs) = some (pre ++ vs)
 | [], pre, zs, _, hl => by
  obtain rfl : zs = [] := List.eq_nil_of_length_eq_zero hl.symm
  rfl
 | v :: vs, pre, [], _, hl => by cases hl
 | v :: vs, pre, z :: zs, h1, hl => by
  simp only [List.all_cons, Bool.and_eq_true] at h1
  have hc : v.cells = #[v] := by cases v <;> first | rfl | cases h1.1
  have ih := lfill_lin vs (pre ++ [v]) zs h1.2 (by simpa using hl)
  simp only [enum, lfill, Nat.mul_one, hc, List.length_cons, List.length_nil, List.length_append, sets]
  rw [if_neg (by omega), List.set_append_right _ _ (Nat.le_refl _), Nat.sub_self, List.set_cons_zero]
  simpa using ih
theorem lfill_c {n l : Nat} {z : Value} {parts : List (Nat × Value)} {cells : List Value} (hn : n = 1) (hz : z.cells.toList.length = 1) (hl : cells.length = l) (h1 : cells.all (·.oneCell') = true) (hp : parts = enum 0 cells) :
    lfill (fun i => some (i * n, n)) (List.replicate l z.cells.toList).flatten parts = some cells := by
  subst hn
  subst hp
  have := lfill_lin cells [] (List.replicate l z.cells.toList).flatten h1 (by simp [hl]; rw [show z.cells.size = 1 by simpa using hz]; exact (Nat.mul_one _).symm)
  simpa using this
theorem els_strs {w : World} {F : Nat → Prop} : ∀ {xs : List ByteArray} {cells : List Value}, ElsR Kd.str w F xs cells → cells = xs.map (.string ·)
 | [], cells, h => h
 | x :: xs, cells, ⟨c1, c2, e, h1, h2⟩ => by
  have h1' : c1 = [.string x] := h1
  rw [e, h1', els_strs h2]; rfl
def EV (v : Value) (b : Bool) : Prop := (b = true ∧ v = .nilIface) ∨ (b = false ∧ ∃ t p, v = .iface t p)
theorem elsO_ints {w : World} : ∀ (xs : List Int), ElsO (Kd.int .u8) w xs (xs.map (.int .u8)) []
 | [] => ⟨rfl, rfl⟩
 | x :: xs => ⟨[.int .u8 x], xs.map (.int .u8), [], [], rfl, rfl, ⟨rfl, rfl⟩, elsO_ints xs⟩
section
variable {P : Program} {f : Who} {N : Nat} {O ρ : Type} {m : Option O} {G : O → Option ρ} {R : ρ → Ending → World → Prop} {e : Env} {s : St} {k : List Item} {ops : Array Oper} {i d : Nat} {rest : List Nat} {o : Oper}
theorem cvm {t te : TypeId} {x : Operand} {v : Value} {xs : List Int} {c : Nat} (hF : OwF (Kd.sl te (Kd.int .u8)) s [v] xs c) (hn : Nat.blt 0 xs.length = true) (hu : P.underlying t = some (.slice te)) (he : P.underlying te = some (.int .u8))
    (ho : ops[i]? = some o) (hd : o.dst = some d) (hN : Nat.blt d N = true) (hw : Region.wanted o (yv e ops) = true) (hop : o.op = .convert t t x) (hx : ev e x = v)
    (h : ∀ s', Stp [c] s s' → OwF (Kd.sl te (Kd.int .u8)) s' [v] xs c → TM P f N m G R (.inRegion ops rest :: k) (upd e d v) s'.w) : TM P f N m G R (.inRegion ops (i :: rest) :: k) e s.w := by
  obtain ⟨os, ⟨v1, e1, cells, o1, o2, rfl, hR, hE⟩, hnd, hcol⟩ := hF
  obtain rfl : v = v1 := by simpa using e1
  have hn' := Nat.le_of_ble_eq_true hn
  rcases hR.2 with ⟨_, h2, _⟩ | ⟨g, cap, cur, rfl, hg, hlc, hcm, hsz, htk, rfl⟩
  · omega
  · obtain ⟨k1, k2, k3, k4⟩ := hg.mark (P := P)
    have hgc := hcol g (by simp)
    refine vl (v := .slice (some ⟨g, 0, none⟩) xs.length cap) (w' := s.w.freeze ⟨g, cur.size, none⟩ 1) ho hd hN hw ?_ (h ⟨s.w.freeze ⟨g, cur.size, none⟩ 1, s.g⟩ ⟨rfl, rfl, rfl, by rw [k4]; exact Nat.le_refl _, fun _ _ _ => rfl, fun b hb hm => ⟨rfl, k3 b fun hb2 => ?_⟩⟩ ?_)
    · simp [execOp, hop, hx, convert, run_underlying hu, run_underlying he, k1, Result.andThen]
    · subst hb2; rw [hgc] at hm; simp [memb] at hm
    · exact ⟨[g] ++ [], ⟨_, rfl, cells, [g], [], rfl, ⟨hR.1, .inr ⟨g, cap, cur, rfl, k2, hlc, hcm, hsz, htk, rfl⟩⟩, by simpa using fl_int.els _ (hE.rd.mono (F' := fun _ => True) fun _ _ _ => trivial)⟩, by simp, fun b hb => by simp at hb; subst hb; exact hgc⟩
theorem s2b {t t1 te : TypeId} {x : Operand} {a : ByteArray} (c : Nat) (hu : P.underlying t1 = some .string) (hu2 : P.underlying t = some (.slice te)) (he : P.underlying te = some (.int .u8))
    (ho : ops[i]? = some o) (hd : o.dst = some d) (hN : Nat.blt d N = true) (hw : Region.wanted o (yv e ops) = true) (hop : o.op = .convert t1 t x) (hx : ev e x = .string a)
    (h : ∀ v s', Stp [] s s' → OwF (Kd.sl te (Kd.int .u8)) s' [v] (bts a) c → TM P f N m G R (.inRegion ops rest :: k) (upd e d v) s'.w) :
    TM P f N (if a.size ≤ Lim then m else none) G R (.inRegion ops (i :: rest) :: k) e s.w := by
  refine mg fun hl => ?_
  have hl' : a.size ≤ maxLen := by unfold Lim at hl; simp only [maxLen]; omega
  have hcap := grownCap_ge s.w a.size 0 te
  have hcm := grownCap_le_maxLen s.w a.size 0 te hl'
  have hsz : (Lib.bytesCells s.w te a).size = grownCap s.w a.size 0 te := by simp [Lib.bytesCells]; omega
  refine vl (v := .slice (some ⟨s.w.heap.size, 0, none⟩) a.size (grownCap s.w a.size 0 te)) (w' := Lib.bytesWorld s.w te a) ho hd hN hw (by simp [execOp, hop, hx, Lib.run_convert_string_bytes s.w t1 t te a hu hu2 he, Result.andThen])
    (h _ ⟨Lib.bytesWorld s.w te a, fun b => if b < s.w.heap.size then s.g b else c⟩ ⟨rfl, rfl, rfl, by rw [Lib.bytesWorld_size]; omega, fun b hb _ => by simp [hb], fun b hb _ => ⟨by simp [hb], Lib.bytesWorld_at_old s.w te a b hb⟩⟩ ?_)
  have hbl := bts_len a
  refine ⟨[s.w.heap.size] ++ [], ⟨_, rfl, (bts a).map (.int .u8), [s.w.heap.size], [], rfl, ⟨by rw [List.length_map]; exact (Nat.mul_one _).symm, .inr ⟨s.w.heap.size, _, Lib.bytesCells s.w te a, by rw [hbl], ⟨_, Lib.bytesWorld_at_new s.w te a, .inr (Nat.le_refl _)⟩, by rw [hbl]; exact hcap, hcm, by rw [hsz]; exact (Nat.mul_one _).symm, ?_, rfl⟩⟩, ?_⟩, by simp, fun b hb => ?_⟩
  · rw [show (Kd.int .u8).n = 1 from rfl, Nat.mul_one, hbl]
    simp only [Lib.bytesCells, Array.toList_append, Array.toList_map]
    rw [List.take_left' (by simp)]
    simp [bts]
  · exact elsO_ints _
  · simp at hb; subst hb; simp
theorem sxi {t : TypeId} {x q : Operand} {a : ByteArray} {kk : IntKind} {ii : Int} (hu : P.underlying t = some .string)
    (ho : ops[i]? = some o) (hd : o.dst = some d) (hN : Nat.blt d N = true) (hw : Region.wanted o (yv e ops) = true) (hop : o.op = .index t x q) (hx : ev e x = .string a) (hq : ev e q = .int kk ii)
    (h : TM P f N m G R (.inRegion ops rest :: k) (upd e d (.int .u8 (at_ (bts a) ii))) s.w) : TM P f N (if 0 ≤ ii ∧ ii < (a.size : Int) then m else none) G R (.inRegion ops (i :: rest) :: k) e s.w := by
  refine mg fun hg => ?_
  have hl : ii.toNat < a.size := by omega
  have hb := bts_len a
  refine vl ho hd hN hw ?_ h
  rw [at_eq (bts a) ii (by omega)]
  have h2 : a[ii.toNat]? = some a[ii.toNat] := by simp [hl]
  simp [execOp, hop, hx, hq, Instr.index, asIntOf, run_underlying hu, hg.1, h2, Result.andThen, bts]
  rfl
theorem sct {t : TypeId} {x : Operand} {lo hi : Option Operand} {a : ByteArray} (p q : Int) (hu : P.underlying t = some .string)
    (ho : ops[i]? = some o) (hd : o.dst = some d) (hN : Nat.blt d N = true) (hw : Region.wanted o (yv e ops) = true) (hop : o.op = .slice t x lo hi none) (hx : ev e x = .string a)
    (hlo : (lo = none ∧ p = 0) ∨ ∃ l k, lo = some l ∧ ev e l = .int k p) (hhi : (hi = none ∧ q = (a.size : Int)) ∨ ∃ l k, hi = some l ∧ ev e l = .int k q)
    (h : TM P f N m G R (.inRegion ops rest :: k) (upd e d (.string (a.extract p.toNat q.toNat))) s.w) : TM P f N (if 0 ≤ p ∧ p ≤ q ∧ q ≤ (a.size : Int) then m else none) G R (.inRegion ops (i :: rest) :: k) e s.w := by
  refine mg fun ⟨h0, h1, h2⟩ => ?_
  refine vl ho hd hN hw ?_ h
  have h3 : 0 ≤ q := by omega
  have h4 : p ≤ max q 0 := by omega
  have h5 : q ≤ (a.size : Int) := h2
  have h6 : ((a.size : Int)).toNat = a.size := by simp
  rcases hlo with ⟨rfl, rfl⟩ | ⟨l, k1, rfl, hl⟩ <;> rcases hhi with ⟨rfl, rfl⟩ | ⟨l2, k2, rfl, hl2⟩ <;>
    simp [execOp, hop, hx, Instr.sliceAt, Instr.slice, run_underlying hu, Instr.sliceBounds, Instr.sliceBound, asIntOf, Result.andThen, *]
theorem sad {t t2 : TypeId} {x y : Operand} {a b : ByteArray}
    (ho : ops[i]? = some o) (hd : o.dst = some d) (hN : Nat.blt d N = true) (hw : Region.wanted o (yv e ops) = true) (hop : o.op = .binOp .add t x y t2) (hx : ev e x = .string a) (hy : ev e y = .string b)
    (h : TM P f N m G R (.inRegion ops rest :: k) (upd e d (.string (a ++ b))) s.w) : TM P f N (if a.size + b.size ≤ Lim then m else none) G R (.inRegion ops (i :: rest) :: k) e s.w := by
  refine mg fun hl => ?_
  have h1 : ¬ (((a.size + b.size : Nat) : Int) > IntKind.i64.max) := by unfold Lim at hl; have : IntKind.i64.max = 9223372036854775807 := rfl; omega
  refine vl ho hd hN hw ?_ h
  simp only [execOp, hop, hx, hy]
  have h2 : (eqGuard .add t x y (.string a) (.string b)).run P s.w = .ok () s.w := by simp [eqGuard]
  have h3 : (binOp .add t (.string a) (.string b)).run P s.w = .ok (.string (a ++ b)) s.w := by
    simp only [binOp, Op.stringOp]
    rw [if_neg h1]; rfl
  simp only [Sem.run_bind', h2, h3, Result.andThen, Sem.run_pure]
theorem sxi_q {t : TypeId} {x q : Operand} {a : ByteArray} {kk : IntKind} {ii : Int} (hu : P.underlying t = some .string) (hg : 0 ≤ ii ∧ ii < (a.size : Int))
    (ho : ops[i]? = some o) (hd : o.dst = some d) (hN : Nat.blt d N = true) (hw : Region.wanted o (yv e ops) = true) (hop : o.op = .index t x q) (hx : ev e x = .string a) (hq : ev e q = .int kk ii) : Qv P N ops e s.w i d (.int .u8 (at_ (bts a) ii)) := by
  have hl : ii.toNat < a.size := by omega
  have hb := bts_len a
  refine ⟨o, ho, hd, hN, by simp only [selB, hop], .inl ⟨hw, ?_⟩⟩
  rw [at_eq (bts a) ii (by omega)]
  have h2 : a[ii.toNat]? = some a[ii.toNat] := by simp [hl]
  simp [execOp, hop, hx, hq, Instr.index, asIntOf, run_underlying hu, hg.1, h2, Result.andThen, bts]
  rfl
theorem er_run {w : World} {t : TypeId} {ms : Array (String × TypeId)} {v : Value} {b : Bool} (hv : EV v b) (hu : P.underlying t = some (.interface ms)) : (Op.equal t v .nilIface).run P w = .ok b w := by
 rcases hv with ⟨rfl, rfl⟩ | ⟨rfl, tt, p, rfl⟩
 · have h : ∀ d : Nat, (Op.equalIn (d + 1) t .nilIface .nilIface).run P w = .ok true w := fun d => by simp [Op.equalIn, run_underlying hu]
   simp [Op.equal, Op.maxDepth, h 9999]
 · have h : ∀ d : Nat, (Op.equalIn (d + 1) t (.iface tt p) .nilIface).run P w = .ok false w := fun d => by simp [Op.equalIn, run_underlying hu]
   simp [Op.equal, Op.maxDepth, h 9999]
theorem er_guard {w : World} {op : BinOp} {t : TypeId} {X : Operand} {c v : Value} {b : Bool} (hv : EV v b) (ho : op = .eql ∨ op = .neq) : (eqGuard op t X (.const c) v .nilIface).run P w = .ok () w := by
 rcases hv with ⟨rfl, rfl⟩ | ⟨rfl, tt, p, rfl⟩ <;> rcases ho with rfl | rfl <;> simp [eqGuard]
theorem ernon {t t2 : TypeId} {ms : Array (String × TypeId)} {x : Operand} {c v : Value} {b : Bool} (hv : EV v b) (hu : P.underlying t = some (.interface ms))
    (ho : ops[i]? = some o) (hd : o.dst = some d) (hN : Nat.blt d N = true) (hw : Region.wanted o (yv e ops) = true) (hop : o.op = .binOp .neq t x (.const c) t2) (hx : ev e x = v) (hy : ev e (.const c) = .nilIface)
    (h : TM P f N m G R (.inRegion ops rest :: k) (upd e d (.bool (!b))) s.w) : TM P f N m G R (.inRegion ops (i :: rest) :: k) e s.w := by
  refine vl ho hd hN hw ?_ h
  simp only [execOp, hop, hx, hy]
  have h2 : (binOp .neq t v .nilIface).run P s.w = .ok (.bool (!b)) s.w := by
    rcases hv with ⟨rfl, rfl⟩ | ⟨rfl, tt, p, rfl⟩
    · simp only [binOp]; rw [Sem.run_bind', er_run (.inl ⟨rfl, rfl⟩) hu]; rfl
    · simp only [binOp]; rw [Sem.run_bind', er_run (.inr ⟨rfl, tt, p, rfl⟩) hu]; rfl
  simp only [Sem.run_bind', er_guard hv (.inr rfl), h2, Result.andThen, Sem.run_pure]
end
end Go.Proofs.YtdhefendaopcbaaGreatDoor.V
set_option linter.unusedVariables false
set_option linter.unusedSimpArgs false
namespace Go.Proofs.YtdhefendaopcbaaGreatDoor.V
open Go
def SitF (s : St) (b : Nat) (a : ByteArray) (off : Nat) (c : Nat) : Prop := s.w.heap[b]? = some (.stringIter a off) ∧ s.g b = c
theorem SitF.st {s s' : St} {S : List Nat} {b c : Nat} {a : ByteArray} {off : Nat} (h : SitF s b a off c) (p : Stp S s s') (d : memb S c = false) : SitF s' b a off c := by
 have hb : b < s.w.heap.size := (Array.getElem?_eq_some_iff.1 h.1).1
 have := p.same b hb (by rw [h.2]; exact d)
 exact ⟨by rw [this.2]; exact h.1, by rw [this.1]; exact h.2⟩
def nxo (a : ByteArray) (off : Nat) : Nat := if off < a.size then off + (Utf8.decode a off).2 else off
def NXV (v : Value) (a : ByteArray) (off : Nat) : Prop := (off < a.size ∧ v = .tuple #[.bool true, goInt off, .int .i32 (Utf8.decode a off).1]) ∨ (¬ off < a.size ∧ v = .tuple #[.bool false])
theorem elsO_strs {w : World} : ∀ (xs : List ByteArray), ElsO Kd.str w xs (xs.map (.string ·)) []
 | [] => ⟨rfl, rfl⟩
 | x :: xs => ⟨[.string x], xs.map (.string ·), [], [], rfl, rfl, ⟨rfl, rfl⟩, elsO_strs xs⟩
theorem fo_strs {te : Nat} (w : World) (xs : List ByteArray) (n : Nat) (hn : xs.length = n) (hl : n ≤ maxLen) : FO (Kd.sl te Kd.str) w (w.alloc (.cells (xs.map Value.string).toArray te)) [.slice (some ⟨w.heap.size, 0, none⟩) n n] xs ∧ Ky [] w (w.alloc (.cells (xs.map Value.string).toArray te)) := by
 subst hn
 refine ⟨⟨[w.heap.size] ++ [], ⟨_, rfl, xs.map (.string ·), [w.heap.size], [], rfl, ⟨by rw [List.length_map]; exact (Nat.mul_one _).symm, .inr ⟨w.heap.size, xs.length, (xs.map Value.string).toArray, rfl, .mk (heap_alloc_new w _), Nat.le_refl _, hl, by simp; exact (Nat.mul_one _).symm, ?_, rfl⟩⟩, elsO_strs xs⟩, by simp, fun b hb => by simp at hb; omega⟩, ⟨rfl, rfl, rfl, by simp, fun b hb _ => heap_alloc_old w _ hb⟩⟩
 rw [show (Kd.str).n = 1 from rfl, Nat.mul_one, List.take_of_length_le (by simp)]
theorem FRF.kp {α : Type} {K : Kd α} {F : Nat → Prop} {s0 s s' : St} {cs : List Value} {x : α} (h : FRF K F s0.w s.w cs x) (z : ∀ b, F b → s0.g b = 0) (p : Kp s0 s) (p' : Kp s0 s') : FRF K F s0.w s'.w cs x :=
 K.rd_mono (K.rd_frame h fun b hb _ => by rw [p'.same b hb.2 (by rw [z b hb.1]; omega), p.same b hb.2 (by rw [z b hb.1]; omega)]) fun b hb _ => hb
theorem FRF.rd {α : Type} {K : Kd α} {F : Nat → Prop} {s0 s : St} {cs : List Value} {x : α} (h : FRF K F s0.w s.w cs x) (z : ∀ b, F b → s0.g b = 0) (p : Kp s0 s) : RdF K s cs x [0] :=
 K.rd_mono h fun b hb _ => by rw [p.col b hb.2 (by rw [z b hb.1]; omega), z b hb.1]; rfl
theorem FRF.up {α : Type} {K : Kd α} {F : Nat → Prop} {s0 s s' : St} {cs : List Value} {x : α} (h : FRF K (fun b => F b ∧ b < s0.w.heap.size) s.w s'.w cs x) : FRF K F s0.w s'.w cs x := K.rd_mono h fun b hb _ => hb.1
section
variable {P : Program} {f : Who} {N : Nat} {O ρ : Type} {m : Option O} {G : O → Option ρ} {R : ρ → Ending → World → Prop} {e : Env} {s : St} {k : List Item} {ops : Array Oper} {i d : Nat} {rest : List Nat} {o : Oper}
theorem mks (c : Nat) {t : TypeId} {x : Operand} {a : ByteArray} (hu : P.underlying t = some .string) (ho : ops[i]? = some o) (hd : o.dst = some d) (hN : Nat.blt d N = true) (hw : Region.wanted o (yv e ops) = true) (hop : o.op = .range t x) (hx : ev e x = .string a)
    (h : ∀ b s', Stp [] s s' → SitF s' b a 0 c → TM P f N m G R (.inRegion ops rest :: k) (upd e d (.pointer (some ⟨b, 0, none⟩))) s'.w) : TM P f N m G R (.inRegion ops (i :: rest) :: k) e s.w := by
  obtain ⟨s', hs', p, n⟩ := s.made (.stringIter a 0) c
  refine vl (v := .pointer (some ⟨s.w.heap.size, 0, none⟩)) (w' := s'.w) ho hd hN hw ?_ (h _ s' p ⟨?_, n.new _ (Nat.le_refl _)⟩)
  · rw [hs']
    simp [execOp, hop, hx, Instr.range, run_underlying hu, newObj, Result.andThen]
    rfl
  · rw [hs']; exact heap_alloc_new s.w _
theorem nxs {t : Bool} {x : Operand} {a : ByteArray} {b off c : Nat} (hB : SitF s b a off c) (ht : t = true) (ho : ops[i]? = some o) (hd : o.dst = some d) (hN : Nat.blt d N = true) (hw : Region.wanted o (yv e ops) = true) (hop : o.op = .next x t) (hx : ev e x = .pointer (some ⟨b, 0, none⟩))
    (h : ∀ v s', Stp [c] s s' → NXV v a off → SitF s' b a (nxo a off) c → TM P f N m G R (.inRegion ops rest :: k) (upd e d v) s'.w) : TM P f N m G R (.inRegion ops (i :: rest) :: k) e s.w := by
  subst ht
  have hb : b < s.w.heap.size := (Array.getElem?_eq_some_iff.1 hB.1).1
  have hgo : (getObj b).run P s.w = .ok (.stringIter a off) s.w := by
    simp [getObj, Sem.run, hB.1]
  by_cases hlt : off < a.size
  · let w' : World := { s.w with heap := s.w.heap.setIfInBounds b (.stringIter a (off + (Utf8.decode a off).2)) }
    have hrun : (Instr.next (.pointer (some ⟨b, 0, none⟩)) true o.type).run P s.w = .ok (.tuple #[.bool true, goInt off, .int .i32 (Utf8.decode a off).1]) w' := by
      unfold Instr.next
      simp only []
      rw [Sem.run_bind', hgo]
      simp only [Result.andThen]
      rw [if_pos hlt]
      have hset : (setObj b (.stringIter a (off + (Utf8.decode a off).2))).run P s.w = .ok () w' := by
        simp only [setObj, Sem.run, hB.1]
        rfl
      rw [Sem.run_bind', hset]
      rfl
    refine vl (v := _) (w' := w') ho hd hN hw (by simp only [execOp, hop, hx]; rw [Sem.run_bind', hrun]; rfl) (h _ ⟨w', s.g⟩ ⟨rfl, rfl, rfl, by simp [w'], fun _ _ _ => rfl, fun b' hb' hm => ⟨rfl, ?_⟩⟩ (.inl ⟨hlt, rfl⟩) ⟨?_, hB.2⟩)
    · have : b ≠ b' := fun e => by subst e; rw [hB.2] at hm; simp [memb] at hm
      simp [w', Array.getElem?_setIfInBounds_ne this]
    · simp [w', hb, nxo, hlt]
  · have hrun : (Instr.next (.pointer (some ⟨b, 0, none⟩)) true o.type).run P s.w = .ok (.tuple #[.bool false]) s.w := by
      unfold Instr.next
      simp only []
      rw [Sem.run_bind', hgo]
      simp only [Result.andThen]
      rw [if_neg hlt]; rfl
    refine vl (v := _) (w' := s.w) ho hd hN hw (by simp only [execOp, hop, hx]; rw [Sem.run_bind', hrun]; rfl) (h _ s ⟨rfl, rfl, rfl, Nat.le_refl _, fun _ _ _ => rfl, fun _ _ _ => ⟨rfl, rfl⟩⟩ (.inr ⟨hlt, rfl⟩) ?_)
    simp only [nxo, hlt, if_false]
    exact hB
theorem ex0 {x : Operand} {v : Value} {a : ByteArray} {off : Nat} (hv : NXV v a off) (ho : ops[i]? = some o) (hd : o.dst = some d) (hN : Nat.blt d N = true) (hw : Region.wanted o (yv e ops) = true) (hop : o.op = .extract x 0) (hx : ev e x = v)
    (h : TM P f N m G R (.inRegion ops rest :: k) (upd e d (.bool (decide (off < a.size)))) s.w) : TM P f N m G R (.inRegion ops (i :: rest) :: k) e s.w := by
  refine vl ho hd hN hw ?_ h
  rcases hv with ⟨hl, rfl⟩ | ⟨hl, rfl⟩
  · simp [execOp, hop, hx, Instr.extract, hl, Result.andThen]
  · simp [execOp, hop, hx, Instr.extract, hl, Result.andThen]
theorem ex2 {x : Operand} {v : Value} {a : ByteArray} {off : Nat} (hv : NXV v a off) (ho : ops[i]? = some o) (hd : o.dst = some d) (hN : Nat.blt d N = true) (hw : Region.wanted o (yv e ops) = true) (hop : o.op = .extract x 2) (hx : ev e x = v)
    (h : TM P f N m G R (.inRegion ops rest :: k) (upd e d (.int .i32 (Utf8.decode a off).1)) s.w) : TM P f N (if off < a.size then m else none) G R (.inRegion ops (i :: rest) :: k) e s.w := by
  refine mg fun hl => ?_
  refine vl ho hd hN hw ?_ h
  rcases hv with ⟨_, rfl⟩ | ⟨hl', rfl⟩
  · simp [execOp, hop, hx, Instr.extract, Result.andThen]
  · exact absurd hl hl'
theorem slaF {α : Type} {K : Kd α} {t te : TypeId} {v : Value} {xs : List α} {C : List Nat} {G2 : Nat → Prop} {x p : Operand} {k1 : IntKind} {a : Int} (hF : RdF (Kd.sl te K) s [v] xs C) (hG : (Kd.sl te K).rd s.w [v] xs G2) (hu : P.underlying t = some (.slice te)) (hs : (P.info? te).map (·.size) = some K.n)
    (ho : ops[i]? = some o) (hd : o.dst = some d) (hN : Nat.blt d N = true) (hw : Region.wanted o (yv e ops) = true) (hop : o.op = .slice t x (some p) none none) (hx : ev e x = v) (hp : ev e p = .int k1 a)
    (h : ∀ v', RdF (Kd.sl te K) s [v'] (xs.drop a.toNat) C → (Kd.sl te K).rd s.w [v'] (xs.drop a.toNat) G2 → TM P f N m G R (.inRegion ops rest :: k) (upd e d v') s.w) : TM P f N (if 0 ≤ a ∧ a ≤ xs.length then m else none) G R (.inRegion ops (i :: rest) :: k) e s.w := by
  refine mg fun hg => ?_
  obtain ⟨a, rfl⟩ := Int.eq_ofNat_of_zero_le hg.1
  have hab : a ≤ xs.length := by have := hg.2; omega
  obtain ⟨v1, e1, hS⟩ := hF
  obtain rfl : v = v1 := by simpa using e1
  obtain ⟨v2, e2, hS2⟩ := hG
  obtain rfl : v = v2 := by simpa using e2
  obtain ⟨A, cap, cells, hv, hcap, hels, hc⟩ := hS
  subst hv
  have hcut := cut_run (P := P) (w := s.w) (A := A) (len := xs.length) (cap := cap) (a := a) (b := xs.length) (lo := some (.int k1 a)) (hi := none) hu hs hab (by omega) (.inr ⟨k1, rfl⟩) (.inl ⟨rfl, rfl⟩)
  have c1 := cut_rd (a := a) (b := xs.length) ⟨A, cap, cells, rfl, hcap, hels, hc⟩ hab (Nat.le_refl _)
  have c2 := cut_rd (a := a) (b := xs.length) hS2 hab (Nat.le_refl _)
  rw [List.take_length] at c1 c2
  simp only [Int.toNat_natCast] at h
  refine vl ho hd hN hw (by simp only [execOp, hop, hx, Option.map_none, Option.map_some, hp]; rw [Sem.run_bind', hcut]; rfl) (h _ ⟨_, rfl, c1⟩ ⟨_, rfl, c2⟩)
end
section
variable {P : Program} {f : Who} {N : Nat} {O ρ : Type} {G : O → Option ρ} {R : ρ → Ending → World → Prop} {k : List Item} {e : Env} {ops : Array Oper}
theorem clV {α : Type} {x : Option α} {km : α → Option O} {i d : Nat} {rest : List Nat} {o : Oper} {g : FuncId} {fn : Func} {c : Code} {args : Array Operand} {ts : Array TypeId} {vs : List Value} {s : St} {V : α → Value} (cc : Nat) (t0 : E5 (ops[i]?) (some o) (o.dst) (some d) (Nat.blt d N) (true) (Region.wanted o (yv e ops)) (true) (o.op) (.call { callee := .value (.func g), args := args, argTypes := ts })) (hg : P.funcs[g]? = some fn) (t6 : E3 (fn.body) (some c) ((fn.name == "runtime.NumGoroutine")) (false) (args.toList.map (ev e)) (vs)) (hc : ∀ a, x = some a → Calls P g vs.toArray s.w fun en w' => ∃ v, en = .returned v ∧ v = V a ∧ Ky [] s.w w')
  (h : ∀ a s', Stp [] s s' → Nw s s' cc → TM P f N (km a) G R (.inRegion ops rest :: k) (upd e d (V a)) s'.w) : TM P f N (x.bind km) G R (.inRegion ops (i :: rest) :: k) e s.w :=
 cl (e5_ t0).1 (e5_ t0).2.1 (e5_ t0).2.2.1 (e5_ t0).2.2.2.1 (e5_ t0).2.2.2.2 hg (e3_ t6).1 (e3_ t6).2.1 (e3_ t6).2.2 hc fun a v w' _ hq => by
  obtain ⟨rfl, ky⟩ := hq
  obtain ⟨s', rfl, p, n⟩ := nwx s w' cc ky
  exact h a s' p n
theorem clO {α : Type} {x : Option α} {km : α → Option O} {i d : Nat} {rest : List Nat} {o : Oper} {g : FuncId} {fn : Func} {c : Code} {args : Array Operand} {ts : Array TypeId} {vs : List Value} {s : St} {β : Type} {K : Kd β} {X : α → β} (cc : Nat) (t0 : E5 (ops[i]?) (some o) (o.dst) (some d) (Nat.blt d N) (true) (Region.wanted o (yv e ops)) (true) (o.op) (.call { callee := .value (.func g), args := args, argTypes := ts })) (hg : P.funcs[g]? = some fn) (t6 : E3 (fn.body) (some c) ((fn.name == "runtime.NumGoroutine")) (false) (args.toList.map (ev e)) (vs)) (hc : ∀ a, x = some a → Calls P g vs.toArray s.w fun en w' => ∃ v, en = .returned v ∧ FO K s.w w' [v] (X a) ∧ Ky [] s.w w')
  (h : ∀ a v s', Stp [] s s' → OwF K s' [v] (X a) cc → TM P f N (km a) G R (.inRegion ops rest :: k) (upd e d v) s'.w) : TM P f N (x.bind km) G R (.inRegion ops (i :: rest) :: k) e s.w :=
 cl (e5_ t0).1 (e5_ t0).2.1 (e5_ t0).2.2.1 (e5_ t0).2.2.2.1 (e5_ t0).2.2.2.2 hg (e3_ t6).1 (e3_ t6).2.1 (e3_ t6).2.2 hc fun a v w' _ hq => by
  obtain ⟨f, ky⟩ := hq
  obtain ⟨s', rfl, p, n⟩ := nwx s w' cc ky
  exact h a v s' p (f.c n)
theorem clB {α : Type} {x : Option α} {km : α → Option O} {i d : Nat} {rest : List Nat} {o : Oper} {g : FuncId} {fn : Func} {c : Code} {args : Array Operand} {ts : Array TypeId} {vs : List Value} {s : St} {V : α → Value} {W : α → List Value} {b tb cb : Nat} {cs : List Value} (hB : BlF s b tb cs cb) (t0 : E5 (ops[i]?) (some o) (o.dst) (some d) (Nat.blt d N) (true) (Region.wanted o (yv e ops)) (true) (o.op) (.call { callee := .value (.func g), args := args, argTypes := ts })) (hg : P.funcs[g]? = some fn) (t6 : E3 (fn.body) (some c) ((fn.name == "runtime.NumGoroutine")) (false) (args.toList.map (ev e)) (vs)) (hc : ∀ a, x = some a → Calls P g vs.toArray s.w fun en w' => ∃ v, en = .returned v ∧ v = V a ∧ BlW w' b tb (W a) ∧ Ky [b] s.w w')
  (h : ∀ a s', Stp [cb] s s' → BlF s' b tb (W a) cb → TM P f N (km a) G R (.inRegion ops rest :: k) (upd e d (V a)) s'.w) : TM P f N (x.bind km) G R (.inRegion ops (i :: rest) :: k) e s.w :=
 cl (e5_ t0).1 (e5_ t0).2.1 (e5_ t0).2.2.1 (e5_ t0).2.2.2.1 (e5_ t0).2.2.2.2 hg (e3_ t6).1 (e3_ t6).2.1 (e3_ t6).2.2 hc fun a v w' _ hq => by
  obtain ⟨rfl, bw, ky⟩ := hq
  obtain ⟨s', rfl, p, n, g⟩ := nwb 0 hB ky
  exact h a s' p (Xy bw g)
end
end Go.Proofs.YtdhefendaopcbaaGreatDoor.V
