/- Plain laws: control sectors read back: the program's and the reference's answer the same. -/
import Derived.Test.YtndhbfkahbbkaaaPd
import Derived.Test.YtndhbfkahbbkaaaPf
set_option linter.unusedVariables false
set_option linter.unusedSimpArgs false
namespace Go.Proofs.Ytndhbfkahbbkaaa
open Go V
theorem toByteS (a : List Int) (h : a.length ≤ 4294967296) : laws_toByteS.f a = some a := by
  unfold laws_toByteS.f
  rw [if_pos (by simp [Lim]; omega)]
  have hst : (List.replicate ((a.length : Int)).toNat (0 : Int), (0 : Int)) = (a.take 0 ++ List.replicate (a.length - 0) 0, ((0 : Nat) : Int)) := by simp
  rw [hst]
  have e : (some a : Option (List Int)) = some (a.take a.length ++ List.replicate (a.length - a.length) 0) := by simp
  rw [e]
  refine iter_for a.length (fun k => (a.take k ++ List.replicate (a.length - k) 0, (k : Int))) _ (fun k hk => ?_) ?_
  · unfold laws_toByteS.b0
    have hl : (a.take k ++ List.replicate (a.length - k) (0 : Int)).length = a.length := by rw [List.length_append, List.length_take, List.length_replicate]; omega
    simp only [hl]
    rw [if_pos (by simp; omega), if_pos ⟨by omega, by omega⟩, if_pos ⟨by omega, by omega⟩, at_nat a k hk, w64 (by omega) (by omega)]
    have hset : (a.take k ++ List.replicate (a.length - k) (0 : Int)).set ((k : Int)).toNat a[k] = a.take (k + 1) ++ List.replicate (a.length - (k + 1)) 0 := by
      rw [Int.toNat_natCast, List.set_append, if_neg (by simp; omega)]
      have : (a.take k).length = k := by simp; omega
      rw [this, Nat.sub_self, show a.length - k = (a.length - (k + 1)) + 1 by omega, List.replicate_succ, List.set_cons_zero, List.take_succ_eq_append_getElem hk, List.append_assoc]
      rfl
    rw [hset]
    simp
  · unfold laws_toByteS.b0
    simp only []
    rw [if_neg (by simp)]; rfl
theorem str_eq (a b : List Int) (ha : ∀ x ∈ a, InK .u8 x) (hb : ∀ x ∈ b, InK .u8 x) : ((str a).toList == (str b).toList) = decide (a = b) := by
  rw [str_list, str_list]
  by_cases h : a = b
  · subst h; simp
  · have hne : (a.map fun n => UInt8.ofNat n.toNat) ≠ (b.map fun n => UInt8.ofNat n.toNat) := by
      intro hm
      apply h
      have hlen : a.length = b.length := by simpa using congrArg List.length hm
      apply List.ext_getElem hlen
      intro i h1 h2
      have := congrArg (fun l => l[i]?) hm
      simp only [List.getElem?_map, List.getElem?_eq_getElem h1, List.getElem?_eq_getElem h2, Option.map_some, Option.some.injEq] at this
      have e1 := u8n (ha a[i] (List.getElem_mem h1))
      have e2 := u8n (hb b[i] (List.getElem_mem h2))
      have := congrArg UInt8.toNat this
      simp only [UInt8.toNat_ofNat'] at this
      omega
    simp only [h, decide_false]
    exact beq_eq_false_iff_ne.2 hne
theorem bytesEqual (a b : List Int) (ha : ∀ x ∈ a, InK .u8 x) (hb : ∀ x ∈ b, InK .u8 x) : bytes_Equal.f a b = some (decide (a = b)) := by
  unfold bytes_Equal.f
  rw [str_eq a b ha hb]
/-- a sector's fields, as they stand -/
def cs (x : List Int) : Control := ⟨(GN x 3 4).1, at_ x 7, (GN x 8 4).1, (GN x 12 4).1, at_ x 16⟩
def ci (b : List Int) : Control := ⟨(GN b 0 4).1, (GN b 4 1).1, (GN b 5 4).1, (GN b 9 4).1, (GN b 13 1).1⟩
theorem le4 (n : Nat) : le n 4 = [((n / 256 ^ 0 % 256 : Nat) : Int), ((n / 256 ^ 1 % 256 : Nat) : Int), ((n / 256 ^ 2 % 256 : Nat) : Int), ((n / 256 ^ 3 % 256 : Nat) : Int)] := rfl
theorem pn4 (n : Int) (h0 : 0 ≤ n) (h1 : n < 4294967296) : PN n 4 = le n.toNat 4 := by
  unfold PN
  have : n.toNat / 256 ^ 4 = 0 := Nat.div_eq_of_lt (by omega)
  rw [if_pos ⟨by omega, by omega, h0, this⟩]; rfl
theorem val4 (n : Int) (h0 : 0 ≤ n) (h1 : n < 4294967296) : ((val (le n.toNat 4) : Nat) : Int) = n := by
  rw [val_le, Nat.mod_eq_of_lt (by omega)]; omega
theorem fill_u8 (x : List Int) (n : Nat) (h : ∀ y ∈ x, InK .u8 y) : ∀ y ∈ fill x n, InK .u8 y := by
  intro y hy
  rcases List.mem_append.1 hy with hy | hy
  · exact h y hy
  · obtain rfl := (List.mem_replicate.1 hy).2
    simp [InK, IntKind.min, IntKind.max, IntKind.signed, IntKind.bits]
theorem fr_u8 (k : Int) (b : List Int) (hb : ∀ x ∈ b, InK .u8 x) : ∀ y ∈ FR k b, InK .u8 y := by
  intro y hy
  unfold FR at hy
  split at hy
  · rename_i h
    rcases List.mem_append.1 hy with hy | hy
    · exact frh_u8 k b h.1 h.2.1 hb y hy
    · exact pn_u8 _ _ y hy
  · cases hy
theorem cb_u8 (c : Control) : ∀ y ∈ CB c, InK .u8 y := by
  unfold CB; split
  · rename_i h; exact fill_u8 _ _ (fr_u8 _ _ (cbb_u8 c h))
  · simp
theorem gn_eq (x : List Int) (a k : Nat) (n : Int) (l : List Int) (h1 : 1 ≤ k) (h2 : k ≤ 7) (h : a + k ≤ x.length) (hc : cut x a k = l) (hv : ((val l : Nat) : Int) = n) (hn : n < 4294967296) : (GN x (a : Int) (k : Int)).1 = n := by
  unfold GN
  rw [if_pos ⟨by omega, by omega, by omega, by omega⟩]
  simp only [Int.toNat_natCast, hc]
  rw [if_pos (by omega)]
  exact hv
theorem cb_read (c : Control) (h : CBok c) : (CB c).length = 64 ∧ cs (CB c) = c ∧ FA (CB c) 0 = (9, CBb c, 21, 0) ∧ ci (CBb c) = c ∧ (CBb c).length = 14 := by
  have hok := h
  obtain ⟨h1, h2, h3, h4, h5, h6, h7, h8, h9, h10⟩ := h
  have hb : CBb c = (((le c.Seq.toNat 4 ++ [c.Area]) ++ le c.Lsn.toNat 4) ++ le c.Next.toNat 4) ++ [c.Pages] := by
    unfold CBb
    rw [pn4 _ (by omega) (by omega), pn4 _ (by omega) (by omega), pn4 _ (by omega) (by omega)]
  have hbl : (CBb c).length = 14 := by rw [hb]; simp [le_len]
  have hcr := crc_lt (FRh 9 (CBb c)) (frh_u8 9 _ (by omega) (by omega) (cbb_u8 c hok))
  have hp2 : PN ((14 : Nat) : Int) 2 = [14, 0] := by decide
  have hfh : FRh 9 (CBb c) = ([9, 14, 0] : List Int) ++ CBb c := by unfold FRh; rw [hbl, hp2]; rfl
  have hx : CB c = (([9, 14, 0] : List Int) ++ CBb c) ++ le (crc (FRh 9 (CBb c))) 4 ++ List.replicate 43 0 := by
    unfold CB FR
    rw [if_pos hok, if_pos ⟨by omega, by omega, by omega⟩, pn4 _ (by omega) (by omega), Int.toNat_natCast]
    unfold fill
    have : (FRh 9 (CBb c) ++ le (crc (FRh 9 (CBb c))) 4).length = 21 := by rw [hfh]; simp [le_len, hbl]
    rw [this]
    rw [hfh]
  have v1 := val4 c.Seq (by omega) (by omega)
  have v2 := val4 c.Lsn (by omega) (by omega)
  have v3 := val4 c.Next (by omega) (by omega)
  have va : ((val [c.Area] : Nat) : Int) = c.Area := by simp [val]; omega
  have vp : ((val [c.Pages] : Nat) : Int) = c.Pages := by simp [val]; omega
  generalize hK : crc (FRh 9 (CBb c)) = K at *
  have hlen : (CB c).length = 64 := by rw [hx, hb]; simp [le_len]
  refine ⟨hlen, ?_, ?_, ?_, hbl⟩
  · unfold cs
    have e1 := gn_eq (CB c) 3 4 c.Seq _ (by omega) (by omega) (by omega) (by rw [hx, hb]; rfl) v1 (by omega)
    have e2 := gn_eq (CB c) 8 4 c.Lsn _ (by omega) (by omega) (by omega) (by rw [hx, hb]; rfl) v2 (by omega)
    have e3 := gn_eq (CB c) 12 4 c.Next _ (by omega) (by omega) (by omega) (by rw [hx, hb]; rfl) v3 (by omega)
    have e4 : at_ (CB c) 7 = c.Area := by rw [hx, hb]; rfl
    have e5 : at_ (CB c) 16 = c.Pages := by rw [hx, hb]; rfl
    rw [show ((3 : Nat) : Int) = 3 from rfl, show ((4 : Nat) : Int) = 4 from rfl] at e1
    rw [show ((8 : Nat) : Int) = 8 from rfl, show ((4 : Nat) : Int) = 4 from rfl] at e2
    rw [show ((12 : Nat) : Int) = 12 from rfl, show ((4 : Nat) : Int) = 4 from rfl] at e3
    rw [e1, e2, e3, e4, e5]
  · have q0 : at_ (CB c) 0 = 9 := by rw [hx]; rfl
    have q1 : cut (CB c) (0 + 1) 2 = [14, 0] := by rw [hx]; rfl
    have q2 : cut (CB c) (0 + 3 + 14) 4 = le K 4 := by rw [hx, hb]; rfl
    have q3 : cut (CB c) 0 (3 + 14) = FRh 9 (CBb c) := by rw [hfh, hx, hb]; rfl
    have q4 : cut (CB c) (0 + 3) 14 = CBb c := by rw [hx, hb]; rfl
    have qv : val ([14, 0] : List Int) = 14 := rfl
    unfold FA
    rw [if_neg (by rw [hlen]; omega)]
    simp only [Int.toNat_zero, q0, q1, qv, q2, q3, q4, hK, val_le]
    rw [if_neg (by omega), hlen, if_neg (by omega), Nat.mod_eq_of_lt (by omega), if_neg (by simp)]
    rfl
  · unfold ci
    have e1 := gn_eq (CBb c) 0 4 c.Seq _ (by omega) (by omega) (by omega) (by rw [hb]; rfl) v1 (by omega)
    have e2 := gn_eq (CBb c) 4 1 c.Area _ (by omega) (by omega) (by omega) (by rw [hb]; rfl) va (by omega)
    have e3 := gn_eq (CBb c) 5 4 c.Lsn _ (by omega) (by omega) (by omega) (by rw [hb]; rfl) v2 (by omega)
    have e4 := gn_eq (CBb c) 9 4 c.Next _ (by omega) (by omega) (by omega) (by rw [hb]; rfl) v3 (by omega)
    have e5 := gn_eq (CBb c) 13 1 c.Pages _ (by omega) (by omega) (by omega) (by rw [hb]; rfl) vp (by omega)
    rw [show ((0 : Nat) : Int) = 0 from rfl, show ((4 : Nat) : Int) = 4 from rfl] at e1
    rw [show ((4 : Nat) : Int) = 4 from rfl, show ((1 : Nat) : Int) = 1 from rfl] at e2
    rw [show ((5 : Nat) : Int) = 5 from rfl, show ((4 : Nat) : Int) = 4 from rfl] at e3
    rw [show ((9 : Nat) : Int) = 9 from rfl, show ((4 : Nat) : Int) = 4 from rfl] at e4
    rw [show ((13 : Nat) : Int) = 13 from rfl, show ((1 : Nat) : Int) = 1 from rfl] at e5
    rw [e1, e2, e3, e4, e5]
end Go.Proofs.Ytndhbfkahbbkaaa
