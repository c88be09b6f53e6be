
import Derived.Test.YtcagjdngannneaaVk
import Derived.Lib.AppendZerosOnto
import Derived.Laws.BytesString
set_option linter.unusedVariables false
set_option linter.unusedSimpArgs false
namespace Go.Proofs.Ytcagjdngannneaa.V
open Go
theorem zero_made (z : Array Value) (k : Nat) : Builtin.zeroCells z k = madeCells z (k * z.size) := rfl
section
variable {P : Program} {w : World}
end
section
variable {P : Program} {f : FuncId} {N : Nat} {O ρ : Type} {m : Option O} {G : O → Option ρ} {R : ρ → Ending → World → Prop} {e : Env} {s : St} {k : List Item} {ops : Array Oper} {i d : Nat} {rest : List Nat} {o : Oper}
theorem nq {α : Type} {t te : TypeId} {K : Kd α} {v : Value} {xs : List α} {C : List Nat} {x : Operand} {t2 : TypeId} (hF : RdF (Kd.sl te K) s [v] xs C) (hu : P.underlying t = some (.slice te))
    (ho : ops[i]? = some o) (hd : o.dst = some d) (hN : Nat.blt d N = true) (hw : Region.wanted o (yv e ops) = true) (hop : o.op = .binOp .eql t x (.const (.slice none 0 0)) t2) (hx : ev e x = v) (hK : Nat.ble 1 K.n = true)
    (h : ∀ b : Bool, (b = true → xs = []) → TM P f N m G R (.inRegion ops rest :: k) (upd e d (.bool b)) s.w) : TM P f N m G R (.inRegion ops (i :: rest) :: k) e s.w := by
  obtain ⟨v1, e1, A, cap, cells, hv, hcap, hels, hc⟩ := hF
  obtain rfl : v = v1 := by simpa using e1
  have hn := Nat.le_of_ble_eq_true hK
  refine vl (v := .bool A.isNone) ho hd hN hw ?_ (h _ fun hA => ?_)
  · have : (Op.equal t (.slice A xs.length cap) (.slice none 0 0)).run P s.w = .ok A.isNone s.w := by
      unfold Op.equal Op.maxDepth Op.equalIn
      rw [Sem.run_bind', run_underlying hu]
      cases A <;> simp [Result.andThen]
    have h2 : ev e (.const (.slice none 0 0)) = .slice none 0 0 := rfl
    simp only [execOp, hop, h2, hx, hv, binOp, eqGuard]
    simp [this, Result.andThen]
  · cases xs with
    | nil => rfl
    | cons x xs =>
      have hl := hels.len
      have : cells ≠ [] := by
        intro h
        rw [h, List.length_nil, List.length_cons, Nat.add_mul] at hl
        omega
      obtain ⟨ad, rfl, _⟩ := hc this
      cases hA
theorem cdb {c : Operand} {x y : Code} {b : Bool} {w : World} (hc : ev e c = .bool b) (h1 : b = true → TM P f N m G R (.code x :: k) e w) (h2 : b = false → TM P f N m G R (.code y :: k) e w) :
    TM P f N m G R (.code (.cond c x y) :: k) e w := by
  cases b with
  | true => exact cdt hc (h1 rfl)
  | false => exact cdf hc (h2 rfl)


def str (xs : List Int) : ByteArray := xs.foldl (fun r n => r.push (UInt8.ofNat n.toNat)) ByteArray.empty
theorem els_u8 {w : World} {F : Nat → Prop} : ∀ {xs : List Int} {cells : List Value}, ElsR (Kd.int .u8) w F xs cells → cells = xs.map (.int .u8)
  | [], cells, h => h
  | x :: xs, cells, ⟨c1, c2, e, h1, h2⟩ => by
    have h1' : c1 = [.int .u8 x] := h1
    rw [e, h1', els_u8 h2]; rfl
end
end Go.Proofs.Ytcagjdngannneaa.V
