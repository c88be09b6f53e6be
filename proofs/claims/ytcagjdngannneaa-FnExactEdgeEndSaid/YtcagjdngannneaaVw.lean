
import Derived.Test.YtcagjdngannneaaVv
set_option linter.unusedVariables false
set_option linter.unusedSimpArgs false
namespace Go.Proofs.Ytcagjdngannneaa.V
open Go
def bcmpS (xs ys : List Int) : Int := Extern.BytealgCompare.cmp (str xs) (str ys)
def bcmp : List Int → List Int → Int
  | [], [] => 0
  | [], _ :: _ => -1
  | _ :: _, [] => 1
  | x :: xs, y :: ys => bif x == y then bcmp xs ys else bif decide (x < y) then -1 else 1
section
variable {P : Program} {f : FuncId} {N : Nat} {O ρ : Type} {m : Option O} {G : O → Option ρ} {R : ρ → Ending → World → Prop} {e : Env} {s : St} {k : List Item} {ops : Array Oper} {i d : Nat} {rest : List Nat} {o : Oper}
theorem add1 (a : Addr) (j : Nat) : (a.add 1).add j = a.add (j + 1) := by
  rw [Addr.add_add', Nat.add_comm]
theorem load_bytes {w : World} : ∀ (xs : List Int) (a : Addr) (acc : ByteArray), (∀ j u, (xs.map (Value.int .u8))[j]? = some u → w.cell? (a.add j) = some u) →
    (Extern.Bytes.loadBytes a xs.length acc).run P w = .ok (xs.foldl (fun r n => r.push (UInt8.ofNat n.toNat)) acc) w
  | [], a, acc, _ => by simp [Extern.Bytes.loadBytes]
  | x :: xs, a, acc, h => by
    have h0 := h 0 (.int .u8 x) rfl
    rw [V.add_zero] at h0
    have hl : (load a).run P w = .ok (.int .u8 x) w := by simp [load, Sem.run, h0]
    simp only [List.length_cons]
    unfold Extern.Bytes.loadBytes
    rw [Sem.run_bind', hl]
    simp only [Result.andThen, List.foldl_cons]
    exact load_bytes xs (a.add 1) _ fun j u hj => by rw [add1]; exact h (j + 1) u hj
theorem bytes_run {tg : TypeId} {v : Value} {xs : List Int} {C : List Nat} (hF : RdF (Kd.sl tg (Kd.int .u8)) s [v] xs C) : (Extern.Bytes.bytesOf v).run P s.w = .ok (str xs) s.w := by
  obtain ⟨v1, e1, A, cap, cells, rfl, hcap, hels, hc⟩ := hF
  obtain rfl : v = .slice A xs.length cap := by simpa using e1
  have hcells : cells = xs.map (.int .u8) := els_u8 hels
  cases A with
  | none =>
    have : xs = [] := by
      cases xs with
      | nil => rfl
      | cons x xs =>
        obtain ⟨ad, h, _⟩ := hc (by rw [hcells]; simp)
        cases h
    subst this
    simp [Extern.Bytes.bytesOf, str]
  | some a =>
    refine load_bytes xs a _ ?_
    rw [← hcells]
    by_cases hne : cells = []
    · rw [hne]; intro j u h; cases h
    · obtain ⟨ad, h, _, hcell⟩ := hc hne
      obtain rfl := Option.some.inj h
      exact hcell
theorem bcx {g : FuncId} {fn : Func} {X Y : Operand} {ts : Array TypeId} {t1 t2 : TypeId} {v u : Value} {xs ys : List Int} {C D : List Nat} (hX : RdF (Kd.sl t1 (Kd.int .u8)) s [v] xs C) (hY : RdF (Kd.sl t2 (Kd.int .u8)) s [u] ys D)
    (ho : ops[i]? = some o) (hd : o.dst = some d) (hN : Nat.blt d N = true) (hw : Region.wanted o (yv e ops) = true) (hop : o.op = .call { callee := .value (.func g), args := #[X, Y], argTypes := ts }) (hg : P.funcs[g]? = some fn) (hb : fn.body = none)
    (hn : (fn.name == "runtime.NumGoroutine") = false) (hnx : Extern.findNext fn = none) (hf : Extern.find fn = some Extern.BytealgCompare.compare) (hx : ev e X = v) (hy : ev e Y = u)
    (h : TM P f N m G R (.inRegion ops rest :: k) (upd e d (.int .i64 (bcmpS xs ys))) s.w) : TM P f N m G R (.inRegion ops (i :: rest) :: k) e s.w :=
  vl ho hd hN hw (ext_run hop hg hb hn hnx hf (by
    rw [show (#[X, Y] : Array Operand).map (ev e) = #[ev e X, ev e Y] from by simp, hx, hy]
    show Sem.run P (do let a ← Extern.Bytes.bytesOf v; let b ← Extern.Bytes.bytesOf u; pure (goInt (Extern.BytealgCompare.cmp a b))) s.w = _
    rw [Sem.run_bind', bytes_run hX]
    simp only [Result.andThen]
    rw [Sem.run_bind', bytes_run hY]
    rfl)) h
end
end Go.Proofs.Ytcagjdngannneaa.V
