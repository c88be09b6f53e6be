/- The functions as models, and that the calls come to what the models tell. -/
import Derived.Test.YtlpbggnpiogioaaGreatGt
set_option linter.unusedVariables false
set_option linter.unusedSimpArgs false
set_option maxHeartbeats 4000000
set_option maxRecDepth 100000
noncomputable section
namespace Go.Proofs.YtlpbggnpiogioaaGreat
open Go V Tryz
def laws_szByteS.f (a0 : (List Int)) (a1 : Int) : Option (Int) :=
 (if (decide ((IntKind.wrap .i64 (a1 - (a0.length : Int))) < (0 : Int))) = true then (some (-1 : Int)) else (some (IntKind.wrap .i64 (a1 - (a0.length : Int)))))
def laws_szByteS.Q (w : World) (F : Nat → Prop) (r : Int) (v : Value) (w' : World) : Prop :=
 v = (iI r) ∧ Ky [] w w'
theorem laws_szByteS.calls (a0 : (List Int)) (a1 : Int) (w : World) (F : Nat → Prop) (w0_0 : Value) (h0_0 : Ym.rd w [w0_0] a0 F) (r : Int) (m : laws_szByteS.f a0 a1 = some r) :
  Calls prog 16 #[w0_0, (iI a1)] w (RT (laws_szByteS.Q w F) r) := by
 obtain ⟨s0, rfl, kp0, z⟩ := Xn w F
 refine Xf (args := [w0_0, (iI a1)]) func16 ntmps16 rfl rfl m ?_
 unfold laws_szByteS.f
 refine sr (Xb rfl (dn (sr (Xb rfl (Xw w0_0 rfl (ln' (z.rd h0_0) u26 rfl (Xb rfl (Xb rfl (dn (sq (sr (Xb rfl (Xb rfl (dn ?_))))))))))))))
 refine cd rfl (fun h2 => ?_) (fun h2 => ?_)
 ·
  exact sr (Xb rfl (dn (re rfl func16 rfl (Xv rfl Xg) rfl ⟨_, rfl, rfl, z.ky kp0⟩)))
 exact sk (sr (Xb rfl (Xb rfl (dn (re rfl func16 rfl (Xv rfl Xg) rfl ⟨_, rfl, rfl, z.ky kp0⟩)))))
def laws_szItem.f (a0 : Item) (a1 : Int) : Option (Int) :=
 ((laws_szByteS.f a0.T a1).bind fun r6 => (if (decide (r6 < (0 : Int))) = true then (some (-1 : Int)) else (some r6)))
def laws_szItem.Q (w : World) (F : Nat → Prop) (r : Int) (v : Value) (w' : World) : Prop :=
 v = (iI r) ∧ Ky [] w w'
theorem laws_szItem.calls (a0 : Item) (a1 : Int) (w : World) (F : Nat → Prop) (w0_0 : Value) (w0_1 : Value) (h0_0 : Kd.flt.rd w [w0_0] a0.F F) (h0_1 : Ym.rd w [w0_1] a0.T F) (r : Int) (m : laws_szItem.f a0 a1 = some r) :
  Calls prog 5 #[(.agg #[(iI a0.Kind), (iI a0.N), w0_0, w0_1]), (iI a1)] w (RT (laws_szItem.Q w F) r) := by
 obtain ⟨s0, rfl, kp0, z⟩ := Xn w F
 refine Xf (args := [(.agg #[(iI a0.Kind), (iI a0.N), w0_0, w0_1]), (iI a1)]) func5 ntmps5 rfl rfl m ?_
 unfold laws_szItem.f
 refine sr (bx' (cs := [(iI a0.Kind), (iI a0.N), w0_0, w0_1]) 40 rfl rfl (fun b2 s2 p2 B2 => ?_))
 refine Xb rfl (dn (sr (Xs fa28_3 rfl (Yb B2 u26 rfl (Xb rfl ?_)))))
 have K4 := kp0.st p2 rfl
 refine clV 41 rfl func16 rfl (laws_szByteS.calls a0.T a1 s2.w (mm [0] s2) w0_1 ((z.rd h0_1).kp K4)) (fun r6 s7 p7 n7 => ?_)
 refine Xb rfl (dn (sq (sr (Xb rfl (Xb rfl (dn (cd rfl (fun h8 => ?_) (fun h8 => ?_))))))))
 ·
  refine sr (Xb rfl (dn ?_))
  exact re rfl func5 rfl (Xv rfl Xg) rfl ⟨_, rfl, rfl, z.ky (K4.st p7 rfl)⟩
 refine sk (sr (Xb rfl (Xb rfl (dn ?_))))
 exact re rfl func5 rfl (Xv rfl Xg) rfl ⟨_, rfl, rfl, z.ky (K4.st p7 rfl)⟩
def laws_szEntry.f (a0 : Entry) (a1 : Int) : Option (Int) :=
 ((laws_szItem.f a0.Key a1).bind fun r6 => (if (decide (r6 < (0 : Int))) = true then (some (-1 : Int)) else (some r6)))
def laws_szEntry.Q (w : World) (F : Nat → Prop) (r : Int) (v : Value) (w' : World) : Prop :=
 v = (iI r) ∧ Ky [] w w'
theorem laws_szEntry.calls (a0 : Entry) (a1 : Int) (w : World) (F : Nat → Prop) (w0_0 : Value) (w0_1 : Value) (h0_0 : Kd.flt.rd w [w0_0] a0.Key.F F) (h0_1 : Ym.rd w [w0_1] a0.Key.T F) (r : Int) (m : laws_szEntry.f a0 a1 = some r) :
  Calls prog 84 #[(.agg #[(iI a0.Key.Kind), (iI a0.Key.N), w0_0, w0_1, (iI a0.Id)]), (iI a1)] w (RT (laws_szEntry.Q w F) r) := by
 obtain ⟨s0, rfl, kp0, z⟩ := Xn w F
 refine Xf (args := [(.agg #[(iI a0.Key.Kind), (iI a0.Key.N), w0_0, w0_1, (iI a0.Id)]), (iI a1)]) func84 ntmps84 rfl rfl m ?_
 unfold laws_szEntry.f
 refine sr (bx' (cs := [(iI a0.Key.Kind), (iI a0.Key.N), w0_0, w0_1, (iI a0.Id)]) 40 rfl rfl (fun b2 s2 p2 B2 => ?_))
 refine Xb rfl (dn (sr (Xs fa121_0 rfl (Yl (es := [(iI a0.Key.Kind), (iI a0.Key.N), w0_0, w0_1]) B2 u28 z28 rfl (Xb rfl ?_)))))
 have K4 := kp0.st p2 rfl
 refine clV 41 rfl func5 rfl (laws_szItem.calls a0.Key a1 s2.w (mm [0] s2) w0_0 w0_1 ((Xk (s := s2) (Yj h0_0)).sub (D := [0]) rfl) ((z.rd h0_1).kp K4)) (fun r6 s7 p7 n7 => ?_)
 refine Xb rfl (dn (sq (sr (Xb rfl (Xb rfl (dn (cd rfl (fun h8 => ?_) (fun h8 => ?_))))))))
 ·
  refine sr (Xb rfl (dn ?_))
  exact re rfl func84 rfl (Xv rfl Xg) rfl ⟨_, rfl, rfl, z.ky (K4.st p7 rfl)⟩
 refine sk (sr (Xb rfl (Xb rfl (dn ?_))))
 exact re rfl func84 rfl (Xv rfl Xg) rfl ⟨_, rfl, rfl, z.ky (K4.st p7 rfl)⟩
def laws_szEntryS.b0 (a0 : (List Entry)) (x3 : Int × Int) : Option ((Int × Int) ⊕ Int) :=
 (if (decide (x3.2 < (a0.length : Int))) = true then (if 0 ≤ x3.2 ∧ x3.2 < (a0.length : Int) then ((laws_szEntry.f (Entry.mk ((at_ a0 x3.2).Key) ((at_ a0 x3.2).Id)) x3.1).bind fun r10 => (if (decide (r10 < (0 : Int))) = true then (some (Sum.inr (-1 : Int))) else (some (Sum.inl (r10, (IntKind.wrap .i64 (x3.2 + (1 : Int)))))))) else none) else ((some x3.1).bind fun o => some (Sum.inr o)))
def laws_szEntryS.f (a0 : (List Entry)) (a1 : Int) : Option (Int) :=
 (if (decide ((IntKind.wrap .i64 (a1 - (a0.length : Int))) < (0 : Int))) = true then (some (-1 : Int)) else (iter (laws_szEntryS.b0 a0) ((IntKind.wrap .i64 (a1 - (a0.length : Int))), (0 : Int))))
def laws_szEntryS.Q (w : World) (F : Nat → Prop) (r : Int) (v : Value) (w' : World) : Prop :=
 v = (iI r) ∧ Ky [] w w'
theorem laws_szEntryS.calls (a0 : (List Entry)) (a1 : Int) (w : World) (F : Nat → Prop) (w0_0 : Value) (h0_0 : (Kd.sl 121 kd121).rd w [w0_0] a0 F) (r : Int) (m : laws_szEntryS.f a0 a1 = some r) :
  Calls prog 62 #[w0_0, (iI a1)] w (RT (laws_szEntryS.Q w F) r) := by
 obtain ⟨s0, rfl, kp0, z⟩ := Xn w F
 have A0_0 := z.rd h0_0
 refine Xf (args := [w0_0, (iI a1)]) func62 ntmps62 rfl rfl m ?_
 unfold laws_szEntryS.f
 refine sr (Xb rfl (dn (sr (Xb rfl (Xw w0_0 rfl (ln' A0_0 u73 rfl (Xb rfl (Xb rfl (dn (sq (sr (Xb rfl (Xb rfl (dn ?_))))))))))))))
 refine cd rfl (fun h2 => ?_) (fun h2 => ?_)
 ·
  exact sr (Xb rfl (dn (re rfl func62 rfl (Xv rfl Xg) rfl ⟨_, rfl, rfl, z.ky kp0⟩)))
 refine sk (sq (sr (Xb rfl (dn (bl (lpI (fun (x3 : Int × Int) e w => ∃ (s : St) (e0 : Env), w = s.w ∧ e = upd (upd (upd e0 0 w0_0) 1 (iI x3.1)) 5 (iI x3.2) ∧ Kp s0 s) ⟨s0, _, rfl, (ue (ue (ue rfl rfl) rfl) rfl), kp0⟩ (fun g3 ih3 => ?_)))))))
 rintro x3 _ _ ⟨s4, _, rfl, rfl, Kx3⟩
 unfold laws_szEntryS.b0
 refine sq (sr (Xb rfl (Xw w0_0 rfl ?_)))
 have A5 := A0_0.kp Kx3
 refine ln' A5 u73 rfl (Xb rfl (dn (cd rfl (fun h6 => ?_) (fun h6 => ?_))))
 ·
  refine sk (sq (bl (sr (Xw w0_0 rfl (Xb rfl (ix' A5 u73 z121 rfl (fun ad7 es7 h0_7 h1_7 he7 ce7 ia7 => ?_)))))))
  obtain ⟨v7_0, v7_1, rfl, A7_0, A7_1⟩ := op121 he7
  refine lca ce7 u121 z121 rfl rfl rfl rfl rfl rfl rfl (Xb rfl (clV 40 rfl func84 rfl (laws_szEntry.calls (Entry.mk ((at_ a0 x3.2).Key) ((at_ a0 x3.2).Id)) x3.1 s4.w (mm [0] s4) v7_0 v7_1 ((Xk (s := s4) A7_0).sub (D := [0]) rfl) A7_1) (fun r10 s11 p11 n11 => ?_)))
  refine Xb rfl (dn (sr (Xb rfl (Xb rfl (dn (cd rfl (fun h12 => ?_) (fun h12 => ?_)))))))
  ·
   refine sr (Xb rfl (dn (sgi ?_)))
   exact re rfl func62 rfl (Xv rfl Xg) rfl ⟨_, rfl, rfl, z.ky (Kx3.st p11 rfl)⟩
  refine sk (ib (rg (Xb rfl (Xb rfl (Xb rfl (dn ?_))))))
  exact lb ih3 ⟨s11, _, rfl, (ue (ue (ue rfl rfl) rfl) rfl), (Kx3.st p11 rfl)⟩
 exact xt rfl (sgb (sr (Xb rfl (Xb rfl (dn (re rfl func62 rfl (Xv rfl Xg) rfl ⟨_, rfl, rfl, z.ky Kx3⟩))))))
def laws_szIntS.f (a0 : (List Int)) (a1 : Int) : Option (Int) :=
 (if (decide ((IntKind.wrap .i64 (a1 - (a0.length : Int))) < (0 : Int))) = true then (some (-1 : Int)) else (some (IntKind.wrap .i64 (a1 - (a0.length : Int)))))
def laws_szIntS.Q (w : World) (F : Nat → Prop) (r : Int) (v : Value) (w' : World) : Prop :=
 v = (iI r) ∧ Ky [] w w'
theorem laws_szIntS.calls (a0 : (List Int)) (a1 : Int) (w : World) (F : Nat → Prop) (w0_0 : Value) (h0_0 : Yo.rd w [w0_0] a0 F) (r : Int) (m : laws_szIntS.f a0 a1 = some r) :
  Calls prog 63 #[w0_0, (iI a1)] w (RT (laws_szIntS.Q w F) r) := by
 obtain ⟨s0, rfl, kp0, z⟩ := Xn w F
 refine Xf (args := [w0_0, (iI a1)]) func63 ntmps63 rfl rfl m ?_
 unfold laws_szIntS.f
 refine sr (Xb rfl (dn (sr (Xb rfl (Xw w0_0 rfl (ln' (z.rd h0_0) u59 rfl (Xb rfl (Xb rfl (dn (sq (sr (Xb rfl (Xb rfl (dn ?_))))))))))))))
 refine cd rfl (fun h2 => ?_) (fun h2 => ?_)
 ·
  exact sr (Xb rfl (dn (re rfl func63 rfl (Xv rfl Xg) rfl ⟨_, rfl, rfl, z.ky kp0⟩)))
 exact sk (sr (Xb rfl (Xb rfl (dn (re rfl func63 rfl (Xv rfl Xg) rfl ⟨_, rfl, rfl, z.ky kp0⟩)))))
def laws_szNode.f (a0 : Node) (a1 : Int) : Option (Int) :=
 ((laws_szEntryS.f a0.Entries a1).bind fun r7 => (if (decide (r7 < (0 : Int))) = true then (some (-1 : Int)) else ((laws_szIntS.f a0.Kids r7).bind fun r14 => (if (decide (r14 < (0 : Int))) = true then (some (-1 : Int)) else (some r14)))))
def laws_szNode.Q (w : World) (F : Nat → Prop) (r : Int) (v : Value) (w' : World) : Prop :=
 v = (iI r) ∧ Ky [] w w'
theorem laws_szNode.calls (a0 : Node) (a1 : Int) (w : World) (F : Nat → Prop) (w0_0 : Value) (w0_1 : Value) (h0_0 : (Kd.sl 121 kd121).rd w [w0_0] a0.Entries F) (h0_1 : Yo.rd w [w0_1] a0.Kids F) (r : Int) (m : laws_szNode.f a0 a1 = some r) :
  Calls prog 38 #[(.agg #[(.bool a0.Leaf), w0_0, w0_1]), (iI a1)] w (RT (laws_szNode.Q w F) r) := by
 obtain ⟨s0, rfl, kp0, z⟩ := Xn w F
 refine Xf (args := [(.agg #[(.bool a0.Leaf), w0_0, w0_1]), (iI a1)]) func38 ntmps38 rfl rfl m ?_
 unfold laws_szNode.f
 refine sr (bx' (cs := [(.bool a0.Leaf), w0_0, w0_1]) 40 rfl rfl (fun b3 s3 p3 B3 => ?_))
 refine Xb rfl (dn (sr (Xs fa75_1 rfl (Yb B3 u73 rfl (Xb rfl ?_)))))
 have K5 := kp0.st p3 rfl
 refine clV 41 rfl func62 rfl (laws_szEntryS.calls a0.Entries a1 s3.w (mm [0] s3) w0_0 ((z.rd h0_0).kp K5)) (fun r7 s8 p8 n8 => ?_)
 refine Xb rfl (dn (sq (sr (Xb rfl (Xb rfl (dn (cd rfl (fun h9 => ?_) (fun h9 => ?_))))))))
 ·
  refine sr (Xb rfl (dn ?_))
  exact re rfl func38 rfl (Xv rfl Xg) rfl ⟨_, rfl, rfl, z.ky (K5.st p8 rfl)⟩
 refine sk (sr (Xs fa75_2 rfl ?_))
 refine Yb (B3.st p8 rfl) u59 rfl (Xb rfl ?_)
 have K12 := K5.st p8 rfl
 refine clV 42 rfl func63 rfl (laws_szIntS.calls a0.Kids r7 s8.w (mm [0] s8) w0_1 ((z.rd h0_1).kp K12)) (fun r14 s15 p15 n15 => ?_)
 refine Xb rfl (dn (sq (sr (Xb rfl (Xb rfl (dn (cd rfl (fun h16 => ?_) (fun h16 => ?_))))))))
 ·
  refine sr (Xb rfl (dn ?_))
  exact re rfl func38 rfl (Xv rfl Xg) rfl ⟨_, rfl, rfl, z.ky (K12.st p15 rfl)⟩
 refine sk (sr (Xb rfl (Xb rfl (dn ?_))))
 exact re rfl func38 rfl (Xv rfl Xg) rfl ⟨_, rfl, rfl, z.ky (K12.st p15 rfl)⟩
def laws_szNodeS.b0 (a0 : (List Node)) (x3 : Int × Int) : Option ((Int × Int) ⊕ Int) :=
 (if (decide (x3.2 < (a0.length : Int))) = true then (if 0 ≤ x3.2 ∧ x3.2 < (a0.length : Int) then ((laws_szNode.f (at_ a0 x3.2) x3.1).bind fun r11 => (if (decide (r11 < (0 : Int))) = true then (some (Sum.inr (-1 : Int))) else (some (Sum.inl (r11, (IntKind.wrap .i64 (x3.2 + (1 : Int)))))))) else none) else ((some x3.1).bind fun o => some (Sum.inr o)))
def laws_szNodeS.f (a0 : (List Node)) (a1 : Int) : Option (Int) :=
 (if (decide ((IntKind.wrap .i64 (a1 - (a0.length : Int))) < (0 : Int))) = true then (some (-1 : Int)) else (iter (laws_szNodeS.b0 a0) ((IntKind.wrap .i64 (a1 - (a0.length : Int))), (0 : Int))))
def laws_szNodeS.Q (w : World) (F : Nat → Prop) (r : Int) (v : Value) (w' : World) : Prop :=
 v = (iI r) ∧ Ky [] w w'
theorem laws_szNodeS.calls (a0 : (List Node)) (a1 : Int) (w : World) (F : Nat → Prop) (w0_0 : Value) (h0_0 : (Kd.sl 75 kd75).rd w [w0_0] a0 F) (r : Int) (m : laws_szNodeS.f a0 a1 = some r) :
  Calls prog 15 #[w0_0, (iI a1)] w (RT (laws_szNodeS.Q w F) r) := by
 obtain ⟨s0, rfl, kp0, z⟩ := Xn w F
 have A0_0 := z.rd h0_0
 refine Xf (args := [w0_0, (iI a1)]) func15 ntmps15 rfl rfl m ?_
 unfold laws_szNodeS.f
 refine sr (Xb rfl (dn (sr (Xb rfl (Xw w0_0 rfl (ln' A0_0 u22 rfl (Xb rfl (Xb rfl (dn (sq (sr (Xb rfl (Xb rfl (dn ?_))))))))))))))
 refine cd rfl (fun h2 => ?_) (fun h2 => ?_)
 ·
  exact sr (Xb rfl (dn (re rfl func15 rfl (Xv rfl Xg) rfl ⟨_, rfl, rfl, z.ky kp0⟩)))
 refine sk (sq (sr (Xb rfl (dn (bl (lpI (fun (x3 : Int × Int) e w => ∃ (s : St) (e0 : Env), w = s.w ∧ e = upd (upd (upd e0 0 w0_0) 1 (iI x3.1)) 5 (iI x3.2) ∧ Kp s0 s) ⟨s0, _, rfl, (ue (ue (ue rfl rfl) rfl) rfl), kp0⟩ (fun g3 ih3 => ?_)))))))
 rintro x3 _ _ ⟨s4, _, rfl, rfl, Kx3⟩
 unfold laws_szNodeS.b0
 refine sq (sr (Xb rfl (Xw w0_0 rfl ?_)))
 have A5 := A0_0.kp Kx3
 refine ln' A5 u22 rfl (Xb rfl (dn (cd rfl (fun h6 => ?_) (fun h6 => ?_))))
 ·
  refine sk (sq (bl (sr (Xw w0_0 rfl (Xb rfl (ix' A5 u22 z75 rfl (fun ad7 es7 h0_7 h1_7 he7 ce7 ia7 => ?_)))))))
  obtain ⟨v7_0, v7_1, rfl, A7_0, A7_1⟩ := op75 he7
  refine lca ce7 u75 z75 rfl rfl rfl rfl rfl rfl rfl (Xb rfl (clV 40 rfl func38 rfl (laws_szNode.calls (at_ a0 x3.2) x3.1 s4.w (mm [0] s4) v7_0 v7_1 A7_0 A7_1) (fun r11 s12 p12 n12 => ?_)))
  refine Xb rfl (dn (sr (Xb rfl (Xb rfl (dn (cd rfl (fun h13 => ?_) (fun h13 => ?_)))))))
  ·
   refine sr (Xb rfl (dn (sgi ?_)))
   exact re rfl func15 rfl (Xv rfl Xg) rfl ⟨_, rfl, rfl, z.ky (Kx3.st p12 rfl)⟩
  refine sk (ib (rg (Xb rfl (Xb rfl (Xb rfl (dn ?_))))))
  exact lb ih3 ⟨s12, _, rfl, (ue (ue (ue rfl rfl) rfl) rfl), (Kx3.st p12 rfl)⟩
 exact xt rfl (sgb (sr (Xb rfl (Xb rfl (dn (re rfl func15 rfl (Xv rfl Xg) rfl ⟨_, rfl, rfl, z.ky Kx3⟩))))))
def laws_szTree.f (a0 : Tree) (a1 : Int) : Option (Int) :=
 ((laws_szNodeS.f a0.Nodes a1).bind fun r6 => (if (decide (r6 < (0 : Int))) = true then (some (-1 : Int)) else (some r6)))
def laws_szTree.Q (w : World) (F : Nat → Prop) (r : Int) (v : Value) (w' : World) : Prop :=
 v = (iI r) ∧ Ky [] w w'
theorem laws_szTree.calls (a0 : Tree) (a1 : Int) (w : World) (F : Nat → Prop) (w0_0 : Value) (h0_0 : (Kd.sl 75 kd75).rd w [w0_0] a0.Nodes F) (r : Int) (m : laws_szTree.f a0 a1 = some r) :
  Calls prog 4 #[(.agg #[w0_0, (iI a0.Root)]), (iI a1)] w (RT (laws_szTree.Q w F) r) := by
 obtain ⟨s0, rfl, kp0, z⟩ := Xn w F
 refine Xf (args := [(.agg #[w0_0, (iI a0.Root)]), (iI a1)]) func4 ntmps4 rfl rfl m ?_
 unfold laws_szTree.f
 refine sr (bx' (cs := [w0_0, (iI a0.Root)]) 40 rfl rfl (fun b2 s2 p2 B2 => ?_))
 refine Xb rfl (dn (sr (Xs fa24_0 rfl (Yb B2 u22 rfl (Xb rfl ?_)))))
 have K4 := kp0.st p2 rfl
 refine clV 41 rfl func15 rfl (laws_szNodeS.calls a0.Nodes a1 s2.w (mm [0] s2) w0_0 ((z.rd h0_0).kp K4)) (fun r6 s7 p7 n7 => ?_)
 refine Xb rfl (dn (sq (sr (Xb rfl (Xb rfl (dn (cd rfl (fun h8 => ?_) (fun h8 => ?_))))))))
 ·
  refine sr (Xb rfl (dn ?_))
  exact re rfl func4 rfl (Xv rfl Xg) rfl ⟨_, rfl, rfl, z.ky (K4.st p7 rfl)⟩
 refine sk (sr (Xb rfl (Xb rfl (dn ?_))))
 exact re rfl func4 rfl (Xv rfl Xg) rfl ⟨_, rfl, rfl, z.ky (K4.st p7 rfl)⟩
def laws_toByteS.b0 (a0 : (List Int)) (x4 : (List Int) × Int) : Option (((List Int) × Int) ⊕ (List Int)) :=
 (if (decide (x4.2 < (a0.length : Int))) = true then (if 0 ≤ x4.2 ∧ x4.2 < (a0.length : Int) then (if 0 ≤ x4.2 ∧ x4.2 < (x4.1.length : Int) then (some (Sum.inl ((x4.1.set (x4.2).toNat (at_ a0 x4.2)), (IntKind.wrap .i64 (x4.2 + (1 : Int)))))) else none) else none) else ((some x4.1).bind fun o => some (Sum.inr o)))
def laws_toByteS.f (a0 : (List Int)) : Option ((List Int)) :=
 (if 0 ≤ (a0.length : Int) ∧ (a0.length : Int) ≤ (Lim : Int) then (iter (laws_toByteS.b0 a0) ((List.replicate ((a0.length : Int)).toNat (0 : Int)), (0 : Int))) else none)
def laws_toByteS.Q (w : World) (F : Nat → Prop) (r : (List Int)) (v : Value) (w' : World) : Prop :=
 FO Ym w w' [v] r ∧ Ky [] w w'
theorem laws_toByteS.calls (a0 : (List Int)) (w : World) (F : Nat → Prop) (w0_0 : Value) (h0_0 : Ym.rd w [w0_0] a0 F) (r : (List Int)) (m : laws_toByteS.f a0 = some r) :
  Calls prog 26 #[w0_0] w (RT (laws_toByteS.Q w F) r) := by
 obtain ⟨s0, rfl, kp0, z⟩ := Xn w F
 have A0_0 := z.rd h0_0
 refine Xf (args := [w0_0]) func26 ntmps26 rfl rfl m ?_
 unfold laws_toByteS.f
 refine sr (Xb rfl (dn (sr (Xw w0_0 rfl (ln' A0_0 u26 rfl (mk (x0 := (0 : Int)) (K := (Kd.int .u8)) 40 sl26 o5 (fun _ => ⟨rfl, rfl⟩) rfl rfl rfl rfl rfl rfl rfl (fun v2 s2 p2 A2 => ?_)))))))
 refine asg' v2 rfl (dn (sq (sr (Xb rfl (dn (bl ?_))))))
 refine lpI (fun (x4 : (List Int) × Int) e w => ∃ (s : St) (e0 : Env), w = s.w ∧ e = upd (upd (upd e0 0 w0_0) 3 v2) 4 (iI x4.2) ∧ Kp s0 s ∧ OwF Ym s [v2] x4.1 40) ⟨s2, _, rfl, (ue (ue (ue rfl rfl) rfl) rfl), (kp0.st p2 rfl), A2⟩ (fun g4 ih4 => ?_)
 rintro x4 _ _ ⟨s6, _, rfl, rfl, Kx4, Ax4_0⟩
 unfold laws_toByteS.b0
 refine sq (sr (Xb rfl (Xw w0_0 rfl ?_)))
 have A8 := A0_0.kp Kx4
 refine ln' A8 u26 rfl (Xb rfl (dn (cd rfl (fun h9 => ?_) (fun h9 => ?_))))
 ·
  refine sk (sq (bl (rg (Xw v2 rfl (Xb rfl (Xw w0_0 rfl (Xb rfl (ix' A8 u26 z5 rfl (fun ad10 es10 h0_10 h1_10 he10 ce10 ia10 => ?_)))))))))
  obtain rfl := he10
  refine lc0 ce10 u5 rfl rfl rfl rfl rfl rfl rfl rfl (ix' Ax4_0.rd u26 z5 rfl (fun ad12 es12 h0_12 h1_12 he12 ce12 ia12 => ?_))
  obtain rfl := he12
  refine so (x' := (at_ a0 x4.2)) Ax4_0 ia12 h0_12 h1_12 cs_flat z5 rfl rfl rfl rfl rfl rfl (fun s14 p14 A14 => ?_)
  refine dn (ib (rg (Xb rfl (Xb rfl (Xb rfl (dn ?_))))))
  exact lb ih4 ⟨s14, _, rfl, (ue (ue (ue rfl rfl) rfl) rfl), (Kx4.st p14 rfl), A14⟩
 exact xt rfl (sgb (sr (Xw v2 rfl (asg' v2 rfl (dn (re rfl func26 rfl (Xv rfl Xg) rfl ⟨_, rfl, Ax4_0.fo Kx4 rfl z.l, z.ky Kx4⟩))))))
def laws_toItem.f (a0 : Item) : Option (Item) :=
 ((laws_toByteS.f a0.T).bind fun r20 => (some (Item.mk a0.Kind a0.N a0.F r20)))
def laws_toItem.Q (w : World) (F : Nat → Prop) (r : Item) (v : Value) (w' : World) : Prop :=
 ∃ (v0 : Value) (v1 : Value), v = (.agg #[(iI r.Kind), (iI r.N), v0, v1]) ∧ FO kd37 w w' [(iI r.Kind), (iI r.N), v0, v1] r ∧ Ky [] w w'
theorem laws_toItem.calls (a0 : Item) (w : World) (F : Nat → Prop) (w0_0 : Value) (w0_1 : Value) (h0_0 : Kd.flt.rd w [w0_0] a0.F F) (h0_1 : Ym.rd w [w0_1] a0.T F) (r : Item) (m : laws_toItem.f a0 = some r) :
  Calls prog 8 #[(.agg #[(iI a0.Kind), (iI a0.N), w0_0, w0_1])] w (RT (laws_toItem.Q w F) r) := by
 obtain ⟨s0, rfl, kp0, z⟩ := Xn w F
 have A0_0 := Yj h0_0
 refine Xf (args := [(.agg #[(iI a0.Kind), (iI a0.N), w0_0, w0_1])]) func8 ntmps8 rfl rfl m ?_
 unfold laws_toItem.f
 refine sr (bx' (cs := [(iI a0.Kind), (iI a0.N), w0_0, w0_1]) 40 rfl rfl (fun b2 s2 p2 B2 => ?_))
 refine al' (cs := [(iI 0), (iI 0), (.float .f64 0), (.slice none 0 0)]) 41 rfl o37 rfl (fun b4 s4 p4 B4 => ?_)
 refine dn (sr (al' (cs := [(iI 0), (iI 0), (.float .f64 0), (.slice none 0 0)]) 42 rfl o37 rfl (fun b6 s6 p6 B6 => ?_)))
 refine dn (sr (Xs fa28_0 rfl ?_))
 have A8 := B2.st (Xo p4 p6) rfl
 refine Yb A8 u3 rfl (Xs fa37_0 rfl (sv' B6 z3 rfl rfl rfl (fun s9 p9 B9 => ?_)))
 refine dn (sr (Xs fa28_1 rfl ?_))
 have A11 := A8.st p9 rfl
 refine Yb A11 u3 rfl (Xs fa37_1 rfl (sv' B9 z3 rfl rfl rfl (fun s12 p12 B12 => ?_)))
 refine dn (sr (Xs fa28_2 rfl ?_))
 have A14 := A11.st p12 rfl
 refine Yb A14 u25 rfl (Xs fa37_2 rfl (sv' B12 z25 rfl (FL.one A0_0) rfl (fun s15 p15 B15 => ?_)))
 refine dn (sr (Xs fa28_3 rfl ?_))
 refine Yb (A14.st p15 rfl) u26 rfl ?_
 have K18 := kp0.st (tr6 p2 p4 p6 p9 p12 p15) rfl
 refine clO 43 rfl func26 rfl (laws_toByteS.calls a0.T s15.w (mm [0] s15) w0_1 ((z.rd h0_1).kp K18)) (fun r20 v20_0 s21 p21 A20_0 => ?_)
 refine Xs fa37_3 rfl (sv' (B15.st p21 rfl) z26 rfl A20_0.rd.one rfl (fun s24 p24 B24 => ?_))
 refine dn (sr (Yl (es := [(iI a0.Kind), (iI a0.N), w0_0, v20_0]) B24 u37 z37 rfl ?_))
 have A27 := A20_0.st p24 rfl
 refine Yk (vs := [(iI a0.Kind), (iI a0.N), w0_0, v20_0]) (B4.st (tr6 p6 p9 p12 p15 p21 p24) rfl) z37 rfl (Xd rfl (Xd rfl (Xd (FL.one A0_0) (Xd A27.rd.one Xt)))) rfl (fun s28 p28 B28 => ?_)
 refine dn ?_
 have A30 : OwF kd37 s28 [(iI a0.Kind), (iI a0.N), w0_0, v20_0] (Item.mk a0.Kind a0.N a0.F r20) 43 := (Xz (fun x : Item => (x.Kind, x.N, x.F, x.T)) (Item.mk a0.Kind a0.N a0.F r20) (ow_l (Yc .i64 a0.Kind) (ow_l (Yc .i64 a0.N) (ow_l (fz_flt A0_0) (A27.st p28 rfl)))))
 have K33 := K18.st (Ye p21 p24 p28) rfl
 exact re rfl func8 rfl (r_b B28 u37 rfl z37 rfl Xg) rfl ⟨_, rfl, w0_0, v20_0, rfl, A30.fo K33 rfl z.l, z.ky K33⟩
def laws_toEntry.f (a0 : Entry) : Option (Entry) :=
 ((laws_toItem.f a0.Key).bind fun r11 => (some (Entry.mk r11 a0.Id)))
def laws_toEntry.Q (w : World) (F : Nat → Prop) (r : Entry) (v : Value) (w' : World) : Prop :=
 ∃ (v0 : Value) (v1 : Value), v = (.agg #[(iI r.Key.Kind), (iI r.Key.N), v0, v1, (iI r.Id)]) ∧ FO kd48 w w' [(iI r.Key.Kind), (iI r.Key.N), v0, v1, (iI r.Id)] r ∧ Ky [] w w'
theorem laws_toEntry.calls (a0 : Entry) (w : World) (F : Nat → Prop) (w0_0 : Value) (w0_1 : Value) (h0_0 : Kd.flt.rd w [w0_0] a0.Key.F F) (h0_1 : Ym.rd w [w0_1] a0.Key.T F) (r : Entry) (m : laws_toEntry.f a0 = some r) :
  Calls prog 87 #[(.agg #[(iI a0.Key.Kind), (iI a0.Key.N), w0_0, w0_1, (iI a0.Id)])] w (RT (laws_toEntry.Q w F) r) := by
 obtain ⟨s0, rfl, kp0, z⟩ := Xn w F
 refine Xf (args := [(.agg #[(iI a0.Key.Kind), (iI a0.Key.N), w0_0, w0_1, (iI a0.Id)])]) func87 ntmps87 rfl rfl m ?_
 unfold laws_toEntry.f
 refine sr (bx' (cs := [(iI a0.Key.Kind), (iI a0.Key.N), w0_0, w0_1, (iI a0.Id)]) 40 rfl rfl (fun b2 s2 p2 B2 => ?_))
 refine al' (cs := [(iI 0), (iI 0), (.float .f64 0), (.slice none 0 0), (iI 0)]) 41 rfl o48 rfl (fun b4 s4 p4 B4 => ?_)
 refine dn (sr (al' (cs := [(iI 0), (iI 0), (.float .f64 0), (.slice none 0 0), (iI 0)]) 42 rfl o48 rfl (fun b6 s6 p6 B6 => ?_)))
 refine dn (sr (Xs fa121_0 rfl ?_))
 have A8 := B2.st (Xo p4 p6) rfl
 refine Yl (es := [(iI a0.Key.Kind), (iI a0.Key.N), w0_0, w0_1]) A8 u28 z28 rfl ?_
 have K9 := kp0.st (Ye p2 p4 p6) rfl
 refine cl' rfl func8 rfl (laws_toItem.calls a0.Key s6.w (mm [0] s6) w0_0 w0_1 ((Xk (s := s6) (Yj h0_0)).sub (D := [0]) rfl) ((z.rd h0_1).kp K9)) ?_
 rintro r11 _ w11 m11 ⟨v11_0, v11_1, rfl, f11_0, ky11⟩
 obtain ⟨s12, rfl, p12, n12⟩ := nwx s6 w11 43 ky11
 obtain ⟨hu11_0_0, Au11_0_1⟩ := ap37 (f11_0.c n12)
 refine Xs fa48_0 rfl (Yk (vs := [(iI r11.Kind), (iI r11.N), v11_0, v11_1]) (B6.st p12 rfl) z37 rfl (Xd rfl (Xd rfl (Xd (FL.one hu11_0_0) (Xd Au11_0_1.rd.one Xt)))) rfl (fun s15 p15 B15 => ?_))
 refine dn (sr (Xs fa121_1 rfl ?_))
 refine Yb (A8.st (Xo p12 p15) rfl) u3 rfl (Xs fa48_1 rfl (sv' B15 z3 rfl rfl rfl (fun s18 p18 B18 => ?_)))
 refine dn (sr (Yl (es := [(iI r11.Kind), (iI r11.N), v11_0, v11_1, (iI a0.Id)]) B18 u48 z48 rfl ?_))
 have A21 := Au11_0_1.st (Xo p15 p18) rfl
 refine Yk (vs := [(iI r11.Kind), (iI r11.N), v11_0, v11_1, (iI a0.Id)]) (B4.st (Yf p6 p12 p15 p18) rfl) z48 rfl (Xd rfl (Xd rfl (Xd (FL.one hu11_0_0) (Xd A21.rd.one (Xd rfl Xt))))) rfl (fun s22 p22 B22 => ?_)
 refine dn ?_
 have A24 : OwF kd48 s22 [(iI r11.Kind), (iI r11.N), v11_0, v11_1, (iI a0.Id)] (Entry.mk r11 a0.Id) 43 := (Xz (fun x : Entry => (x.Key, x.Id)) (Entry.mk r11 a0.Id) (ow_r (Xz (fun x : Item => (x.Kind, x.N, x.F, x.T)) r11 (ow_l (Yc .i64 r11.Kind) (ow_l (Yc .i64 r11.N) (ow_l (fz_flt hu11_0_0) (A21.st p22 rfl))))) (Yc .i64 a0.Id)))
 have K27 := K9.st (Yf p12 p15 p18 p22) rfl
 exact re rfl func87 rfl (r_b B22 u48 rfl z48 rfl Xg) rfl ⟨_, rfl, v11_0, v11_1, rfl, A24.fo K27 rfl z.l, z.ky K27⟩
def laws_toEntryS.b0 (a0 : (List Entry)) (x4 : (List Entry) × Int) : Option (((List Entry) × Int) ⊕ (List Entry)) :=
 (if (decide (x4.2 < (a0.length : Int))) = true then (if 0 ≤ x4.2 ∧ x4.2 < (a0.length : Int) then ((laws_toEntry.f (Entry.mk ((at_ a0 x4.2).Key) ((at_ a0 x4.2).Id))).bind fun r13 => (if 0 ≤ x4.2 ∧ x4.2 < (x4.1.length : Int) then (some (Sum.inl ((x4.1.set (x4.2).toNat r13), (IntKind.wrap .i64 (x4.2 + (1 : Int)))))) else none)) else none) else ((some x4.1).bind fun o => some (Sum.inr o)))
def laws_toEntryS.f (a0 : (List Entry)) : Option ((List Entry)) :=
 (if 0 ≤ (a0.length : Int) ∧ (a0.length : Int) ≤ (Lim : Int) then (iter (laws_toEntryS.b0 a0) ((List.replicate ((a0.length : Int)).toNat (Entry.mk (Item.mk (0 : Int) (0 : Int) (0 : Nat) ([] : (List Int))) (0 : Int))), (0 : Int))) else none)
def laws_toEntryS.Q (w : World) (F : Nat → Prop) (r : (List Entry)) (v : Value) (w' : World) : Prop :=
 FO Yn w w' [v] r ∧ Ky [] w w'
theorem laws_toEntryS.calls (a0 : (List Entry)) (w : World) (F : Nat → Prop) (w0_0 : Value) (h0_0 : (Kd.sl 121 kd121).rd w [w0_0] a0 F) (r : (List Entry)) (m : laws_toEntryS.f a0 = some r) :
  Calls prog 68 #[w0_0] w (RT (laws_toEntryS.Q w F) r) := by
 obtain ⟨s0, rfl, kp0, z⟩ := Xn w F
 have A0_0 := z.rd h0_0
 refine Xf (args := [w0_0]) func68 ntmps68 rfl rfl m ?_
 unfold laws_toEntryS.f
 refine sr (Xb rfl (dn (sr (Xw w0_0 rfl (ln' A0_0 u73 rfl (mk (x0 := (Entry.mk (Item.mk (0 : Int) (0 : Int) (0 : Nat) ([] : (List Int))) (0 : Int))) (K := kd48) 40 sl52 o48 (fun _ => ⟨_, _, [], [], rfl, rfl, ⟨_, _, [], [], rfl, rfl, ⟨rfl, rfl⟩, ⟨_, _, [], [], rfl, rfl, ⟨rfl, rfl⟩, ⟨_, _, [], [], rfl, rfl, ⟨⟨_, rfl, fl_c rfl⟩, rfl⟩, ⟨_, rfl, [], [], [], rfl, ⟨by simp, .inl ⟨rfl, rfl, rfl⟩⟩, ⟨rfl, rfl⟩⟩⟩⟩⟩, ⟨rfl, rfl⟩⟩) rfl rfl rfl rfl rfl rfl rfl (fun v2 s2 p2 A2 => ?_)))))))
 refine asg' v2 rfl (dn (sq (sr (Xb rfl (dn (bl ?_))))))
 refine lpI (fun (x4 : (List Entry) × Int) e w => ∃ (s : St) (e0 : Env), w = s.w ∧ e = upd (upd (upd e0 0 w0_0) 3 v2) 4 (iI x4.2) ∧ Kp s0 s ∧ OwF Yn s [v2] x4.1 40) ⟨s2, _, rfl, (ue (ue (ue rfl rfl) rfl) rfl), (kp0.st p2 rfl), A2⟩ (fun g4 ih4 => ?_)
 rintro x4 _ _ ⟨s6, _, rfl, rfl, Kx4, Ax4_0⟩
 unfold laws_toEntryS.b0
 refine sq (sr (Xb rfl (Xw w0_0 rfl ?_)))
 have A8 := A0_0.kp Kx4
 refine ln' A8 u73 rfl (Xb rfl (dn (cd rfl (fun h9 => ?_) (fun h9 => ?_))))
 ·
  refine sk (sq (bl (rg (Xw v2 rfl (Xb rfl (Xw w0_0 rfl (Xb rfl (ix' A8 u73 z121 rfl (fun ad10 es10 h0_10 h1_10 he10 ce10 ia10 => ?_)))))))))
  obtain ⟨v10_0, v10_1, rfl, A10_0, A10_1⟩ := op121 he10
  refine lca ce10 u121 z121 rfl rfl rfl rfl rfl rfl rfl (cl' rfl func87 rfl (laws_toEntry.calls (Entry.mk ((at_ a0 x4.2).Key) ((at_ a0 x4.2).Id)) s6.w (mm [0] s6) v10_0 v10_1 ((Xk (s := s6) A10_0).sub (D := [0]) rfl) A10_1) ?_)
  rintro r13 _ w13 m13 ⟨v13_0, v13_1, rfl, f13_0, ky13⟩
  obtain ⟨s14, rfl, p14, n14⟩ := nwx s6 w13 41 ky13
  obtain ⟨hu13_0_0, Au13_0_1⟩ := ap48 (f13_0.c n14)
  have A16 := Ax4_0.st p14 rfl
  refine ix' A16.rd u52 z48 rfl (fun ad17 es17 h0_17 h1_17 he17 ce17 ia17 => ?_)
  obtain ⟨v17_0, v17_1, rfl, A17_0, A17_1⟩ := op48 he17
  have A20 : OwF kd48 s14 [(iI r13.Key.Kind), (iI r13.Key.N), v13_0, v13_1, (iI r13.Id)] r13 41 := (Xz (fun x : Entry => (x.Key, x.Id)) r13 (ow_r (Xz (fun x : Item => (x.Kind, x.N, x.F, x.T)) r13.Key (ow_l (Yc .i64 r13.Key.Kind) (ow_l (Yc .i64 r13.Key.N) (ow_l (fz_flt hu13_0_0) Au13_0_1)))) (Yc .i64 r13.Id)))
  refine som (x' := r13) A16 ia17 h0_17 h1_17 A20 rfl rfl z48 rfl rfl rfl rfl rfl rfl (fun s22 p22 A22 => ?_)
  refine dn (ib (rg (Xb rfl (Xb rfl (Xb rfl (dn ?_))))))
  exact lb ih4 ⟨s22, _, rfl, (ue (ue (ue rfl rfl) rfl) rfl), (Kx4.st (Xo p14 p22) rfl), A22⟩
 exact xt rfl (sgb (sr (Xw v2 rfl (asg' v2 rfl (dn (re rfl func68 rfl (Xv rfl Xg) rfl ⟨_, rfl, Ax4_0.fo Kx4 rfl z.l, z.ky Kx4⟩))))))
def laws_toIntS.b0 (a0 : (List Int)) (x4 : (List Int) × Int) : Option (((List Int) × Int) ⊕ (List Int)) :=
 (if (decide (x4.2 < (a0.length : Int))) = true then (if 0 ≤ x4.2 ∧ x4.2 < (a0.length : Int) then (if 0 ≤ x4.2 ∧ x4.2 < (x4.1.length : Int) then (some (Sum.inl ((x4.1.set (x4.2).toNat (at_ a0 x4.2)), (IntKind.wrap .i64 (x4.2 + (1 : Int)))))) else none) else none) else ((some x4.1).bind fun o => some (Sum.inr o)))
def laws_toIntS.f (a0 : (List Int)) : Option ((List Int)) :=
 (if 0 ≤ (a0.length : Int) ∧ (a0.length : Int) ≤ (Lim : Int) then (iter (laws_toIntS.b0 a0) ((List.replicate ((a0.length : Int)).toNat (0 : Int)), (0 : Int))) else none)
def laws_toIntS.Q (w : World) (F : Nat → Prop) (r : (List Int)) (v : Value) (w' : World) : Prop :=
 FO Yo w w' [v] r ∧ Ky [] w w'
theorem laws_toIntS.calls (a0 : (List Int)) (w : World) (F : Nat → Prop) (w0_0 : Value) (h0_0 : Yo.rd w [w0_0] a0 F) (r : (List Int)) (m : laws_toIntS.f a0 = some r) :
  Calls prog 69 #[w0_0] w (RT (laws_toIntS.Q w F) r) := by
 obtain ⟨s0, rfl, kp0, z⟩ := Xn w F
 have A0_0 := z.rd h0_0
 refine Xf (args := [w0_0]) func69 ntmps69 rfl rfl m ?_
 unfold laws_toIntS.f
 refine sr (Xb rfl (dn (sr (Xw w0_0 rfl (ln' A0_0 u59 rfl (mk (x0 := (0 : Int)) (K := (Kd.int .i64)) 40 sl59 o3 (fun _ => ⟨rfl, rfl⟩) rfl rfl rfl rfl rfl rfl rfl (fun v2 s2 p2 A2 => ?_)))))))
 refine asg' v2 rfl (dn (sq (sr (Xb rfl (dn (bl ?_))))))
 refine lpI (fun (x4 : (List Int) × Int) e w => ∃ (s : St) (e0 : Env), w = s.w ∧ e = upd (upd (upd e0 0 w0_0) 3 v2) 4 (iI x4.2) ∧ Kp s0 s ∧ OwF Yo s [v2] x4.1 40) ⟨s2, _, rfl, (ue (ue (ue rfl rfl) rfl) rfl), (kp0.st p2 rfl), A2⟩ (fun g4 ih4 => ?_)
 rintro x4 _ _ ⟨s6, _, rfl, rfl, Kx4, Ax4_0⟩
 unfold laws_toIntS.b0
 refine sq (sr (Xb rfl (Xw w0_0 rfl ?_)))
 have A8 := A0_0.kp Kx4
 refine ln' A8 u59 rfl (Xb rfl (dn (cd rfl (fun h9 => ?_) (fun h9 => ?_))))
 ·
  refine sk (sq (bl (rg (Xw v2 rfl (Xb rfl (Xw w0_0 rfl (Xb rfl (ix' A8 u59 z3 rfl (fun ad10 es10 h0_10 h1_10 he10 ce10 ia10 => ?_)))))))))
  obtain rfl := he10
  refine lc0 ce10 u3 rfl rfl rfl rfl rfl rfl rfl rfl (ix' Ax4_0.rd u59 z3 rfl (fun ad12 es12 h0_12 h1_12 he12 ce12 ia12 => ?_))
  obtain rfl := he12
  refine so (x' := (at_ a0 x4.2)) Ax4_0 ia12 h0_12 h1_12 cs_flat z3 rfl rfl rfl rfl rfl rfl (fun s14 p14 A14 => ?_)
  refine dn (ib (rg (Xb rfl (Xb rfl (Xb rfl (dn ?_))))))
  exact lb ih4 ⟨s14, _, rfl, (ue (ue (ue rfl rfl) rfl) rfl), (Kx4.st p14 rfl), A14⟩
 exact xt rfl (sgb (sr (Xw v2 rfl (asg' v2 rfl (dn (re rfl func69 rfl (Xv rfl Xg) rfl ⟨_, rfl, Ax4_0.fo Kx4 rfl z.l, z.ky Kx4⟩))))))
def laws_toNode.f (a0 : Node) : Option (Node) :=
 ((laws_toEntryS.f a0.Entries).bind fun r15 => ((laws_toIntS.f a0.Kids).bind fun r24 => (some (Node.mk a0.Leaf r15 r24))))
def laws_toNode.Q (w : World) (F : Nat → Prop) (r : Node) (v : Value) (w' : World) : Prop :=
 ∃ (v0 : Value) (v1 : Value), v = (.agg #[(.bool r.Leaf), v0, v1]) ∧ FO kd61 w w' [(.bool r.Leaf), v0, v1] r ∧ Ky [] w w'
theorem laws_toNode.calls (a0 : Node) (w : World) (F : Nat → Prop) (w0_0 : Value) (w0_1 : Value) (h0_0 : (Kd.sl 121 kd121).rd w [w0_0] a0.Entries F) (h0_1 : Yo.rd w [w0_1] a0.Kids F) (r : Node) (m : laws_toNode.f a0 = some r) :
  Calls prog 45 #[(.agg #[(.bool a0.Leaf), w0_0, w0_1])] w (RT (laws_toNode.Q w F) r) := by
 obtain ⟨s0, rfl, kp0, z⟩ := Xn w F
 refine Xf (args := [(.agg #[(.bool a0.Leaf), w0_0, w0_1])]) func45 ntmps45 rfl rfl m ?_
 unfold laws_toNode.f
 refine sr (bx' (cs := [(.bool a0.Leaf), w0_0, w0_1]) 40 rfl rfl (fun b3 s3 p3 B3 => ?_))
 refine al' (cs := [(.bool false), (.slice none 0 0), (.slice none 0 0)]) 41 rfl o61 rfl (fun b5 s5 p5 B5 => ?_)
 refine dn (sr (al' (cs := [(.bool false), (.slice none 0 0), (.slice none 0 0)]) 42 rfl o61 rfl (fun b7 s7 p7 B7 => ?_)))
 refine dn (sr (Xs fa75_0 rfl ?_))
 have A9 := B3.st (Xo p5 p7) rfl
 refine Yb A9 u4 rfl (Xs fa61_0 rfl (sv' B7 z4 rfl rfl rfl (fun s10 p10 B10 => ?_)))
 refine dn (sr (Xs fa75_1 rfl ?_))
 have A12 := A9.st p10 rfl
 refine Yb A12 u73 rfl ?_
 have K13 := kp0.st (Yf p3 p5 p7 p10) rfl
 refine clO 43 rfl func68 rfl (laws_toEntryS.calls a0.Entries s10.w (mm [0] s10) w0_0 ((z.rd h0_0).kp K13)) (fun r15 v15_0 s16 p16 A15_0 => ?_)
 refine Xs fa61_1 rfl (sv' (B10.st p16 rfl) z52 rfl A15_0.rd.one rfl (fun s19 p19 B19 => ?_))
 refine dn (sr (Xs fa75_2 rfl ?_))
 refine Yb (A12.st (Xo p16 p19) rfl) u59 rfl ?_
 have K22 := K13.st (Xo p16 p19) rfl
 refine clO 44 rfl func69 rfl (laws_toIntS.calls a0.Kids s19.w (mm [0] s19) w0_1 ((z.rd h0_1).kp K22)) (fun r24 v24_0 s25 p25 A24_0 => ?_)
 refine Xs fa61_2 rfl (sv' (B19.st p25 rfl) z59 rfl A24_0.rd.one rfl (fun s28 p28 B28 => ?_))
 refine dn (sr (Yl (es := [(.bool a0.Leaf), v15_0, v24_0]) B28 u61 z61 rfl ?_))
 have A31 := A24_0.st p28 rfl
 have A32 := A15_0.st (Ye p19 p25 p28) rfl
 refine Yk (vs := [(.bool a0.Leaf), v15_0, v24_0]) (B5.st (tr6 p7 p10 p16 p19 p25 p28) rfl) z61 rfl (Xd rfl (Xd A32.rd.one (Xd A31.rd.one Xt))) rfl (fun s33 p33 B33 => ?_)
 refine dn ?_
 obtain ⟨s37, hw37, p37, A37⟩ := ow_2 (A32.st p33 rfl) (A31.st p33 rfl) rfl rfl
 rw [hw37]
 have A39 : OwF kd61 s37 [(.bool a0.Leaf), v15_0, v24_0] (Node.mk a0.Leaf r15 r24) 43 := (Xz (fun x : Node => (x.Leaf, x.Entries, x.Kids)) (Node.mk a0.Leaf r15 r24) (ow_l (fz_bool a0.Leaf) A37))
 have K42 := K22.st (Yf p25 p28 p33 p37) rfl
 exact re rfl func45 rfl (r_b (B33.st p37 rfl) u61 rfl z61 rfl Xg) rfl ⟨_, rfl, v15_0, v24_0, rfl, A39.fo K42 rfl z.l, z.ky K42⟩
def laws_toNodeS.b0 (a0 : (List Node)) (x4 : (List Node) × Int) : Option (((List Node) × Int) ⊕ (List Node)) :=
 (if (decide (x4.2 < (a0.length : Int))) = true then (if 0 ≤ x4.2 ∧ x4.2 < (a0.length : Int) then ((laws_toNode.f (at_ a0 x4.2)).bind fun r14 => (if 0 ≤ x4.2 ∧ x4.2 < (x4.1.length : Int) then (some (Sum.inl ((x4.1.set (x4.2).toNat r14), (IntKind.wrap .i64 (x4.2 + (1 : Int)))))) else none)) else none) else ((some x4.1).bind fun o => some (Sum.inr o)))
def laws_toNodeS.f (a0 : (List Node)) : Option ((List Node)) :=
 (if 0 ≤ (a0.length : Int) ∧ (a0.length : Int) ≤ (Lim : Int) then (iter (laws_toNodeS.b0 a0) ((List.replicate ((a0.length : Int)).toNat (Node.mk false ([] : (List Entry)) ([] : (List Int)))), (0 : Int))) else none)
def laws_toNodeS.Q (w : World) (F : Nat → Prop) (r : (List Node)) (v : Value) (w' : World) : Prop :=
 FO Yp w w' [v] r ∧ Ky [] w w'
theorem laws_toNodeS.calls (a0 : (List Node)) (w : World) (F : Nat → Prop) (w0_0 : Value) (h0_0 : (Kd.sl 75 kd75).rd w [w0_0] a0 F) (r : (List Node)) (m : laws_toNodeS.f a0 = some r) :
  Calls prog 25 #[w0_0] w (RT (laws_toNodeS.Q w F) r) := by
 obtain ⟨s0, rfl, kp0, z⟩ := Xn w F
 have A0_0 := z.rd h0_0
 refine Xf (args := [w0_0]) func25 ntmps25 rfl rfl m ?_
 unfold laws_toNodeS.f
 refine sr (Xb rfl (dn (sr (Xw w0_0 rfl (ln' A0_0 u22 rfl (mk (x0 := (Node.mk false ([] : (List Entry)) ([] : (List Int)))) (K := kd61) 40 sl31 o61 (fun _ => ⟨_, _, [], [], rfl, rfl, ⟨rfl, rfl⟩, ⟨_, _, [], [], rfl, rfl, ⟨_, rfl, [], [], [], rfl, ⟨by simp, .inl ⟨rfl, rfl, rfl⟩⟩, ⟨rfl, rfl⟩⟩, ⟨_, rfl, [], [], [], rfl, ⟨by simp, .inl ⟨rfl, rfl, rfl⟩⟩, ⟨rfl, rfl⟩⟩⟩⟩) rfl rfl rfl rfl rfl rfl rfl (fun v2 s2 p2 A2 => ?_)))))))
 refine asg' v2 rfl (dn (sq (sr (Xb rfl (dn (bl ?_))))))
 refine lpI (fun (x4 : (List Node) × Int) e w => ∃ (s : St) (e0 : Env), w = s.w ∧ e = upd (upd (upd e0 0 w0_0) 3 v2) 4 (iI x4.2) ∧ Kp s0 s ∧ OwF Yp s [v2] x4.1 40) ⟨s2, _, rfl, (ue (ue (ue rfl rfl) rfl) rfl), (kp0.st p2 rfl), A2⟩ (fun g4 ih4 => ?_)
 rintro x4 _ _ ⟨s6, _, rfl, rfl, Kx4, Ax4_0⟩
 unfold laws_toNodeS.b0
 refine sq (sr (Xb rfl (Xw w0_0 rfl ?_)))
 have A8 := A0_0.kp Kx4
 refine ln' A8 u22 rfl (Xb rfl (dn (cd rfl (fun h9 => ?_) (fun h9 => ?_))))
 ·
  refine sk (sq (bl (rg (Xw v2 rfl (Xb rfl (Xw w0_0 rfl (Xb rfl (ix' A8 u22 z75 rfl (fun ad10 es10 h0_10 h1_10 he10 ce10 ia10 => ?_)))))))))
  obtain ⟨v10_0, v10_1, rfl, A10_0, A10_1⟩ := op75 he10
  refine lca ce10 u75 z75 rfl rfl rfl rfl rfl rfl rfl (cl' rfl func45 rfl (laws_toNode.calls (at_ a0 x4.2) s6.w (mm [0] s6) v10_0 v10_1 A10_0 A10_1) ?_)
  rintro r14 _ w14 m14 ⟨v14_0, v14_1, rfl, f14_0, ky14⟩
  obtain ⟨s15, rfl, p15, n15⟩ := nwx s6 w14 41 ky14
  obtain ⟨s16, hw16, p16, Au14_0_0, Au14_0_1⟩ := ap61 42 (f14_0.c n15) rfl
  rw [hw16]
  have A19 := Ax4_0.st (Xo p15 p16) rfl
  refine ix' A19.rd u31 z61 rfl (fun ad20 es20 h0_20 h1_20 he20 ce20 ia20 => ?_)
  obtain ⟨v20_0, v20_1, rfl, A20_0, A20_1⟩ := op61 he20
  obtain ⟨s24, hw24, p24, A24⟩ := ow_2 Au14_0_0 Au14_0_1 rfl rfl
  rw [hw24]
  have A26 : OwF kd61 s24 [(.bool r14.Leaf), v14_0, v14_1] r14 41 := (Xz (fun x : Node => (x.Leaf, x.Entries, x.Kids)) r14 (ow_l (fz_bool r14.Leaf) A24))
  refine som (x' := r14) (A19.st p24 rfl) ia20 h0_20 h1_20 A26 rfl rfl z61 rfl rfl rfl rfl rfl rfl (fun s29 p29 A29 => ?_)
  refine dn (ib (rg (Xb rfl (Xb rfl (Xb rfl (dn ?_))))))
  exact lb ih4 ⟨s29, _, rfl, (ue (ue (ue rfl rfl) rfl) rfl), (Kx4.st (Yf p15 p16 p24 p29) rfl), A29⟩
 exact xt rfl (sgb (sr (Xw v2 rfl (asg' v2 rfl (dn (re rfl func25 rfl (Xv rfl Xg) rfl ⟨_, rfl, Ax4_0.fo Kx4 rfl z.l, z.ky Kx4⟩))))))
def laws_toTree.f (a0 : Tree) : Option (Tree) :=
 ((laws_toNodeS.f a0.Nodes).bind fun r11 => (some (Tree.mk r11 a0.Root)))
def laws_toTree.Q (w : World) (F : Nat → Prop) (r : Tree) (v : Value) (w' : World) : Prop :=
 ∃ (v0 : Value), v = (.agg #[v0, (iI r.Root)]) ∧ FO kd33 w w' [v0, (iI r.Root)] r ∧ Ky [] w w'
theorem laws_toTree.calls (a0 : Tree) (w : World) (F : Nat → Prop) (w0_0 : Value) (h0_0 : (Kd.sl 75 kd75).rd w [w0_0] a0.Nodes F) (r : Tree) (m : laws_toTree.f a0 = some r) :
  Calls prog 7 #[(.agg #[w0_0, (iI a0.Root)])] w (RT (laws_toTree.Q w F) r) := by
 obtain ⟨s0, rfl, kp0, z⟩ := Xn w F
 refine Xf (args := [(.agg #[w0_0, (iI a0.Root)])]) func7 ntmps7 rfl rfl m ?_
 unfold laws_toTree.f
 refine sr (bx' (cs := [w0_0, (iI a0.Root)]) 40 rfl rfl (fun b2 s2 p2 B2 => ?_))
 refine al' (cs := [(.slice none 0 0), (iI 0)]) 41 rfl o33 rfl (fun b4 s4 p4 B4 => ?_)
 refine dn (sr (al' (cs := [(.slice none 0 0), (iI 0)]) 42 rfl o33 rfl (fun b6 s6 p6 B6 => ?_)))
 refine dn (sr (Xs fa24_0 rfl ?_))
 have A8 := B2.st (Xo p4 p6) rfl
 refine Yb A8 u22 rfl ?_
 have K9 := kp0.st (Ye p2 p4 p6) rfl
 refine clO 43 rfl func25 rfl (laws_toNodeS.calls a0.Nodes s6.w (mm [0] s6) w0_0 ((z.rd h0_0).kp K9)) (fun r11 v11_0 s12 p12 A11_0 => ?_)
 refine Xs fa33_0 rfl (sv' (B6.st p12 rfl) z31 rfl A11_0.rd.one rfl (fun s15 p15 B15 => ?_))
 refine dn (sr (Xs fa24_1 rfl ?_))
 refine Yb (A8.st (Xo p12 p15) rfl) u3 rfl (Xs fa33_1 rfl (sv' B15 z3 rfl rfl rfl (fun s18 p18 B18 => ?_)))
 refine dn (sr (Yl (es := [v11_0, (iI a0.Root)]) B18 u33 z33 rfl ?_))
 have A21 := A11_0.st (Xo p15 p18) rfl
 refine Yk (vs := [v11_0, (iI a0.Root)]) (B4.st (Yf p6 p12 p15 p18) rfl) z33 rfl (Xd A21.rd.one (Xd rfl Xt)) rfl (fun s22 p22 B22 => ?_)
 refine dn ?_
 have A24 : OwF kd33 s22 [v11_0, (iI a0.Root)] (Tree.mk r11 a0.Root) 43 := (Xz (fun x : Tree => (x.Nodes, x.Root)) (Tree.mk r11 a0.Root) (ow_r (A21.st p22 rfl) (Yc .i64 a0.Root)))
 have K27 := K9.st (Yf p12 p15 p18 p22) rfl
 exact re rfl func7 rfl (r_b B22 u33 rfl z33 rfl Xg) rfl ⟨_, rfl, v11_0, rfl, A24.fo K27 rfl z.l, z.ky K27⟩
def spec_l3copy.f (a0 : Item) : Option (Item) :=
 (if ([] : (List Int)).length + a0.T.length ≤ Lim then (some (Item.mk a0.Kind a0.N a0.F (([] : (List Int)) ++ a0.T))) else none)
def spec_l3copy.Q (w : World) (F : Nat → Prop) (r : Item) (v : Value) (w' : World) : Prop :=
 ∃ (v0 : Value) (v1 : Value), v = (.agg #[(iI r.Kind), (iI r.N), v0, v1]) ∧ FO kd37 w w' [(iI r.Kind), (iI r.N), v0, v1] r ∧ Ky [] w w'
theorem spec_l3copy.calls (a0 : Item) (w : World) (F : Nat → Prop) (w0_0 : Value) (w0_1 : Value) (h0_0 : Kd.flt.rd w [w0_0] a0.F F) (h0_1 : Ym.rd w [w0_1] a0.T F) (r : Item) (m : spec_l3copy.f a0 = some r) :
  Calls prog 17 #[(.agg #[(iI a0.Kind), (iI a0.N), w0_0, w0_1])] w (RT (spec_l3copy.Q w F) r) := by
 obtain ⟨s0, rfl, kp0, z⟩ := Xn w F
 have A0_0 := Yj h0_0
 refine Xf (args := [(.agg #[(iI a0.Kind), (iI a0.N), w0_0, w0_1])]) func17 ntmps17 rfl rfl m ?_
 unfold spec_l3copy.f
 refine sr (bx' (cs := [(iI a0.Kind), (iI a0.N), w0_0, w0_1]) 40 rfl rfl (fun b2 s2 p2 B2 => ?_))
 refine al' (cs := [(iI 0), (iI 0), (.float .f64 0), (.slice none 0 0)]) 41 rfl o37 rfl (fun b4 s4 p4 B4 => ?_)
 refine dn (sr (lt0 (K := (Kd.int .u8)) 42 u26 z5 rfl rfl rfl rfl rfl (fun v6 s6 p6 A6 => ?_)))
 refine Xs fa37_3 rfl ?_
 have A8 := B2.st (Xo p4 p6) rfl
 refine Yb A8 u26 rfl ?_
 have K9 := kp0.st (Ye p2 p4 p6) rfl
 refine apF Yd sl26 A6 ((z.rd h0_1).kp K9) rfl rfl rfl rfl rfl rfl rfl (fun v11 s11 p11 A11 => ?_)
 refine Xs fa37_3 rfl (sv' (A8.st p11 rfl) z26 rfl A11.rd.one rfl (fun s14 p14 B14 => ?_))
 refine dn (sr (Yl (es := [(iI a0.Kind), (iI a0.N), w0_0, v11]) B14 u37 z37 rfl ?_))
 have A17 := A11.st p14 rfl
 refine Yk (vs := [(iI a0.Kind), (iI a0.N), w0_0, v11]) (B4.st (Ye p6 p11 p14) rfl) z37 rfl (Xd rfl (Xd rfl (Xd (FL.one A0_0) (Xd A17.rd.one Xt)))) rfl (fun s18 p18 B18 => ?_)
 refine dn ?_
 have A20 : OwF kd37 s18 [(iI a0.Kind), (iI a0.N), w0_0, v11] (Item.mk a0.Kind a0.N a0.F (([] : (List Int)) ++ a0.T)) 42 := (Xz (fun x : Item => (x.Kind, x.N, x.F, x.T)) (Item.mk a0.Kind a0.N a0.F (([] : (List Int)) ++ a0.T)) (ow_l (Yc .i64 a0.Kind) (ow_l (Yc .i64 a0.N) (ow_l (fz_flt A0_0) (A17.st p18 rfl)))))
 have K23 := K9.st (Ye p11 p14 p18) rfl
 exact re rfl func17 rfl (r_b B18 u37 rfl z37 rfl Xg) rfl ⟨_, rfl, w0_0, v11, rfl, A20.fo K23 rfl z.l, z.ky K23⟩
def spec_FloatBits.b1 (y8 : Int × Nat) (x19 : Nat × Int) : Option ((Nat × Int) ⊕ Int) :=
 (if ((fcmp .f64 x19.1 (4607182418800017408 : Nat) == some .lt) && (decide (x19.2 > (-1022 : Int)))) = true then (some (Sum.inl ((far .mul x19.1 (4611686018427387904 : Nat)), (IntKind.wrap .i64 (x19.2 - (1 : Int)))))) else ((if (fcmp .f64 x19.1 (4607182418800017408 : Nat) == some .lt) = true then ((floatToIntVal .f64 (far .mul x19.1 (4841369599423283200 : Nat)) .u64).bind fun r27 => (some (ior .u64 y8.1 r27))) else ((floatToIntVal .f64 (far .mul (far .sub x19.1 (4607182418800017408 : Nat)) (4841369599423283200 : Nat)) .u64).bind fun r31 => (some (ior .u64 (ior .u64 y8.1 (ishl .u64 (IntKind.wrap .u64 (IntKind.wrap .i64 (x19.2 + (1023 : Int)))) (52 : Int))) r31)))).bind fun o => some (Sum.inr o)))
def spec_FloatBits.b0 (y8 : Int × Nat) (x14 : Nat × Int) : Option ((Nat × Int) ⊕ Int) :=
 (if (fcmp .f64 x14.1 (4611686018427387904 : Nat) == some .gt || fcmp .f64 x14.1 (4611686018427387904 : Nat) == some .eq) = true then (some (Sum.inl ((far .quo x14.1 (4611686018427387904 : Nat)), (IntKind.wrap .i64 (x14.2 + (1 : Int)))))) else ((iter (spec_FloatBits.b1 y8) (x14.1, x14.2)).bind fun o => some (Sum.inr o)))
def spec_FloatBits.f (a0 : Nat) : Option (Int) :=
 (if (fcmp .f64 a0 a0 != some .eq) = true then (some (9221120237041090560 : Int)) else ((if (fcmp .f64 a0 (0 : Nat) == some .lt) = true then (some true) else ((if (fcmp .f64 a0 (0 : Nat) == some .eq) = true then (some (fcmp .f64 (far .quo (4607182418800017408 : Nat) a0) (0 : Nat) == some .lt)) else (some false)).bind fun y3 => (some y3))).bind fun y2 => ((if y2 = true then (some ((9223372036854775808 : Int), (fneg a0))) else (some ((0 : Int), a0))).bind fun y8 => (if (fcmp .f64 y8.2 (0 : Nat) == some .eq) = true then (some y8.1) else (if (fcmp .f64 y8.2 (9218868437227405311 : Nat) == some .gt) = true then (some (ior .u64 y8.1 (9218868437227405312 : Int))) else (iter (spec_FloatBits.b0 y8) (y8.2, (0 : Int))))))))
def spec_FloatBits.Q (w : World) (F : Nat → Prop) (r : Int) (v : Value) (w' : World) : Prop :=
 v = (.int .u64 r) ∧ Ky [] w w'
theorem spec_FloatBits.calls (a0 : Nat) (w : World) (F : Nat → Prop) (w0_0 : Value) (h0_0 : Kd.flt.rd w [w0_0] a0 F) (r : Int) (m : spec_FloatBits.f a0 = some r) :
  Calls prog 66 #[w0_0] w (RT (spec_FloatBits.Q w F) r) := by
 obtain ⟨s0, rfl, kp0, z⟩ := Xn w F
 have A0_0 := Yj h0_0
 refine Xf (args := [w0_0]) func66 ntmps66 rfl rfl m ?_
 unfold spec_FloatBits.f
 refine sr (Xb rfl (dn (sq (sr (Xw w0_0 rfl (Xw w0_0 rfl (fq_' A0_0 A0_0 rfl (dn (cd rfl (fun h1 => ?_) (fun h1 => ?_))))))))))
 ·
  exact sr (Xb rfl (dn (re rfl func66 rfl (Xv rfl Xg) rfl ⟨_, rfl, rfl, z.ky kp0⟩)))
 refine sk (sr (Xb rfl (dn (sr (Xw w0_0 rfl (asg' w0_0 rfl (dn (sq (sr (Xw w0_0 rfl (fq_' A0_0 (fl_c rfl) rfl (Xb rfl (ji [] (fun (y2 : Bool) e w => ∃ (s : St) (e0 : Env), w = s.w ∧ e = upd (upd (upd (upd e0 0 w0_0) 3 (.int .u64 (0 : Int))) 4 w0_0) 20 (.bool y2) ∧ Kp s0 s) (fun Gj2 Kj2 => ?_) ?_)))))))))))))
 ·
  rcases bft (fcmp .f64 a0 (0 : Nat) == some .lt) with hb2 | hb2
  ·
   refine sbT hb2 ?_
   rw [if_pos hb2]
   exact Xr rfl (Xr rfl (Xr rfl (Xr rfl (Xr rfl (Xr rfl (Xr rfl (Xb rfl (Kj2 _ _ _ ⟨s0, _, rfl, (ue (ue (ue (ue rfl rfl) rfl) rfl) rfl), kp0⟩))))))))
  refine sbT hb2 ?_
  rw [if_neg (by rw [hb2]; decide)]
  refine Xw w0_0 rfl (fq_' A0_0 (fl_c rfl) rfl (Xb rfl (ji [10] (fun (y3 : Bool) e w => ∃ (s : St) (e0 : Env), w = s.w ∧ e = upd (upd (upd (upd (upd e0 0 w0_0) 3 (.int .u64 (0 : Int))) 4 w0_0) 12 (.bool false)) 19 (.bool y3) ∧ Kp s0 s) (fun Gj3 Kj3 => ?_) ?_)))
  ·
   rcases bft (fcmp .f64 a0 (0 : Nat) == some .eq) with hb3 | hb3
   ·
    refine sbT hb3 ?_
    rw [if_pos hb3]
    refine Xw w0_0 rfl (fa_ (fl_c rfl) A0_0 (by simp) rfl rfl rfl rfl rfl rfl rfl (fun v4 s4 p4 A4 => ?_))
    refine fq_' A4 (fl_c rfl) rfl (Xb rfl ?_)
    exact Kj3 _ _ _ ⟨s4, _, rfl, (ue (ue (ue (ue (ue rfl rfl) rfl) rfl) rfl) rfl), (kp0.st p4 rfl)⟩
   refine sbT hb3 ?_
   rw [if_neg (by rw [hb3]; decide)]
   exact Xr rfl (Xr rfl (Xr rfl (Xb rfl (Kj3 _ _ _ ⟨s0, _, rfl, (ue (ue (ue (ue (ue rfl rfl) rfl) rfl) rfl) rfl), kp0⟩))))
  rintro y3 _ _ ⟨s6, _, rfl, rfl, Ky3⟩
  exact Xb rfl (Kj2 _ _ _ ⟨s6, _, rfl, (ue (ue (ue (ue rfl rfl) rfl) rfl) rfl), Ky3⟩)
 rintro y2 _ _ ⟨s7, _, rfl, rfl, Ky2⟩
 refine dn (jc (fun (y8 : Int × Nat) e w => ∃ (s : St) (e0 : Env) (uy8_0 : Value), w = s.w ∧ e = upd (upd e0 3 (.int .u64 y8.1)) 4 uy8_0 ∧ Kp s0 s ∧ FL uy8_0 y8.2) (fun Gj8 Kj8 => ?_) ?_)
 ·
  refine cd rfl (fun h9 => ?_) (fun h9 => ?_)
  ·
   refine sr (Xb rfl (dn (rg (Xw w0_0 rfl (fng_ A0_0 rfl rfl rfl rfl rfl rfl (fun v10 A10 => ?_))))))
   exact asg' v10 rfl (dn (Kj8 _ _ _ ⟨s7, _, v10, rfl, (ue (ue rfl rfl) rfl), Ky2, A10⟩))
  exact sk (Kj8 _ _ _ ⟨s7, _, w0_0, rfl, (ue (ue rfl rfl) rfl), Ky2, A0_0⟩)
 rintro y8 _ _ ⟨s11, _, uy8_0, rfl, rfl, Ky8, Fy8_0⟩
 refine sq (sr (Xw uy8_0 rfl (fq_' Fy8_0 (fl_c rfl) rfl (dn (cd rfl (fun h12 => ?_) (fun h12 => ?_))))))
 ·
  exact sr (Xb rfl (Xb rfl (dn (re rfl func66 rfl (Xv rfl Xg) rfl ⟨_, rfl, rfl, z.ky Ky8⟩))))
 refine sk (sq (sr (Xw uy8_0 rfl (fq_' Fy8_0 (fl_c rfl) rfl (dn (cd rfl (fun h13 => ?_) (fun h13 => ?_)))))))
 ·
  exact sr (Xb rfl (Xb rfl (Xb rfl (dn (re rfl func66 rfl (Xv rfl Xg) rfl ⟨_, rfl, rfl, z.ky Ky8⟩)))))
 refine sk (sr (Xb rfl (dn (sq (bl (lpI (fun (x14 : Nat × Int) e w => ∃ (s : St) (e0 : Env) (ux14_0 : Value), w = s.w ∧ e = upd (upd (upd e0 3 (.int .u64 y8.1)) 4 ux14_0) 5 (iI x14.2) ∧ Kp s0 s ∧ FL ux14_0 x14.1) ⟨s11, _, uy8_0, rfl, (ue (ue (ue rfl rfl) rfl) rfl), Ky8, Fy8_0⟩ (fun g14 ih14 => ?_)))))))
 rintro x14 _ _ ⟨s15, _, ux14_0, rfl, rfl, Kx14, Fx14_0⟩
 unfold spec_FloatBits.b0
 refine sq (sr (Xw ux14_0 rfl (fq_' Fx14_0 (fl_c rfl) rfl (dn (cd rfl (fun h16 => ?_) (fun h16 => ?_))))))
 ·
  refine sk (bl (sr (Xw ux14_0 rfl (fa_ Fx14_0 (fl_c rfl) (by simp) rfl rfl rfl rfl rfl rfl rfl (fun v17 s17 p17 A17 => ?_)))))
  refine asg' v17 rfl (dn (rg (Xb rfl (Xb rfl (Xb rfl (dn (ib ?_)))))))
  exact lb ih14 ⟨s17, _, v17, rfl, (ue (ue (ue rfl rfl) rfl) rfl), (Kx14.st p17 rfl), A17⟩
 refine xt rfl (sgb (sq (bl (lpI (fun (x19 : Nat × Int) e w => ∃ (s : St) (e0 : Env) (ux19_0 : Value), w = s.w ∧ e = upd (upd (upd e0 3 (.int .u64 y8.1)) 4 ux19_0) 5 (iI x19.2) ∧ Kp s0 s ∧ FL ux19_0 x19.1) ⟨s15, _, ux14_0, rfl, (ue (ue (ue rfl rfl) rfl) rfl), Kx14, Fx14_0⟩ (fun g19 ih19 => ?_)))))
 rintro x19 _ _ ⟨s20, _, ux19_0, rfl, rfl, Kx19, Fx19_0⟩
 unfold spec_FloatBits.b1
 refine sq (sr (Xw ux19_0 rfl (fq_' Fx19_0 (fl_c rfl) rfl (Xb rfl (jy [38, 39, 40, 41] [] 41 (.bool ((fcmp .f64 x19.1 (4607182418800017408 : Nat) == some .lt) && (decide (x19.2 > (-1022 : Int))))) rfl (fun Kg21 => ?_) (fun j21 => ?_))))))
 ·
  rcases bft (fcmp .f64 x19.1 (4607182418800017408 : Nat) == some .lt) with hb21 | hb21
  ·
   exact sbT hb21 (Xb rfl (Xb rfl (Xb rfl (Kg21 _ (Ag.put ((Ag.put ((Ag.put (Ag.base rfl) rfl)) rfl)) rfl) (by rw [hb21]; rfl)))))
  exact sbT hb21 (Xr rfl (Xr rfl (Xb rfl (Kg21 _ (Ag.put ((Ag.put ((Ag.put (Ag.base rfl) rfl)) rfl)) rfl) (by rw [hb21]; rfl)))))
 refine dn (cd rfl (fun h22 => ?_) (fun h22 => ?_))
 ·
  refine sk (bl (sr (Xw ux19_0 rfl (fa_ Fx19_0 (fl_c rfl) (by simp) rfl rfl rfl rfl rfl rfl rfl (fun v23 s23 p23 A23 => ?_)))))
  refine asg' v23 rfl (dn (rg (Xb rfl (Xb rfl (Xb rfl (dn (ib ?_)))))))
  exact lb ih19 ⟨s23, _, v23, rfl, (ue (ue (ue rfl rfl) rfl) rfl), (Kx19.st p23 rfl), A23⟩
 refine xt rfl (sgb (sq (sr (Xw ux19_0 rfl (fq_' Fx19_0 (fl_c rfl) rfl (dn (cd rfl (fun h25 => ?_) (fun h25 => ?_))))))))
 ·
  refine sr (Xb rfl (Xw ux19_0 rfl (fa_ Fx19_0 (fl_c rfl) (by simp) rfl rfl rfl rfl rfl rfl rfl (fun v26 s26 p26 A26 => ?_))))
  refine f2i A26 u107 u25 rfl rfl rfl rfl rfl rfl (fun r27 m27 => ?_)
  refine Xb rfl (Xb rfl (dn ?_))
  exact re rfl func66 rfl (Xv rfl Xg) rfl ⟨_, rfl, rfl, z.ky (Kx19.st p26 rfl)⟩
 refine sk (sr (Xb rfl (Xb rfl (Xb rfl (cv u107 u3 rfl rfl rfl rfl rfl rfl (shlK rfl rfl rfl rfl rfl rfl rfl rfl (Xb rfl (Xw ux19_0 rfl (fa_ Fx19_0 (fl_c rfl) (by simp) rfl rfl rfl rfl rfl rfl rfl (fun v29 s29 p29 A29 => ?_))))))))))
 refine fa_ A29 (fl_c rfl) (by simp) rfl rfl rfl rfl rfl rfl rfl (fun v30 s30 p30 A30 => ?_)
 refine f2i A30 u107 u25 rfl rfl rfl rfl rfl rfl (fun r31 m31 => ?_)
 refine Xb rfl (Xb rfl (dn ?_))
 exact re rfl func66 rfl (Xv rfl Xg) rfl ⟨_, rfl, rfl, z.ky (Kx19.st (Xo p29 p30) rfl)⟩
def spec_ItemOk.f (a0 : Item) : Option (Bool) :=
 (if (((decide (a0.Kind < (0 : Int))) || (decide (a0.Kind > (3 : Int)))) || (decide ((a0.T.length : Int) > (40 : Int)))) = true then (some false) else (if ((a0.Kind != (1 : Int)) && (a0.N != (0 : Int))) = true then (some false) else ((if (a0.Kind != (2 : Int)) = true then ((spec_FloatBits.f a0.F).bind fun r14 => (some (r14 != (0 : Int)))) else (some false)).bind fun y13 => (if y13 = true then (some false) else (some ((a0.Kind == (3 : Int)) || ((a0.T.length : Int) == (0 : Int))))))))
def spec_ItemOk.Q (w : World) (F : Nat → Prop) (r : Bool) (v : Value) (w' : World) : Prop :=
 v = (.bool r) ∧ Ky [] w w'
theorem spec_ItemOk.calls (a0 : Item) (w : World) (F : Nat → Prop) (w0_0 : Value) (w0_1 : Value) (h0_0 : Kd.flt.rd w [w0_0] a0.F F) (h0_1 : Ym.rd w [w0_1] a0.T F) (r : Bool) (m : spec_ItemOk.f a0 = some r) :
  Calls prog 65 #[(.agg #[(iI a0.Kind), (iI a0.N), w0_0, w0_1])] w (RT (spec_ItemOk.Q w F) r) := by
 obtain ⟨s0, rfl, kp0, z⟩ := Xn w F
 have A0_1 := z.rd h0_1
 refine Xf (args := [(.agg #[(iI a0.Kind), (iI a0.N), w0_0, w0_1])]) func65 ntmps65 rfl rfl m ?_
 unfold spec_ItemOk.f
 refine sr (bx' (cs := [(iI a0.Kind), (iI a0.N), w0_0, w0_1]) 40 rfl rfl (fun b2 s2 p2 B2 => ?_))
 refine Xb rfl (dn (sq (sr (Xs fa37_0 rfl (Yb B2 u3 rfl (Xb rfl (Xb rfl (jy [6, 7, 8, 9, 10] [8, 9, 10, 11, 12, 13] 10 (.bool ((decide (a0.Kind < (0 : Int))) || (decide (a0.Kind > (3 : Int))))) rfl (fun Kg4 => ?_) (fun j4 => ?_)))))))))
 ·
  rcases bft (decide (a0.Kind < (0 : Int))) with hb4 | hb4
  ·
   exact sbT hb4 (Xr rfl (Xr rfl (Xr rfl (Xb rfl (Kg4 _ (Ag.put ((Ag.put ((Ag.put ((Ag.put (Ag.base rfl) rfl)) rfl)) rfl)) rfl) (by rw [hb4]; rfl))))))
  exact sbT hb4 (Xs fa37_0 rfl (Yb B2 u3 rfl (Xb rfl (Xb rfl (Kg4 _ (Ag.put ((Ag.put ((Ag.put ((Ag.put (Ag.base rfl) rfl)) rfl)) rfl)) rfl) (by rw [hb4]; rfl))))))
 refine Xb rfl (jy [11, 12, 13, 14, 15, 16] [] 16 (.bool (((decide (a0.Kind < (0 : Int))) || (decide (a0.Kind > (3 : Int)))) || (decide ((a0.T.length : Int) > (40 : Int))))) rfl (fun Kg5 => ?_) (fun j5 => ?_))
 ·
  rcases bft ((decide (a0.Kind < (0 : Int))) || (decide (a0.Kind > (3 : Int)))) with hb5 | hb5
  ·
   exact sbT hb5 (Xr rfl (Xr rfl (Xr rfl (Xr rfl (Xb rfl (Kg5 _ (Ag.put ((Ag.put ((Ag.put ((Ag.put ((Ag.put (Ag.base rfl) rfl)) rfl)) rfl)) rfl)) rfl) (by rw [hb5]; rfl)))))))
  refine sbT hb5 (Xs fa37_3 rfl (Yb B2 u26 rfl ?_))
  exact ln' (A0_1.kp (kp0.st p2 rfl)) u26 rfl (Xb rfl (Xb rfl (Kg5 _ (Ag.put ((Ag.put ((Ag.put ((Ag.put ((Ag.put (Ag.base rfl) rfl)) rfl)) rfl)) rfl)) rfl) (by rw [hb5]; rfl))))
 refine dn (cd rfl (fun h8 => ?_) (fun h8 => ?_))
 ·
  refine sr (Xb rfl (dn ?_))
  exact re rfl func65 rfl (Xv rfl Xg) rfl ⟨_, rfl, rfl, z.ky (kp0.st p2 rfl)⟩
 refine sk (sq (sr (Xs fa37_0 rfl (Yb B2 u3 rfl (Xb rfl (Xb rfl (jy [20, 21, 22, 23, 24] [] 24 (.bool ((a0.Kind != (1 : Int)) && (a0.N != (0 : Int)))) rfl (fun Kg10 => ?_) (fun j10 => ?_))))))))
 ·
  rcases bft (a0.Kind != (1 : Int)) with hb10 | hb10
  ·
   exact sbT hb10 (Xs fa37_1 rfl (Yb B2 u3 rfl (Xb rfl (Xb rfl (Kg10 _ (Ag.put ((Ag.put ((Ag.put ((Ag.put (Ag.base rfl) rfl)) rfl)) rfl)) rfl) (by rw [hb10]; rfl))))))
  exact sbT hb10 (Xr rfl (Xr rfl (Xr rfl (Xb rfl (Kg10 _ (Ag.put ((Ag.put ((Ag.put ((Ag.put (Ag.base rfl) rfl)) rfl)) rfl)) rfl) (by rw [hb10]; rfl))))))
 refine dn (cd rfl (fun h11 => ?_) (fun h11 => ?_))
 ·
  refine sr (Xb rfl (dn ?_))
  exact re rfl func65 rfl (Xv rfl Xg) rfl ⟨_, rfl, rfl, z.ky (kp0.st p2 rfl)⟩
 refine sk (sq (sr (Xs fa37_0 rfl (Yb B2 u3 rfl (Xb rfl (Xb rfl (ji [] (fun (y13 : Bool) e w => ∃ (s : St) (e0 : Env), w = s.w ∧ e = upd (upd e0 1 (pB b2)) 33 (.bool y13) ∧ Kp s0 s ∧ BlF s b2 37 [(iI a0.Kind), (iI a0.N), w0_0, w0_1] 40) (fun Gj13 Kj13 => ?_) ?_)))))))
 ·
  rcases bft (a0.Kind != (2 : Int)) with hb13 | hb13
  ·
   refine sbT hb13 ?_
   rw [if_pos hb13]
   refine Xs fa37_2 rfl (Yb B2 u25 rfl (clV 41 rfl func66 rfl (spec_FloatBits.calls a0.F s2.w (mm [] s2) w0_0 (Xk (s := s2) (Yj h0_0))) (fun r14 s15 p15 n15 => ?_)))
   refine Xb rfl (Xb rfl ?_)
   exact Kj13 _ _ _ ⟨s15, _, rfl, (ue (ue rfl rfl) rfl), (kp0.st (Xo p2 p15) rfl), (B2.st p15 rfl)⟩
  refine sbT hb13 ?_
  rw [if_neg (by rw [hb13]; decide)]
  refine Xr rfl (Xr rfl (Xr rfl (Xr rfl (Xb rfl ?_))))
  exact Kj13 _ _ _ ⟨s2, _, rfl, (ue (ue rfl rfl) rfl), (kp0.st p2 rfl), B2⟩
 rintro y13 _ _ ⟨s19, _, rfl, rfl, Ky13, By13_b2⟩
 refine dn (cd rfl (fun h21 => ?_) (fun h21 => ?_))
 ·
  exact sr (Xb rfl (dn (re rfl func65 rfl (Xv rfl Xg) rfl ⟨_, rfl, rfl, z.ky Ky13⟩)))
 refine sk (sr (Xs fa37_0 rfl (Yb By13_b2 u3 rfl (Xb rfl (Xb rfl (jy [37, 38, 39, 40, 41, 42] [9] 42 (.bool ((a0.Kind == (3 : Int)) || ((a0.T.length : Int) == (0 : Int)))) rfl (fun Kg22 => ?_) (fun j22 => ?_)))))))
 ·
  rcases bft (a0.Kind == (3 : Int)) with hb22 | hb22
  ·
   exact sbT hb22 (Xr rfl (Xr rfl (Xr rfl (Xr rfl (Xb rfl (Kg22 _ (Ag.put ((Ag.put ((Ag.put ((Ag.put ((Ag.put (Ag.base rfl) rfl)) rfl)) rfl)) rfl)) rfl) (by rw [hb22]; rfl)))))))
  refine sbT hb22 (Xs fa37_3 rfl (Yb By13_b2 u26 rfl ?_))
  exact ln' (A0_1.kp Ky13) u26 rfl (Xb rfl (Xb rfl (Kg22 _ (Ag.put ((Ag.put ((Ag.put ((Ag.put ((Ag.put (Ag.base rfl) rfl)) rfl)) rfl)) rfl)) rfl) (by rw [hb22]; rfl))))
 exact Xb rfl (dn (re rfl func65 rfl (Xv rfl Xg) rfl ⟨_, rfl, rfl, z.ky Ky13⟩))
def spec_KeyOk.f (a0 : Item) : Option (Bool) :=
 ((spec_ItemOk.f a0).bind fun r6 => ((if (r6 && (a0.Kind != (0 : Int))) = true then ((if (fcmp .f64 a0.F (0 : Nat) == some .eq) = true then ((spec_FloatBits.f a0.F).bind fun r13 => (some (r13 != (0 : Int)))) else (some false)).bind fun y12 => (some (!y12))) else (some false)).bind fun y10 => (some y10)))
def spec_KeyOk.Q (w : World) (F : Nat → Prop) (r : Bool) (v : Value) (w' : World) : Prop :=
 v = (.bool r) ∧ Ky [] w w'
theorem spec_KeyOk.calls (a0 : Item) (w : World) (F : Nat → Prop) (w0_0 : Value) (w0_1 : Value) (h0_0 : Kd.flt.rd w [w0_0] a0.F F) (h0_1 : Ym.rd w [w0_1] a0.T F) (r : Bool) (m : spec_KeyOk.f a0 = some r) :
  Calls prog 40 #[(.agg #[(iI a0.Kind), (iI a0.N), w0_0, w0_1])] w (RT (spec_KeyOk.Q w F) r) := by
 obtain ⟨s0, rfl, kp0, z⟩ := Xn w F
 have A0_0 := Yj h0_0
 refine Xf (args := [(.agg #[(iI a0.Kind), (iI a0.N), w0_0, w0_1])]) func40 ntmps40 rfl rfl m ?_
 unfold spec_KeyOk.f
 refine sr (bx' (cs := [(iI a0.Kind), (iI a0.N), w0_0, w0_1]) 40 rfl rfl (fun b2 s2 p2 B2 => ?_))
 refine Xb rfl (dn (sr (Yl (es := [(iI a0.Kind), (iI a0.N), w0_0, w0_1]) B2 u37 z37 rfl ?_)))
 have K4 := kp0.st p2 rfl
 refine clV 41 rfl func65 rfl (spec_ItemOk.calls a0 s2.w (mm [0] s2) w0_0 w0_1 ((Xk (s := s2) A0_0).sub (D := [0]) rfl) ((z.rd h0_1).kp K4)) (fun r6 s7 p7 n7 => ?_)
 refine Xb rfl (jy [5, 6, 7, 8, 9] [7, 8, 9, 10, 11, 12, 13, 14, 15, 16, 17, 18, 19] 9 (.bool (r6 && (a0.Kind != (0 : Int)))) rfl (fun Kg8 => ?_) (fun j8 => ?_))
 ·
  rcases bft r6 with hb8 | hb8
  ·
   refine sbT hb8 (Xs fa37_0 rfl ?_)
   exact Yb (B2.st p7 rfl) u3 rfl (Xb rfl (Xb rfl (Kg8 _ (Ag.put ((Ag.put ((Ag.put ((Ag.put (Ag.base rfl) rfl)) rfl)) rfl)) rfl) (by rw [hb8]; rfl))))
  exact sbT hb8 (Xr rfl (Xr rfl (Xr rfl (Xb rfl (Kg8 _ (Ag.put ((Ag.put ((Ag.put ((Ag.put (Ag.base rfl) rfl)) rfl)) rfl)) rfl) (by rw [hb8]; rfl))))))
 refine Xb rfl (ji [19] (fun (y10 : Bool) e w => ∃ (s : St) (e0 : Env), w = s.w ∧ e = upd e0 21 (.bool y10) ∧ Kp s0 s) (fun Gj10 Kj10 => ?_) ?_)
 ·
  rcases bft (r6 && (a0.Kind != (0 : Int))) with hb10 | hb10
  ·
   refine sbT hb10 ?_
   rw [if_pos hb10]
   refine Xs fa37_2 rfl ?_
   have A11 := B2.st p7 rfl
   refine Yb A11 u25 rfl (fq_' A0_0 (fl_c rfl) rfl (Xb rfl (ji [17, 18, 19] (fun (y12 : Bool) e w => ∃ (s : St) (e0 : Env), w = s.w ∧ e = upd (upd e0 10 (.bool true)) 19 (.bool y12) ∧ Kp s0 s) (fun Gj12 Kj12 => ?_) ?_)))
   ·
    rcases bft (fcmp .f64 a0.F (0 : Nat) == some .eq) with hb12 | hb12
    ·
     refine sbT hb12 ?_
     rw [if_pos hb12]
     refine Xs fa37_2 rfl (Yb A11 u25 rfl (clV 42 rfl func66 rfl (spec_FloatBits.calls a0.F s7.w (mm [] s7) w0_0 (Xk (s := s7) A0_0)) (fun r13 s14 p14 n14 => ?_)))
     refine Xb rfl (Xb rfl ?_)
     exact Kj12 _ _ _ ⟨s14, _, rfl, (ue (ue rfl rfl) rfl), (K4.st (Xo p7 p14) rfl)⟩
    refine sbT hb12 ?_
    rw [if_neg (by rw [hb12]; decide)]
    refine Xr rfl (Xr rfl (Xr rfl (Xr rfl (Xb rfl ?_))))
    exact Kj12 _ _ _ ⟨s7, _, rfl, (ue (ue rfl rfl) rfl), (K4.st p7 rfl)⟩
   rintro y12 _ _ ⟨s17, _, rfl, rfl, Ky12⟩
   exact Xb rfl (Xb rfl (Kj10 _ _ _ ⟨s17, _, rfl, (ue rfl rfl), Ky12⟩))
  refine sbT hb10 ?_
  rw [if_neg (by rw [hb10]; decide)]
  refine Xr rfl (Xr rfl (Xr rfl (Xr rfl (Xr rfl (Xr rfl (Xr rfl (Xr rfl (Xr rfl (Xr rfl (Xb rfl ?_))))))))))
  exact Kj10 _ _ _ ⟨s7, _, rfl, (ue rfl rfl), (K4.st p7 rfl)⟩
 rintro y10 _ _ ⟨s19, _, rfl, rfl, Ky10⟩
 exact Xb rfl (dn (re rfl func40 rfl (Xv rfl Xg) rfl ⟨_, rfl, rfl, z.ky Ky10⟩))
def spec_l5in.f (a0 : Int) (a1 : Int) (a2 : Int) : Option (Bool) :=
 (some ((decide (a0 ≥ a1)) && (decide (a0 ≤ a2))))
def spec_l5in.Q (w : World) (F : Nat → Prop) (r : Bool) (v : Value) (w' : World) : Prop :=
 v = (.bool r) ∧ Ky [] w w'
theorem spec_l5in.calls (a0 : Int) (a1 : Int) (a2 : Int) (w : World) (F : Nat → Prop)   (r : Bool) (m : spec_l5in.f a0 a1 a2 = some r) :
  Calls prog 41 #[(iI a0), (iI a1), (iI a2)] w (RT (spec_l5in.Q w F) r) := by
 obtain ⟨s0, rfl, kp0, z⟩ := Xn w F
 refine Xf (args := [(iI a0), (iI a1), (iI a2)]) func41 ntmps41 rfl rfl m ?_
 unfold spec_l5in.f
 refine sr (Xb rfl (dn (sr (Xb rfl (Xb rfl (Xb rfl (Xb rfl (jy [10, 11, 12, 13, 14] [8] 14 (.bool ((decide (a0 ≥ a1)) && (decide (a0 ≤ a2)))) rfl (fun Kg1 => ?_) (fun j1 => ?_)))))))))
 ·
  rcases bft (decide (a0 ≥ a1)) with hb1 | hb1
  ·
   exact sbT hb1 (Xb rfl (Xb rfl (Xb rfl (Xb rfl (Kg1 _ (Ag.put ((Ag.put ((Ag.put ((Ag.put (Ag.base rfl) rfl)) rfl)) rfl)) rfl) (by rw [hb1]; rfl))))))
  exact sbT hb1 (Xr rfl (Xr rfl (Xr rfl (Xb rfl (Kg1 _ (Ag.put ((Ag.put ((Ag.put ((Ag.put (Ag.base rfl) rfl)) rfl)) rfl)) rfl) (by rw [hb1]; rfl))))))
 exact Xb rfl (dn (re rfl func41 rfl (Xv rfl Xg) rfl ⟨_, rfl, rfl, z.ky kp0⟩))
def spec_l11entry.f (a0 : Entry) : Option (Bool) :=
 ((spec_KeyOk.f a0.Key).bind fun r6 => ((if r6 = true then ((spec_l5in.f a0.Id (0 : Int) (255 : Int)).bind fun r10 => (some r10)) else (some false)).bind fun y8 => (some y8)))
def spec_l11entry.Q (w : World) (F : Nat → Prop) (r : Bool) (v : Value) (w' : World) : Prop :=
 v = (.bool r) ∧ Ky [] w w'
theorem spec_l11entry.calls (a0 : Entry) (w : World) (F : Nat → Prop) (w0_0 : Value) (w0_1 : Value) (h0_0 : Kd.flt.rd w [w0_0] a0.Key.F F) (h0_1 : Ym.rd w [w0_1] a0.Key.T F) (r : Bool) (m : spec_l11entry.f a0 = some r) :
  Calls prog 19 #[(.agg #[(iI a0.Key.Kind), (iI a0.Key.N), w0_0, w0_1, (iI a0.Id)])] w (RT (spec_l11entry.Q w F) r) := by
 obtain ⟨s0, rfl, kp0, z⟩ := Xn w F
 refine Xf (args := [(.agg #[(iI a0.Key.Kind), (iI a0.Key.N), w0_0, w0_1, (iI a0.Id)])]) func19 ntmps19 rfl rfl m ?_
 unfold spec_l11entry.f
 refine sr (bx' (cs := [(iI a0.Key.Kind), (iI a0.Key.N), w0_0, w0_1, (iI a0.Id)]) 40 rfl rfl (fun b2 s2 p2 B2 => ?_))
 refine Xb rfl (dn (sr (Xs fa48_0 rfl (Yl (es := [(iI a0.Key.Kind), (iI a0.Key.N), w0_0, w0_1]) B2 u37 z37 rfl ?_))))
 have K4 := kp0.st p2 rfl
 refine clV 41 rfl func40 rfl (spec_KeyOk.calls a0.Key s2.w (mm [0] s2) w0_0 w0_1 ((Xk (s := s2) (Yj h0_0)).sub (D := [0]) rfl) ((z.rd h0_1).kp K4)) (fun r6 s7 p7 n7 => ?_)
 refine Xb rfl (ji [8] (fun (y8 : Bool) e w => ∃ (s : St) (e0 : Env), w = s.w ∧ e = upd e0 10 (.bool y8) ∧ Kp s0 s) (fun Gj8 Kj8 => ?_) ?_)
 ·
  rcases bft r6 with hb8 | hb8
  ·
   refine sbT hb8 ?_
   rw [if_pos hb8]
   refine Xs fa48_1 rfl (Yb (B2.st p7 rfl) u3 rfl (clV 42 rfl func41 rfl (spec_l5in.calls a0.Id (0 : Int) (255 : Int) s7.w (mm [] s7)) (fun r10 s11 p11 n11 => ?_)))
   exact Xb rfl (Kj8 _ _ _ ⟨s11, _, rfl, (ue rfl rfl), (K4.st (Xo p7 p11) rfl)⟩)
  refine sbT hb8 ?_
  rw [if_neg (by rw [hb8]; decide)]
  refine Xr rfl (Xr rfl (Xr rfl (Xb rfl ?_)))
  exact Kj8 _ _ _ ⟨s7, _, rfl, (ue rfl rfl), (K4.st p7 rfl)⟩
 rintro y8 _ _ ⟨s14, _, rfl, rfl, Ky8⟩
 exact Xb rfl (dn (re rfl func19 rfl (Xv rfl Xg) rfl ⟨_, rfl, rfl, z.ky Ky8⟩))
def spec_FloatRank.f (a0 : Nat) : Option (Int) :=
 ((spec_FloatBits.f a0).bind fun r1 => (if (r1 == (9221120237041090560 : Int)) = true then (some (18446744073709551615 : Int)) else (if (fcmp .f64 a0 (0 : Nat) == some .eq) = true then (some (9223372036854775808 : Int)) else (if ((ishr .u64 r1 (63 : Int)) == (1 : Int)) = true then (some (ixor .u64 (IntKind.max .u64) r1)) else (some (ior .u64 r1 (9223372036854775808 : Int)))))))
def spec_FloatRank.Q (w : World) (F : Nat → Prop) (r : Int) (v : Value) (w' : World) : Prop :=
 v = (.int .u64 r) ∧ Ky [] w w'
theorem spec_FloatRank.calls (a0 : Nat) (w : World) (F : Nat → Prop) (w0_0 : Value) (h0_0 : Kd.flt.rd w [w0_0] a0 F) (r : Int) (m : spec_FloatRank.f a0 = some r) :
  Calls prog 95 #[w0_0] w (RT (spec_FloatRank.Q w F) r) := by
 obtain ⟨s0, rfl, kp0, z⟩ := Xn w F
 have A0_0 := Yj h0_0
 refine Xf (args := [w0_0]) func95 ntmps95 rfl rfl m ?_
 unfold spec_FloatRank.f
 refine sr (Xb rfl (dn (sr (Xw w0_0 rfl (clV 40 rfl func66 rfl (spec_FloatBits.calls a0 s0.w (mm [] s0) w0_0 (Xk (s := s0) A0_0)) (fun r1 s2 p2 n2 => ?_))))))
 refine Xb rfl (dn (sq (sr (Xb rfl (Xb rfl (dn (cd rfl (fun h3 => ?_) (fun h3 => ?_))))))))
 ·
  refine sr (Xb rfl (dn ?_))
  exact re rfl func95 rfl (Xv rfl Xg) rfl ⟨_, rfl, rfl, z.ky (kp0.st p2 rfl)⟩
 refine sk (sq (sr (Xw w0_0 rfl (fq_' A0_0 (fl_c rfl) rfl (dn (cd rfl (fun h5 => ?_) (fun h5 => ?_)))))))
 ·
  refine sr (Xb rfl (dn ?_))
  exact re rfl func95 rfl (Xv rfl Xg) rfl ⟨_, rfl, rfl, z.ky (kp0.st p2 rfl)⟩
 refine sk (sq (sr (Xb rfl (shrK rfl rfl rfl rfl rfl rfl rfl rfl (Xb rfl (dn (cd rfl (fun h7 => ?_) (fun h7 => ?_))))))))
 ·
  refine sr (Xb rfl (Xb rfl (Xb rfl (dn ?_))))
  exact re rfl func95 rfl (Xv rfl Xg) rfl ⟨_, rfl, rfl, z.ky (kp0.st p2 rfl)⟩
 refine sk (sr (Xb rfl (Xb rfl (Xb rfl (dn ?_)))))
 exact re rfl func95 rfl (Xv rfl Xg) rfl ⟨_, rfl, rfl, z.ky (kp0.st p2 rfl)⟩
def spec_FloatCompare.f (a0 : Nat) (a1 : Nat) : Option (Int) :=
 ((spec_FloatRank.f a0).bind fun r1 => ((spec_FloatRank.f a1).bind fun r3 => (if (decide (r1 < r3)) = true then (some (-1 : Int)) else (if (decide (r1 > r3)) = true then (some (1 : Int)) else (some (0 : Int))))))
def spec_FloatCompare.Q (w : World) (F : Nat → Prop) (r : Int) (v : Value) (w' : World) : Prop :=
 v = (iI r) ∧ Ky [] w w'
theorem spec_FloatCompare.calls (a0 : Nat) (a1 : Nat) (w : World) (F : Nat → Prop) (w0_0 : Value) (w1_0 : Value) (h0_0 : Kd.flt.rd w [w0_0] a0 F) (h1_0 : Kd.flt.rd w [w1_0] a1 F) (r : Int) (m : spec_FloatCompare.f a0 a1 = some r) :
  Calls prog 85 #[w0_0, w1_0] w (RT (spec_FloatCompare.Q w F) r) := by
 obtain ⟨s0, rfl, kp0, z⟩ := Xn w F
 refine Xf (args := [w0_0, w1_0]) func85 ntmps85 rfl rfl m ?_
 unfold spec_FloatCompare.f
 refine sr (Xb rfl (dn (sr (Xw w0_0 rfl (clV 40 rfl func95 rfl (spec_FloatRank.calls a0 s0.w (mm [] s0) w0_0 (Xk (s := s0) (Yj h0_0))) (fun r1 s2 p2 n2 => ?_))))))
 refine Xb rfl (dn (sr (Xw w1_0 rfl (clV 41 rfl func95 rfl (spec_FloatRank.calls a1 s2.w (mm [] s2) w1_0 (Xk (s := s2) (Yj h1_0))) (fun r3 s4 p4 n4 => ?_)))))
 refine Xb rfl (dn (sq (sr (Xb rfl (Xb rfl (Xb rfl (dn (cd rfl (fun h5 => ?_) (fun h5 => ?_)))))))))
 ·
  refine sr (Xb rfl (dn ?_))
  exact re rfl func85 rfl (Xv rfl Xg) rfl ⟨_, rfl, rfl, z.ky (kp0.st (Xo p2 p4) rfl)⟩
 refine sk (sq (sr (Xb rfl (Xb rfl (Xb rfl (dn (cd rfl (fun h7 => ?_) (fun h7 => ?_))))))))
 ·
  refine sr (Xb rfl (dn ?_))
  exact re rfl func85 rfl (Xv rfl Xg) rfl ⟨_, rfl, rfl, z.ky (kp0.st (Xo p2 p4) rfl)⟩
 refine sk (sr (Xb rfl (dn ?_)))
 exact re rfl func85 rfl (Xv rfl Xg) rfl ⟨_, rfl, rfl, z.ky (kp0.st (Xo p2 p4) rfl)⟩
def spec_l3texts.b0 (a0 : (List Int)) (a1 : (List Int)) (x3 : Int) : Option (Int ⊕ Int) :=
 (if ((decide (x3 < (a0.length : Int))) && (decide (x3 < (a1.length : Int)))) = true then (if 0 ≤ x3 ∧ x3 < (a0.length : Int) then (if 0 ≤ x3 ∧ x3 < (a1.length : Int) then (if (decide ((at_ a0 x3) < (at_ a1 x3))) = true then (some (Sum.inr (-1 : Int))) else (if 0 ≤ x3 ∧ x3 < (a0.length : Int) then (if 0 ≤ x3 ∧ x3 < (a1.length : Int) then (if (decide ((at_ a0 x3) > (at_ a1 x3))) = true then (some (Sum.inr (1 : Int))) else (some (Sum.inl (IntKind.wrap .i64 (x3 + (1 : Int)))))) else none) else none)) else none) else none) else ((if (decide ((a0.length : Int) < (a1.length : Int))) = true then (some (-1 : Int)) else (if (decide ((a0.length : Int) > (a1.length : Int))) = true then (some (1 : Int)) else (some (0 : Int)))).bind fun o => some (Sum.inr o)))
def spec_l3texts.f (a0 : (List Int)) (a1 : (List Int)) : Option (Int) :=
 (iter (spec_l3texts.b0 a0 a1) (0 : Int))
def spec_l3texts.Q (w : World) (F : Nat → Prop) (r : Int) (v : Value) (w' : World) : Prop :=
 v = (iI r) ∧ Ky [] w w'
theorem spec_l3texts.calls (a0 : (List Int)) (a1 : (List Int)) (w : World) (F : Nat → Prop) (w0_0 : Value) (w1_0 : Value) (h0_0 : Ym.rd w [w0_0] a0 F) (h1_0 : Ym.rd w [w1_0] a1 F) (r : Int) (m : spec_l3texts.f a0 a1 = some r) :
  Calls prog 86 #[w0_0, w1_0] w (RT (spec_l3texts.Q w F) r) := by
 obtain ⟨s0, rfl, kp0, z⟩ := Xn w F
 have A0_0 := z.rd h0_0
 have A1_0 := z.rd h1_0
 refine Xf (args := [w0_0, w1_0]) func86 ntmps86 rfl rfl m ?_
 unfold spec_l3texts.f
 refine sr (Xb rfl (dn (sq (sr (Xb rfl (dn (bl (lpI (fun (x3 : Int) e w => ∃ (s : St) (e0 : Env), w = s.w ∧ e = upd (upd (upd e0 0 w0_0) 1 w1_0) 5 (iI x3) ∧ Kp s0 s) ⟨s0, _, rfl, (ue (ue (ue rfl rfl) rfl) rfl), kp0⟩ (fun g3 ih3 => ?_)))))))))
 rintro x3 _ _ ⟨s4, _, rfl, rfl, Kx3⟩
 unfold spec_l3texts.b0
 refine sq (sr (Xb rfl (Xw w0_0 rfl ?_)))
 have A5 := A0_0.kp Kx3
 refine ln' A5 u26 rfl (Xb rfl (Xb rfl (jy [10, 11, 12, 13, 14, 15] [] 15 (.bool ((decide (x3 < (a0.length : Int))) && (decide (x3 < (a1.length : Int))))) rfl (fun Kg6 => ?_) (fun j6 => ?_))))
 ·
  rcases bft (decide (x3 < (a0.length : Int))) with hb6 | hb6
  ·
   refine sbT hb6 (Xb rfl (Xw w1_0 rfl ?_))
   exact ln' (A1_0.kp Kx3) u26 rfl (Xb rfl (Xb rfl (Kg6 _ (Ag.put ((Ag.put ((Ag.put ((Ag.put ((Ag.put (Ag.base rfl) rfl)) rfl)) rfl)) rfl)) rfl) (by rw [hb6]; rfl))))
  exact sbT hb6 (Xr rfl (Xr rfl (Xr rfl (Xr rfl (Xb rfl (Kg6 _ (Ag.put ((Ag.put ((Ag.put ((Ag.put ((Ag.put (Ag.base rfl) rfl)) rfl)) rfl)) rfl)) rfl) (by rw [hb6]; rfl)))))))
 refine dn (cd rfl (fun h8 => ?_) (fun h8 => ?_))
 ·
  refine sk (sq (bl (sq (sq (Ya [[], [], [0, 1], [2], [], [], [4, 5], [6], [3, 7]] [some 18, some 19, some 20, some 21, some 22, some 23, some 24, some 25, some 26] [[0], [5], [18, 19], [20], [1], [5], [22, 23], [24], [21, 25]] [0, 1, 2, 3, 4, 5, 6, 7, 8] ⟨by kernel_rfl, by kernel_rfl, by kernel_rfl⟩ (by kernel_rfl) (fun s9 p9 l9 tb9 zd9 => ?_))))))
  have K12 := Kx3.st p9 rfl
  have A13 := A0_0.kp K12
  refine mg fun hg14 => ?_
  obtain ⟨ad14, es14, he14, ce14, ia14⟩ := ix_e A13 rfl hg14.1 hg14.2
  obtain rfl := he14
  have A20 := A1_0.kp K12
  refine mg fun hg21 => ?_
  obtain ⟨ad21, es21, he21, ce21, ia21⟩ := ix_e A20 rfl hg21.1 hg21.2
  obtain rfl := he21
  refine Xu [8] tb9 ((((((((zd9.add 0 18 w0_0 rfl).add 1 19 (iI x3) rfl).add 2 20 (.pointer (some ad14)) rfl).add 3 21 (.int .u8 (at_ a0 x3)) rfl).add 4 22 w1_0 rfl).add 5 23 (iI x3) rfl).add 6 24 (.pointer (some ad21)) rfl).add 7 25 (.int .u8 (at_ a1 x3)) rfl) (Xa (lc0_q' ce21 u5 rfl) rfl (Xa (Yg A20 u26 z5 hg21.1 hg21.2 ia21 rfl) rfl (Xa (Xc rfl) rfl (Xa (Xq w1_0 rfl) rfl (Xa (lc0_q' ce14 u5 rfl) rfl (Xa (Yg A13 u26 z5 hg14.1 hg14.2 ia14 rfl) rfl (Xa (Xc rfl) rfl (Xa (Xq w0_0 rfl) rfl Xe)))))))) (by kernel_rfl) (by decide) (Xb rfl (dn (cd rfl (fun h25 => ?_) (fun h25 => ?_))))
  ·
   exact sr (Xb rfl (dn (sgi (re rfl func86 rfl (Xv rfl Xg) rfl ⟨_, rfl, rfl, z.ky K12⟩))))
  refine sk (sq (Ya [[], [], [0, 1], [2], [], [], [4, 5], [6], [3, 7]] [some 27, some 28, some 29, some 30, some 31, some 32, some 33, some 34, some 35] [[0], [5], [27, 28], [29], [1], [5], [31, 32], [33], [30, 34]] [0, 1, 2, 3, 4, 5, 6, 7, 8] ⟨by kernel_rfl, by kernel_rfl, by kernel_rfl⟩ (by kernel_rfl) (fun s26 p26 l26 tb26 zd26 => ?_)))
  have K29 := K12.st p26 rfl
  have A30 := A0_0.kp K29
  refine mg fun hg31 => ?_
  obtain ⟨ad31, es31, he31, ce31, ia31⟩ := ix_e A30 rfl hg31.1 hg31.2
  obtain rfl := he31
  have A37 := A1_0.kp K29
  refine mg fun hg38 => ?_
  obtain ⟨ad38, es38, he38, ce38, ia38⟩ := ix_e A37 rfl hg38.1 hg38.2
  obtain rfl := he38
  refine Xu [8] tb26 ((((((((zd26.add 0 27 w0_0 rfl).add 1 28 (iI x3) rfl).add 2 29 (.pointer (some ad31)) rfl).add 3 30 (.int .u8 (at_ a0 x3)) rfl).add 4 31 w1_0 rfl).add 5 32 (iI x3) rfl).add 6 33 (.pointer (some ad38)) rfl).add 7 34 (.int .u8 (at_ a1 x3)) rfl) (Xa (lc0_q' ce38 u5 rfl) rfl (Xa (Yg A37 u26 z5 hg38.1 hg38.2 ia38 rfl) rfl (Xa (Xc rfl) rfl (Xa (Xq w1_0 rfl) rfl (Xa (lc0_q' ce31 u5 rfl) rfl (Xa (Yg A30 u26 z5 hg31.1 hg31.2 ia31 rfl) rfl (Xa (Xc rfl) rfl (Xa (Xq w0_0 rfl) rfl Xe)))))))) (by kernel_rfl) (by decide) (Xb rfl (dn (cd rfl (fun h42 => ?_) (fun h42 => ?_))))
  ·
   exact sr (Xb rfl (dn (sgi (re rfl func86 rfl (Xv rfl Xg) rfl ⟨_, rfl, rfl, z.ky K29⟩))))
  exact sk (ib (rg (Xb rfl (Xb rfl (Xb rfl (dn (lb ih3 ⟨s26, _, rfl, (ue (ue (ue rfl rfl) rfl) rfl), K29⟩)))))))
 refine xt rfl (sgb (sq (sr (Xw w0_0 rfl (ln' A5 u26 rfl (Xw w1_0 rfl ?_))))))
 have A43 := A1_0.kp Kx3
 refine ln' A43 u26 rfl (Xb rfl (dn (cd rfl (fun h44 => ?_) (fun h44 => ?_))))
 ·
  exact sr (Xb rfl (dn (re rfl func86 rfl (Xv rfl Xg) rfl ⟨_, rfl, rfl, z.ky Kx3⟩)))
 refine sk (sq (sr (Xw w0_0 rfl (ln' A5 u26 rfl (Xw w1_0 rfl (ln' A43 u26 rfl (Xb rfl (dn (cd rfl (fun h45 => ?_) (fun h45 => ?_))))))))))
 ·
  exact sr (Xb rfl (dn (re rfl func86 rfl (Xv rfl Xg) rfl ⟨_, rfl, rfl, z.ky Kx3⟩)))
 exact sk (sr (Xb rfl (dn (re rfl func86 rfl (Xv rfl Xg) rfl ⟨_, rfl, rfl, z.ky Kx3⟩))))
def spec_ItemCompare.f (a0 : Item) (a1 : Item) : Option (Int) :=
 ((spec_ItemOk.f a0).bind fun r10 => ((if (!r10) = true then (some true) else ((spec_ItemOk.f a1).bind fun r19 => (some (!r19)))).bind fun y12 => (if y12 = true then (some (-2 : Int)) else (if (a0.Kind != a1.Kind) = true then (if (decide (a0.Kind < a1.Kind)) = true then (some (-1 : Int)) else (some (1 : Int))) else (if (a0.N != a1.N) = true then (if (decide (a0.N < a1.N)) = true then (some (-1 : Int)) else (some (1 : Int))) else ((spec_FloatCompare.f a0.F a1.F).bind fun r32 => (if (r32 != (0 : Int)) = true then (some r32) else ((spec_l3texts.f a0.T a1.T).bind fun r41 => (some r41)))))))))
def spec_ItemCompare.Q (w : World) (F : Nat → Prop) (r : Int) (v : Value) (w' : World) : Prop :=
 v = (iI r) ∧ Ky [] w w'
theorem spec_ItemCompare.calls (a0 : Item) (a1 : Item) (w : World) (F : Nat → Prop) (w0_0 : Value) (w0_1 : Value) (w1_0 : Value) (w1_1 : Value) (h0_0 : Kd.flt.rd w [w0_0] a0.F F) (h0_1 : Ym.rd w [w0_1] a0.T F) (h1_0 : Kd.flt.rd w [w1_0] a1.F F) (h1_1 : Ym.rd w [w1_1] a1.T F) (r : Int) (m : spec_ItemCompare.f a0 a1 = some r) :
  Calls prog 67 #[(.agg #[(iI a0.Kind), (iI a0.N), w0_0, w0_1]), (.agg #[(iI a1.Kind), (iI a1.N), w1_0, w1_1])] w (RT (spec_ItemCompare.Q w F) r) := by
 obtain ⟨s0, rfl, kp0, z⟩ := Xn w F
 have A0_0 := Yj h0_0
 have A0_1 := z.rd h0_1
 have A1_0 := Yj h1_0
 have A1_1 := z.rd h1_1
 refine Xf (args := [(.agg #[(iI a0.Kind), (iI a0.N), w0_0, w0_1]), (.agg #[(iI a1.Kind), (iI a1.N), w1_0, w1_1])]) func67 ntmps67 rfl rfl m ?_
 unfold spec_ItemCompare.f
 refine sr (bx' (cs := [(iI a0.Kind), (iI a0.N), w0_0, w0_1]) 40 rfl rfl (fun b3 s3 p3 B3 => ?_))
 refine bx' (cs := [(iI a1.Kind), (iI a1.N), w1_0, w1_1]) 41 rfl rfl (fun b5 s5 p5 B5 => ?_)
 refine Xb rfl (dn (sq (sr ?_)))
 have A7 := B3.st p5 rfl
 refine Yl (es := [(iI a0.Kind), (iI a0.N), w0_0, w0_1]) A7 u37 z37 rfl ?_
 have K8 := kp0.st (Xo p3 p5) rfl
 refine clV 42 rfl func65 rfl (spec_ItemOk.calls a0 s5.w (mm [0] s5) w0_0 w0_1 ((Xk (s := s5) A0_0).sub (D := [0]) rfl) (A0_1.kp K8)) (fun r10 s11 p11 n11 => ?_)
 refine Xb rfl (Xb rfl (ji [] (fun (y12 : Bool) e w => ∃ (s : St) (e0 : Env), w = s.w ∧ e = upd (upd (upd e0 2 (pB b3)) 3 (pB b5)) 13 (.bool y12) ∧ Kp s0 s ∧ BlF s b5 37 [(iI a1.Kind), (iI a1.N), w1_0, w1_1] 41 ∧ BlF s b3 37 [(iI a0.Kind), (iI a0.N), w0_0, w0_1] 40) (fun Gj12 Kj12 => ?_) ?_))
 ·
  rcases bft (!r10) with hb12 | hb12
  ·
   refine sbT hb12 ?_
   rw [if_pos hb12]
   refine Xr rfl (Xr rfl (Xr rfl (Xb rfl ?_)))
   exact Kj12 _ _ _ ⟨s11, _, rfl, (ue (ue (ue rfl rfl) rfl) rfl), (K8.st p11 rfl), (B5.st p11 rfl), (A7.st p11 rfl)⟩
  refine sbT hb12 ?_
  rw [if_neg (by rw [hb12]; decide)]
  have A16 := B5.st p11 rfl
  refine Yl (es := [(iI a1.Kind), (iI a1.N), w1_0, w1_1]) A16 u37 z37 rfl ?_
  have K17 := K8.st p11 rfl
  refine clV 43 rfl func65 rfl (spec_ItemOk.calls a1 s11.w (mm [0] s11) w1_0 w1_1 ((Xk (s := s11) A1_0).sub (D := [0]) rfl) (A1_1.kp K17)) (fun r19 s20 p20 n20 => ?_)
  refine Xb rfl (Xb rfl ?_)
  exact Kj12 _ _ _ ⟨s20, _, rfl, (ue (ue (ue rfl rfl) rfl) rfl), (K17.st p20 rfl), (A16.st p20 rfl), (A7.st (Xo p11 p20) rfl)⟩
 rintro y12 _ _ ⟨s24, _, rfl, rfl, Ky12, By12_b5, By12_b3⟩
 refine dn (cd rfl (fun h27 => ?_) (fun h27 => ?_))
 ·
  exact sr (Xb rfl (dn (re rfl func67 rfl (Xv rfl Xg) rfl ⟨_, rfl, rfl, z.ky Ky12⟩)))
 refine sk (sq (sr (Xs fa37_0 rfl (Yb By12_b3 u3 rfl (Xs fa37_0 rfl (Yb By12_b5 u3 rfl (Xb rfl (dn (cd rfl (fun h28 => ?_) (fun h28 => ?_))))))))))
 ·
  refine sq (sr (Xs fa37_0 rfl (Yb By12_b3 u3 rfl (Xs fa37_0 rfl (Yb By12_b5 u3 rfl (Xb rfl (dn (cd rfl (fun h29 => ?_) (fun h29 => ?_)))))))))
  ·
   exact sr (Xb rfl (dn (re rfl func67 rfl (Xv rfl Xg) rfl ⟨_, rfl, rfl, z.ky Ky12⟩)))
  exact sk (sr (Xb rfl (dn (re rfl func67 rfl (Xv rfl Xg) rfl ⟨_, rfl, rfl, z.ky Ky12⟩))))
 refine sk (sq (sr (Xs fa37_1 rfl (Yb By12_b3 u3 rfl (Xs fa37_1 rfl (Yb By12_b5 u3 rfl (Xb rfl (dn (cd rfl (fun h30 => ?_) (fun h30 => ?_))))))))))
 ·
  refine sq (sr (Xs fa37_1 rfl (Yb By12_b3 u3 rfl (Xs fa37_1 rfl (Yb By12_b5 u3 rfl (Xb rfl (dn (cd rfl (fun h31 => ?_) (fun h31 => ?_)))))))))
  ·
   exact sr (Xb rfl (dn (re rfl func67 rfl (Xv rfl Xg) rfl ⟨_, rfl, rfl, z.ky Ky12⟩)))
  exact sk (sr (Xb rfl (dn (re rfl func67 rfl (Xv rfl Xg) rfl ⟨_, rfl, rfl, z.ky Ky12⟩))))
 refine sk (sr (Xs fa37_2 rfl (Yb By12_b3 u25 rfl (Xs fa37_2 rfl (Yb By12_b5 u25 rfl (clV 44 rfl func85 rfl (spec_FloatCompare.calls a0.F a1.F s24.w (mm [] s24) w0_0 w1_0 (Xk (s := s24) A0_0) (Xk (s := s24) A1_0)) (fun r32 s33 p33 n33 => ?_)))))))
 refine Xb rfl (dn (sq (sr (Xb rfl (Xb rfl (dn (cd rfl (fun h34 => ?_) (fun h34 => ?_))))))))
 ·
  refine sr (Xb rfl (Xb rfl (dn ?_)))
  exact re rfl func67 rfl (Xv rfl Xg) rfl ⟨_, rfl, rfl, z.ky (Ky12.st p33 rfl)⟩
 refine sk (sr (Xs fa37_3 rfl ?_))
 refine Yb (By12_b3.st p33 rfl) u26 rfl (Xs fa37_3 rfl ?_)
 refine Yb (By12_b5.st p33 rfl) u26 rfl ?_
 have K38 := Ky12.st p33 rfl
 refine clV 45 rfl func86 rfl (spec_l3texts.calls a0.T a1.T s33.w (mm [0] s33) w0_1 w1_1 (A0_1.kp K38) (A1_1.kp K38)) (fun r41 s42 p42 n42 => ?_)
 refine Xb rfl (dn ?_)
 exact re rfl func67 rfl (Xv rfl Xg) rfl ⟨_, rfl, rfl, z.ky (K38.st p42 rfl)⟩
def spec_l11less.f (a0 : Entry) (a1 : Entry) : Option (Bool) :=
 ((spec_ItemCompare.f a0.Key a1.Key).bind fun r11 => (some ((decide (r11 < (0 : Int))) || ((r11 == (0 : Int)) && (decide (a0.Id < a1.Id))))))
def spec_l11less.Q (w : World) (F : Nat → Prop) (r : Bool) (v : Value) (w' : World) : Prop :=
 v = (.bool r) ∧ Ky [] w w'
theorem spec_l11less.calls (a0 : Entry) (a1 : Entry) (w : World) (F : Nat → Prop) (w0_0 : Value) (w0_1 : Value) (w1_0 : Value) (w1_1 : Value) (h0_0 : Kd.flt.rd w [w0_0] a0.Key.F F) (h0_1 : Ym.rd w [w0_1] a0.Key.T F) (h1_0 : Kd.flt.rd w [w1_0] a1.Key.F F) (h1_1 : Ym.rd w [w1_1] a1.Key.T F) (r : Bool) (m : spec_l11less.f a0 a1 = some r) :
  Calls prog 42 #[(.agg #[(iI a0.Key.Kind), (iI a0.Key.N), w0_0, w0_1, (iI a0.Id)]), (.agg #[(iI a1.Key.Kind), (iI a1.Key.N), w1_0, w1_1, (iI a1.Id)])] w (RT (spec_l11less.Q w F) r) := by
 obtain ⟨s0, rfl, kp0, z⟩ := Xn w F
 refine Xf (args := [(.agg #[(iI a0.Key.Kind), (iI a0.Key.N), w0_0, w0_1, (iI a0.Id)]), (.agg #[(iI a1.Key.Kind), (iI a1.Key.N), w1_0, w1_1, (iI a1.Id)])]) func42 ntmps42 rfl rfl m ?_
 unfold spec_l11less.f
 refine sr (bx' (cs := [(iI a0.Key.Kind), (iI a0.Key.N), w0_0, w0_1, (iI a0.Id)]) 40 rfl rfl (fun b3 s3 p3 B3 => ?_))
 refine bx' (cs := [(iI a1.Key.Kind), (iI a1.Key.N), w1_0, w1_1, (iI a1.Id)]) 41 rfl rfl (fun b5 s5 p5 B5 => ?_)
 refine Xb rfl (dn (sr (Xs fa48_0 rfl ?_)))
 have A7 := B3.st p5 rfl
 refine Yl (es := [(iI a0.Key.Kind), (iI a0.Key.N), w0_0, w0_1]) A7 u37 z37 rfl (Xs fa48_0 rfl (Yl (es := [(iI a1.Key.Kind), (iI a1.Key.N), w1_0, w1_1]) B5 u37 z37 rfl ?_))
 have K8 := kp0.st (Xo p3 p5) rfl
 refine clV 42 rfl func67 rfl (spec_ItemCompare.calls a0.Key a1.Key s5.w (mm [0] s5) w0_0 w0_1 w1_0 w1_1 ((Xk (s := s5) (Yj h0_0)).sub (D := [0]) rfl) ((z.rd h0_1).kp K8) ((Xk (s := s5) (Yj h1_0)).sub (D := [0]) rfl) ((z.rd h1_1).kp K8)) (fun r11 s12 p12 n12 => ?_)
 refine Xb rfl (dn (sr (Xb rfl (Xb rfl (Xb rfl (jy [13, 14, 15, 16, 17, 18, 19, 20, 21, 22, 23] [13] 23 (.bool ((decide (r11 < (0 : Int))) || ((r11 == (0 : Int)) && (decide (a0.Id < a1.Id))))) rfl (fun Kg13 => ?_) (fun j13 => ?_)))))))
 ·
  rcases bft (decide (r11 < (0 : Int))) with hb13 | hb13
  ·
   exact sbT hb13 (Xr rfl (Xr rfl (Xr rfl (Xr rfl (Xr rfl (Xr rfl (Xr rfl (Xr rfl (Xr rfl (Xb rfl (Kg13 _ (Ag.put ((Ag.put ((Ag.put ((Ag.put ((Ag.put ((Ag.put ((Ag.put ((Ag.put ((Ag.put ((Ag.put (Ag.base rfl) rfl)) rfl)) rfl)) rfl)) rfl)) rfl)) rfl)) rfl)) rfl)) rfl) (by rw [hb13]; rfl))))))))))))
  refine sbT hb13 (Xb rfl (Xb rfl (Xb rfl (jy [16, 17, 18, 19, 20, 21, 22] [12, 13] 22 (.bool ((r11 == (0 : Int)) && (decide (a0.Id < a1.Id)))) rfl (fun Kg14 => ?_) (fun j14 => ?_)))))
  ·
   rcases bft (r11 == (0 : Int)) with hb14 | hb14
   ·
    refine sbT hb14 (Xs fa48_1 rfl ?_)
    refine Yb (A7.st p12 rfl) u3 rfl (Xs fa48_1 rfl ?_)
    exact Yb (B5.st p12 rfl) u3 rfl (Xb rfl (Xb rfl (Kg14 _ (Ag.put ((Ag.put ((Ag.put ((Ag.put ((Ag.put ((Ag.put (Ag.base rfl) rfl)) rfl)) rfl)) rfl)) rfl)) rfl) (by rw [hb14]; rfl))))
   exact sbT hb14 (Xr rfl (Xr rfl (Xr rfl (Xr rfl (Xr rfl (Xb rfl (Kg14 _ (Ag.put ((Ag.put ((Ag.put ((Ag.put ((Ag.put ((Ag.put (Ag.base rfl) rfl)) rfl)) rfl)) rfl)) rfl)) rfl) (by rw [hb14]; rfl))))))))
  exact Xb rfl (Kg13 _ (Ag.put ((Ag.put ((Ag.ov ((Ag.put ((Ag.put ((Ag.put (Ag.base rfl) rfl)) rfl)) rfl)) rfl)) rfl)) rfl) (by rw [hb13]; rfl))
 refine Xb rfl (dn ?_)
 exact re rfl func42 rfl (Xv rfl Xg) rfl ⟨_, rfl, rfl, z.ky (K8.st p12 rfl)⟩
def spec_l11go.b1 (a0 : Tree) (a2 : Int) (a3 : Int) (a4 : (List Entry)) (a5 : (List Entry)) (R : (Tree → l11walk → Int → Int → (List Entry) → (List Entry) → Option (l11walk))) (x611 : Int × (List Bool) × Int × Bool × (List Entry)) : Option ((Int × (List Bool) × Int × Bool × (List Entry)) ⊕ l11walk) :=
 (if (decide (x611.1 < (((at_ a0.Nodes a2).Kids).length : Int))) = true then ((if (decide (x611.1 > (0 : Int))) = true then (if 0 ≤ (IntKind.wrap .i64 (x611.1 - (1 : Int))) ∧ (IntKind.wrap .i64 (x611.1 - (1 : Int))) < (((at_ a0.Nodes a2).Entries).length : Int) then (some ([(Entry.mk ((at_ ((at_ a0.Nodes a2).Entries) (IntKind.wrap .i64 (x611.1 - (1 : Int)))).Key) ((at_ ((at_ a0.Nodes a2).Entries) (IntKind.wrap .i64 (x611.1 - (1 : Int)))).Id))])) else none) else (some a4)).bind fun y619 => ((if (decide (x611.1 < (((at_ a0.Nodes a2).Entries).length : Int))) = true then (if 0 ≤ x611.1 ∧ x611.1 < (((at_ a0.Nodes a2).Entries).length : Int) then (some ([(Entry.mk ((at_ ((at_ a0.Nodes a2).Entries) x611.1).Key) ((at_ ((at_ a0.Nodes a2).Entries) x611.1).Id))])) else none) else (some a5)).bind fun y640 => (if 0 ≤ x611.1 ∧ x611.1 < (((at_ a0.Nodes a2).Kids).length : Int) then ((R a0 (l11walk.mk x611.2.1 x611.2.2.1 x611.2.2.2.1 x611.2.2.2.2) (at_ ((at_ a0.Nodes a2).Kids) x611.1) (IntKind.wrap .i64 (a3 + (1 : Int))) y619 y640).bind fun r688 => (some (Sum.inl ((IntKind.wrap .i64 (x611.1 + (1 : Int))), r688.seen, r688.deep, r688.wrong, r688.all)))) else none))) else ((some (l11walk.mk x611.2.1 x611.2.2.1 x611.2.2.2.1 x611.2.2.2.2)).bind fun o => some (Sum.inr o)))
def spec_l11go.b0 (a0 : Tree) (a1 : l11walk) (a2 : Int) (a3 : Int) (a4 : (List Entry)) (a5 : (List Entry)) (R : (Tree → l11walk → Int → Int → (List Entry) → (List Entry) → Option (l11walk))) (x57 : Int) : Option (Int ⊕ l11walk) :=
 (if (decide (x57 < (((at_ a0.Nodes a2).Entries).length : Int))) = true then (if 0 ≤ x57 ∧ x57 < (((at_ a0.Nodes a2).Entries).length : Int) then ((spec_l11entry.f (Entry.mk ((at_ ((at_ a0.Nodes a2).Entries) x57).Key) ((at_ ((at_ a0.Nodes a2).Entries) x57).Id))).bind fun r83 => ((if (!r83) = true then (some true) else ((if (decide (x57 > (0 : Int))) = true then (if 0 ≤ (IntKind.wrap .i64 (x57 - (1 : Int))) ∧ (IntKind.wrap .i64 (x57 - (1 : Int))) < (((at_ a0.Nodes a2).Entries).length : Int) then ((spec_l11less.f (Entry.mk ((at_ ((at_ a0.Nodes a2).Entries) (IntKind.wrap .i64 (x57 - (1 : Int)))).Key) ((at_ ((at_ a0.Nodes a2).Entries) (IntKind.wrap .i64 (x57 - (1 : Int)))).Id)) (Entry.mk ((at_ ((at_ a0.Nodes a2).Entries) x57).Key) ((at_ ((at_ a0.Nodes a2).Entries) x57).Id))).bind fun r153 => ((if (!r153) = true then (some (true, true, true)) else ((if (decide ((a4.length : Int) > (0 : Int))) = true then (if 0 ≤ (0 : Int) ∧ (0 : Int) < (a4.length : Int) then ((spec_l11less.f (Entry.mk ((at_ ((at_ a0.Nodes a2).Entries) x57).Key) ((at_ ((at_ a0.Nodes a2).Entries) x57).Id)) (Entry.mk ((at_ a4 (0 : Int)).Key) ((at_ a4 (0 : Int)).Id))).bind fun r211 => ((if r211 = true then (some (true, true, true)) else ((if (decide ((a5.length : Int) > (0 : Int))) = true then (if 0 ≤ (0 : Int) ∧ (0 : Int) < (a5.length : Int) then ((spec_l11less.f (Entry.mk ((at_ ((at_ a0.Nodes a2).Entries) x57).Key) ((at_ ((at_ a0.Nodes a2).Entries) x57).Id)) (Entry.mk ((at_ a5 (0 : Int)).Key) ((at_ a5 (0 : Int)).Id))).bind fun r256 => (some (true, true, (!r256)))) else none) else (some (false, false, false))).bind fun y243 => (some (false, false, y243.2.2)))).bind fun y217 => (some (true, true, y217.2.1, y217.2.2)))) else none) else ((if (decide ((a5.length : Int) > (0 : Int))) = true then (if 0 ≤ (0 : Int) ∧ (0 : Int) < (a5.length : Int) then ((spec_l11less.f (Entry.mk ((at_ ((at_ a0.Nodes a2).Entries) x57).Key) ((at_ ((at_ a0.Nodes a2).Entries) x57).Id)) (Entry.mk ((at_ a5 (0 : Int)).Key) ((at_ a5 (0 : Int)).Id))).bind fun r322 => (some (true, true, (!r322)))) else none) else (some (false, false, false))).bind fun y308 => (some (false, false, false, y308.2.2)))).bind fun y197 => (some (false, false, y197.2.2.2)))).bind fun y160 => (some (true, true, y160.2.1, y160.2.2)))) else none) else ((if (decide ((a4.length : Int) > (0 : Int))) = true then (if 0 ≤ (0 : Int) ∧ (0 : Int) < (a4.length : Int) then ((spec_l11less.f (Entry.mk ((at_ ((at_ a0.Nodes a2).Entries) x57).Key) ((at_ ((at_ a0.Nodes a2).Entries) x57).Id)) (Entry.mk ((at_ a4 (0 : Int)).Key) ((at_ a4 (0 : Int)).Id))).bind fun r396 => ((if r396 = true then (some (true, true, true)) else ((if (decide ((a5.length : Int) > (0 : Int))) = true then (if 0 ≤ (0 : Int) ∧ (0 : Int) < (a5.length : Int) then ((spec_l11less.f (Entry.mk ((at_ ((at_ a0.Nodes a2).Entries) x57).Key) ((at_ ((at_ a0.Nodes a2).Entries) x57).Id)) (Entry.mk ((at_ a5 (0 : Int)).Key) ((at_ a5 (0 : Int)).Id))).bind fun r440 => (some (true, true, (!r440)))) else none) else (some (false, false, false))).bind fun y427 => (some (false, false, y427.2.2)))).bind fun y402 => (some (true, true, y402.2.1, y402.2.2)))) else none) else ((if (decide ((a5.length : Int) > (0 : Int))) = true then (if 0 ≤ (0 : Int) ∧ (0 : Int) < (a5.length : Int) then ((spec_l11less.f (Entry.mk ((at_ ((at_ a0.Nodes a2).Entries) x57).Key) ((at_ ((at_ a0.Nodes a2).Entries) x57).Id)) (Entry.mk ((at_ a5 (0 : Int)).Key) ((at_ a5 (0 : Int)).Id))).bind fun r504 => (some (true, true, (!r504)))) else none) else (some (false, false, false))).bind fun y490 => (some (false, false, false, y490.2.2)))).bind fun y382 => (some (false, false, false, y382.2.2.2)))).bind fun y135 => (some y135.2.2.2))).bind fun y88 => (if y88 = true then (some (Sum.inr (l11walk.mk (a1.seen.set (a2).toNat true) a1.deep true a1.all))) else (some (Sum.inl (IntKind.wrap .i64 (x57 + (1 : Int)))))))) else none) else ((if (at_ a0.Nodes a2).Leaf = true then ((if (a1.deep == (0 : Int)) = true then (some a3) else (some a1.deep)).bind fun y553 => ((if ((y553 != a3) || (decide ((((at_ a0.Nodes a2).Kids).length : Int) > (0 : Int)))) = true then (some true) else (some a1.wrong)).bind fun y567 => (if a1.all.length + ((at_ a0.Nodes a2).Entries).length ≤ Lim then (some (l11walk.mk (a1.seen.set (a2).toNat true) y553 y567 (a1.all ++ (at_ a0.Nodes a2).Entries))) else none))) else (if ((decide ((((at_ a0.Nodes a2).Entries).length : Int) < (1 : Int))) || ((((at_ a0.Nodes a2).Kids).length : Int) != (IntKind.wrap .i64 ((((at_ a0.Nodes a2).Entries).length : Int) + (1 : Int))))) = true then (some (l11walk.mk (a1.seen.set (a2).toNat true) a1.deep true a1.all)) else (iter (spec_l11go.b1 a0 a2 a3 a4 a5 R) ((0 : Int), (a1.seen.set (a2).toNat true), a1.deep, a1.wrong, a1.all)))).bind fun o => some (Sum.inr o)))
def spec_l11go.h (R : (Tree → l11walk → Int → Int → (List Entry) → (List Entry) → Option (l11walk))) (a0 : Tree) (a1 : l11walk) (a2 : Int) (a3 : Int) (a4 : (List Entry)) (a5 : (List Entry)) : Option (l11walk) :=
 ((if ((a1.wrong || (decide (a2 < (0 : Int)))) || (decide (a2 ≥ (a0.Nodes.length : Int)))) = true then (some true) else (if 0 ≤ a2 ∧ a2 < (a1.seen.length : Int) then (some (at_ a1.seen a2)) else none)).bind fun y14 => (if y14 = true then (some (l11walk.mk a1.seen a1.deep true a1.all)) else (if 0 ≤ a2 ∧ a2 < (a1.seen.length : Int) then (if 0 ≤ a2 ∧ a2 < (a0.Nodes.length : Int) then (if (decide ((((at_ a0.Nodes a2).Entries).length : Int) > (4 : Int))) = true then (some (l11walk.mk (a1.seen.set (a2).toNat true) a1.deep true a1.all)) else (iter (spec_l11go.b0 a0 a1 a2 a3 a4 a5 R) (0 : Int))) else none) else none)))
def spec_l11go.g : Nat → (Tree → l11walk → Int → Int → (List Entry) → (List Entry) → Option (l11walk))
 | 0 => fun _ _ _ _ _ _ => none
 | n + 1 => spec_l11go.h (spec_l11go.g n)
def spec_l11go.f (a0 : Tree) (a1 : l11walk) (a2 : Int) (a3 : Int) (a4 : (List Entry)) (a5 : (List Entry)) : Option (l11walk) := spec_l11go.g 1000 a0 a1 a2 a3 a4 a5
def spec_l11go.Q (s0 : St) (p1 : Nat) (r : l11walk) (v : Value) (w' : World) : Prop :=
 ∃ (u1_0 : Value) (u1_1 : Value) (s' : St), v = .tuple #[] ∧ w' = s'.w ∧ Kp s0 s' ∧ BlF s' p1 84 [u1_0, (iI r.deep), (.bool r.wrong), u1_1] 2 ∧ OwF (Kd.sl 4 Kd.bool) s' [u1_0] r.seen 3 ∧ RwF 48 kd48 s' u1_1 r.all 4 [0, 899]
theorem spec_l11go.callsR (R : (Tree → l11walk → Int → Int → (List Entry) → (List Entry) → Option (l11walk))) (hR : ∀ (a0 : Tree) (a1 : l11walk) (a2 : Int) (a3 : Int) (a4 : (List Entry)) (a5 : (List Entry)) (s0 : St) (z0 : ∀ b, s0.g b < 40) (w0_0 : Value) (p1 : Nat) (w1_0 : Value) (w1_1 : Value) (w4_0 : Value) (w5_0 : Value) (A0_0 : RdF Yp s0 [w0_0] a0.Nodes [0]) (A1_0 : OwF (Kd.sl 4 Kd.bool) s0 [w1_0] a1.seen 3) (A1_1 : RwF 48 kd48 s0 w1_1 a1.all 4 [0]) (B1 : BlF s0 p1 84 [w1_0, (iI a1.deep), (.bool a1.wrong), w1_1] 2) (A4_0 : RdF Yn s0 [w4_0] a4 [0]) (A5_0 : RdF Yn s0 [w5_0] a5 [0]) (r : l11walk) (m : R a0 a1 a2 a3 a4 a5 = some r), Calls prog 64 #[(.agg #[w0_0, (iI a0.Root)]), (pB p1), (iI a2), (iI a3), w4_0, w5_0] s0.w (RT (spec_l11go.Q s0 p1) r)) (a0 : Tree) (a1 : l11walk) (a2 : Int) (a3 : Int) (a4 : (List Entry)) (a5 : (List Entry)) (s0 : St) (z0 : ∀ b, s0.g b < 40) (w0_0 : Value) (p1 : Nat) (w1_0 : Value) (w1_1 : Value) (w4_0 : Value) (w5_0 : Value) (A0_0 : RdF Yp s0 [w0_0] a0.Nodes [0]) (A1_0 : OwF (Kd.sl 4 Kd.bool) s0 [w1_0] a1.seen 3) (A1_1 : RwF 48 kd48 s0 w1_1 a1.all 4 [0]) (B1 : BlF s0 p1 84 [w1_0, (iI a1.deep), (.bool a1.wrong), w1_1] 2) (A4_0 : RdF Yn s0 [w4_0] a4 [0]) (A5_0 : RdF Yn s0 [w5_0] a5 [0]) (r : l11walk) (m : spec_l11go.h R a0 a1 a2 a3 a4 a5 = some r) :
  Calls prog 64 #[(.agg #[w0_0, (iI a0.Root)]), (pB p1), (iI a2), (iI a3), w4_0, w5_0] s0.w (RT (spec_l11go.Q s0 p1) r) := by
 have kp0 : Kp s0 s0 := Kp.refl s0 fun b _ => z0 b
 refine Xf (args := [(.agg #[w0_0, (iI a0.Root)]), (pB p1), (iI a2), (iI a3), w4_0, w5_0]) func64 ntmps64 rfl rfl m ?_
 unfold spec_l11go.h
 refine sr (bx' (cs := [w0_0, (iI a0.Root)]) 40 rfl rfl (fun b7 s7 p7 B7 => ?_))
 refine dn (sq (sr (Xb rfl (Xb rfl (Xs fa84_2 rfl ?_)))))
 have A9 := B1.st p7 rfl
 refine Yb A9 u4 rfl (Xb rfl (jy [22, 23, 24, 25] [8, 9, 10, 11, 12, 13, 14, 15, 16, 17, 18, 19, 20, 21, 22, 23] 25 (.bool (a1.wrong || (decide (a2 < (0 : Int))))) rfl (fun Kg10 => ?_) (fun j10 => ?_)))
 ·
  rcases bft a1.wrong with hb10 | hb10
  ·
   exact sbT hb10 (Xr rfl (Xr rfl (Xb rfl (Kg10 _ (Ag.put ((Ag.put ((Ag.put (Ag.base rfl) rfl)) rfl)) rfl) (by rw [hb10]; rfl)))))
  exact sbT hb10 (Xb rfl (Xb rfl (Xb rfl (Kg10 _ (Ag.put ((Ag.put ((Ag.put (Ag.base rfl) rfl)) rfl)) rfl) (by rw [hb10]; rfl)))))
 refine Xb rfl (jy [26, 27, 28, 29, 30, 31, 32] [15, 16, 17, 18, 19, 20, 21, 22, 23] 32 (.bool ((a1.wrong || (decide (a2 < (0 : Int)))) || (decide (a2 ≥ (a0.Nodes.length : Int))))) rfl (fun Kg11 => ?_) (fun j11 => ?_))
 ·
  rcases bft (a1.wrong || (decide (a2 < (0 : Int)))) with hb11 | hb11
  ·
   exact sbT hb11 (Xr rfl (Xr rfl (Xr rfl (Xr rfl (Xr rfl (Xb rfl (Kg11 _ (Ag.put ((Ag.put ((Ag.put ((Ag.put ((Ag.put ((Ag.put (Ag.base rfl) rfl)) rfl)) rfl)) rfl)) rfl)) rfl) (by rw [hb11]; rfl))))))))
  refine sbT hb11 (Xb rfl (Xs fa33_0 rfl (Yb B7 u31 rfl ?_)))
  exact ln' (A0_0.kp (kp0.st p7 rfl)) u31 rfl (Xb rfl (Xb rfl (Kg11 _ (Ag.put ((Ag.put ((Ag.put ((Ag.put ((Ag.put ((Ag.put (Ag.base rfl) rfl)) rfl)) rfl)) rfl)) rfl)) rfl) (by rw [hb11]; rfl))))
 refine Xb rfl (ji [] (fun (y14 : Bool) e w => ∃ (s : St) (e0 : Env), w = s.w ∧ e = upd (upd (upd (upd (upd (upd (upd e0 1 (pB p1)) 2 (iI a2)) 3 (iI a3)) 4 w4_0) 5 w5_0) 6 (pB b7)) 41 (.bool y14) ∧ Kp s0 s ∧ BlF s p1 84 [w1_0, (iI a1.deep), (.bool a1.wrong), w1_1] 2 ∧ BlF s b7 33 [w0_0, (iI a0.Root)] 40 ∧ OwF (Kd.sl 4 Kd.bool) s [w1_0] a1.seen 3 ∧ RwF 48 kd48 s w1_1 a1.all 4 [0]) (fun Gj14 Kj14 => ?_) ?_)
 ·
  rcases bft ((a1.wrong || (decide (a2 < (0 : Int)))) || (decide (a2 ≥ (a0.Nodes.length : Int)))) with hb14 | hb14
  ·
   refine sbT hb14 ?_
   rw [if_pos hb14]
   refine Xr rfl (Xr rfl (Xr rfl (Xr rfl (Xr rfl (Xr rfl (Xr rfl (Xb rfl ?_)))))))
   exact Kj14 _ _ _ ⟨s7, _, rfl, (ue (ue (ue (ue (ue (ue (ue rfl rfl) rfl) rfl) rfl) rfl) rfl) rfl), (kp0.st p7 rfl), A9, B7, (A1_0.st p7 rfl), (A1_1.st p7 rfl rfl)⟩
  refine sbT hb14 ?_
  rw [if_neg (by rw [hb14]; decide)]
  refine Xb rfl (Xb rfl (Xs fa84_0 rfl (Yb A9 u82 rfl (Xb rfl ?_))))
  have A18 := A1_0.st p7 rfl
  refine ix' A18.rd u82 z4 rfl (fun ad19 es19 h0_19 h1_19 he19 ce19 ia19 => ?_)
  obtain rfl := he19
  refine lc0 ce19 u4 rfl rfl rfl rfl rfl rfl rfl rfl (Xb rfl ?_)
  exact Kj14 _ _ _ ⟨s7, _, rfl, (ue (ue (ue (ue (ue (ue (ue rfl rfl) rfl) rfl) rfl) rfl) rfl) rfl), (kp0.st p7 rfl), A9, B7, A18, (A1_1.st p7 rfl rfl)⟩
 rintro y14 _ _ ⟨s23, _, rfl, rfl, Ky14, By14_p1, By14_b7, Cy14_2, Cy14_3⟩
 refine dn (cd rfl (fun h26 => ?_) (fun h26 => ?_))
 ·
  refine sr (Xb rfl (Xb rfl (Xs fa84_2 rfl (sv' By14_p1 z4 rfl rfl rfl (fun s27 p27 B27 => ?_)))))
  exact dn (re rfl func64 rfl Xg rfl ⟨_, rfl, w1_0, w1_1, s27, rfl, rfl, (Ky14.st p27 rfl), B27, (Cy14_2.st p27 rfl), ((Cy14_3.st p27 rfl rfl).sub rfl)⟩)
 refine sk (sr (Xb rfl (Xb rfl (Xs fa84_0 rfl (Yb By14_p1 u82 rfl (Xb rfl (ix' Cy14_2.rd u82 z4 rfl (fun ad32 es32 h0_32 h1_32 he32 ce32 ia32 => ?_))))))))
 obtain rfl := he32
 refine so (x' := true) Cy14_2 ia32 h0_32 h1_32 cs_flat z4 rfl rfl rfl rfl rfl rfl (fun s34 p34 A34 => ?_)
 refine dn (sr (Xs fa33_0 rfl ?_))
 have A36 := By14_b7.st p34 rfl
 refine Yb A36 u31 rfl (Xb rfl ?_)
 have K37 := Ky14.st p34 rfl
 refine ix' (A0_0.kp K37) u31 z61 rfl (fun ad39 es39 h0_39 h1_39 he39 ce39 ia39 => ?_)
 obtain ⟨v39_0, v39_1, rfl, A39_0, A39_1⟩ := op61 he39
 refine lca ce39 u61 z61 rfl rfl rfl rfl rfl rfl rfl (al' (cs := [(.bool false), (.slice none 0 0), (.slice none 0 0)]) 41 rfl o61 rfl (fun b43 s43 p43 B43 => ?_))
 have A45 := A39_1.st p43 rfl
 have A46 := A39_0.st p43 rfl
 refine Yk (vs := [(.bool ((at_ a0.Nodes a2).Leaf)), v39_0, v39_1]) B43 z61 rfl (Xd rfl (Xd A46.one (Xd A45.one Xt))) rfl (fun s47 p47 B47 => ?_)
 refine dn (sq (sr (Xs fa61_1 rfl (Yb B47 u52 rfl ?_))))
 have A49 := A46.st p47 rfl
 refine ln' A49 u52 rfl (Xb rfl (dn (cd rfl (fun h50 => ?_) (fun h50 => ?_))))
 ·
  refine sr (Xb rfl (Xb rfl (Xs fa84_2 rfl ?_)))
  refine sv' (By14_p1.st (Ye p34 p43 p47) rfl) z4 rfl rfl rfl (fun s52 p52 B52 => ?_)
  exact dn (re rfl func64 rfl Xg rfl ⟨_, rfl, w1_0, w1_1, s52, rfl, rfl, (K37.st (Ye p43 p47 p52) rfl), B52, (A34.st (Ye p43 p47 p52) rfl), ((Cy14_3.st (Yf p34 p43 p47 p52) rfl rfl).sub rfl)⟩)
 refine sk (sq (sr (Xb rfl (dn (bl ?_)))))
 refine lpI (fun (x57 : Int) e w => ∃ (s : St) (e0 : Env), w = s.w ∧ e = upd (upd (upd (upd (upd (upd (upd e0 1 (pB p1)) 3 (iI a3)) 4 w4_0) 5 w5_0) 6 (pB b7)) 12 (pB b43)) 13 (iI x57) ∧ Kp s0 s ∧ BlF s p1 84 [w1_0, (iI a1.deep), (.bool a1.wrong), w1_1] 2 ∧ BlF s b43 61 [(.bool ((at_ a0.Nodes a2).Leaf)), v39_0, v39_1] 41 ∧ BlF s b7 33 [w0_0, (iI a0.Root)] 40 ∧ OwF (Kd.sl 4 Kd.bool) s [w1_0] (a1.seen.set (a2).toNat true) 3 ∧ RwF 48 kd48 s w1_1 a1.all 4 [0] ∧ RdF Yn s [v39_0] ((at_ a0.Nodes a2).Entries) [0] ∧ RdF Yo s [v39_1] ((at_ a0.Nodes a2).Kids) [0]) ⟨s47, _, rfl, (ue (ue (ue (ue (ue (ue (ue rfl rfl) rfl) rfl) rfl) rfl) rfl) rfl), (K37.st (Xo p43 p47) rfl), (By14_p1.st (Ye p34 p43 p47) rfl), B47, (A36.st (Xo p43 p47) rfl), (A34.st (Xo p43 p47) rfl), (Cy14_3.st (Ye p34 p43 p47) rfl rfl), A49, (A45.st p47 rfl)⟩ (fun g57 ih57 => ?_)
 rintro x57 _ _ ⟨s64, _, rfl, rfl, Kx57, Bx57_p1, Bx57_b43, Bx57_b7, Cx57_35, Cx57_3, Cx57_40, Cx57_41⟩
 unfold spec_l11go.b0
 refine sq (sr (Xb rfl (Xs fa61_1 rfl (Yb Bx57_b43 u52 rfl (ln' Cx57_40 u52 rfl (Xb rfl (dn (cd rfl (fun h68 => ?_) (fun h68 => ?_)))))))))
 ·
  refine sk (sq (bl (sr (Xs fa61_1 rfl (Yb Bx57_b43 u52 rfl (Xb rfl (ix' Cx57_40 u52 z48 rfl (fun ad69 es69 h0_69 h1_69 he69 ce69 ia69 => ?_))))))))
  obtain ⟨v69_0, v69_1, rfl, A69_0, A69_1⟩ := op48 he69
  refine lca ce69 u48 z48 rfl rfl rfl rfl rfl rfl rfl (al' (cs := [(iI 0), (iI 0), (.float .f64 0), (.slice none 0 0), (iI 0)]) 42 rfl o48 rfl (fun b72 s72 p72 B72 => ?_))
  have A74 := A69_1.st p72 rfl
  refine Yk (vs := [(iI (((at_ ((at_ a0.Nodes a2).Entries) x57).Key).Kind)), (iI (((at_ ((at_ a0.Nodes a2).Entries) x57).Key).N)), v69_0, v69_1, (iI ((at_ ((at_ a0.Nodes a2).Entries) x57).Id))]) B72 z48 rfl (Xd rfl (Xd rfl (Xd (FL.one A69_0) (Xd A74.one (Xd rfl Xt))))) rfl (fun s75 p75 B75 => ?_)
  refine dn (sq (Ya [[], [0], [1], [2, 1], [3], [4, 3], [5, 3, 3], [6], [7, 6], [6], [9, 6], [8, 10, 6], [11, 6], [6], [12, 13, 6, 6], [14, 6], [6, 15, 3], [3, 16], [17, 14], [18], [19, 18], [20, 18], [21, 18, 18], [22], [22], [24, 22], [25, 22], [23, 26, 22, 22], [22, 27, 18], [18, 28], [29, 27], [30], [31, 30], [32, 30], [33, 30, 30], [34], [34], [36, 34], [37, 34], [35, 38, 34, 34], [39, 34], [34, 40, 30], [30, 41]] [some 75, some 76, some 77, some 78, some 79, some 80, some 81, some 82, some 83, some 84, some 85, some 86, some 87, some 88, some 89, some 90, some 91, some 92, some 93, some 94, some 95, some 96, some 97, some 98, some 99, some 100, some 101, some 102, some 103, some 104, some 105, some 106, some 107, some 108, some 109, some 110, some 111, some 112, some 113, some 114, some 115, some 116, some 117] [[14], [75], [76], [77], [13, 78], [79, 78], [80, 78], [12, 81], [82, 81], [13, 81], [84, 81], [83, 85, 81], [86, 81], [14, 81], [87, 88, 81], [89, 81], [81, 90, 78], [78, 91], [92], [4, 93], [94, 93], [95, 93], [96, 93], [14, 97], [4, 97], [99, 97], [100, 97], [98, 101, 97], [97, 102, 93], [93, 103], [104], [5, 105], [106, 105], [107, 105], [108, 105], [14, 109], [5, 109], [111, 109], [112, 109], [110, 113, 109], [114, 109], [109, 115, 105], [105, 116]] [0, 1, 2, 3, 4, 5, 6, 7, 8, 9, 10, 11, 12, 13, 14, 15, 16, 17, 18, 19, 20, 21, 22, 23, 24, 25, 26, 27, 28, 29, 30, 31, 32, 33, 34, 35, 36, 37, 38, 39, 40, 41, 42] ⟨by kernel_rfl, by kernel_rfl, by kernel_rfl⟩ (by kernel_rfl) (fun s77 p77 l77 tb77 zd77 => ?_)))
  refine Xm 1 [] tb77 (zd77.add 0 75 (.agg #[(iI (((at_ ((at_ a0.Nodes a2).Entries) x57).Key).Kind)), (iI (((at_ ((at_ a0.Nodes a2).Entries) x57).Key).N)), v69_0, v69_1, (iI ((at_ ((at_ a0.Nodes a2).Entries) x57).Id))]) rfl) (Xa (Xp (es := [(iI (((at_ ((at_ a0.Nodes a2).Entries) x57).Key).Kind)), (iI (((at_ ((at_ a0.Nodes a2).Entries) x57).Key).N)), v69_0, v69_1, (iI ((at_ ((at_ a0.Nodes a2).Entries) x57).Id))]) (B75.st p77 rfl) u48 z48 rfl) rfl Xe) (by kernel_rfl) rfl (fun l80 e80 zd80 => ?_)
  have A82 := A74.st (Xo p75 p77) rfl
  refine clV 43 rfl func19 rfl (spec_l11entry.calls (Entry.mk ((at_ ((at_ a0.Nodes a2).Entries) x57).Key) ((at_ ((at_ a0.Nodes a2).Entries) x57).Id)) s77.w (mm [0] s77) v69_0 v69_1 ((Xk (s := s77) A69_0).sub (D := [0]) rfl) A82) (fun r83 s84 p84 n84 => ?_)
  refine Xh (L' := []) (D' := [0, 1]) zd80 rfl (fun zd85 => ?_)
  have zd87 := (zd85.add 2 77 (.bool (!r83)) rfl).add 3 78 (.bool (!r83)) rfl
  refine ji [] (fun (y88 : Bool) e w => ∃ (s : St) (e0 : Env), w = s.w ∧ e = upd (upd (upd (upd (upd (upd (upd (upd e0 1 (pB p1)) 3 (iI a3)) 4 w4_0) 5 w5_0) 6 (pB b7)) 12 (pB b43)) 13 (iI x57)) 117 (.bool y88) ∧ Kp s0 s ∧ BlF s p1 84 [w1_0, (iI a1.deep), (.bool a1.wrong), w1_1] 2 ∧ BlF s b43 61 [(.bool ((at_ a0.Nodes a2).Leaf)), v39_0, v39_1] 41 ∧ BlF s b7 33 [w0_0, (iI a0.Root)] 40 ∧ OwF (Kd.sl 4 Kd.bool) s [w1_0] (a1.seen.set (a2).toNat true) 3 ∧ RwF 48 kd48 s w1_1 a1.all 4 [0] ∧ RdF Yn s [v39_0] ((at_ a0.Nodes a2).Entries) [0] ∧ RdF Yo s [v39_1] ((at_ a0.Nodes a2).Kids) [0]) (fun Gj88 Kj88 => ?_) ?_
  ·
   rcases bft (!r83) with hb88 | hb88
   ·
    rw [if_pos hb88]
    rw [hb88] at zd87
    try rw [hb88]
    have zd105 := ((((((((((((((((zd87.add 4 79 undef rfl).add 5 80 undef rfl).add 6 81 undef rfl).add 7 82 undef rfl).add 8 83 undef rfl).add 9 84 undef rfl).add 10 85 undef rfl).add 11 86 undef rfl).add 12 87 undef rfl).add 13 88 undef rfl).add 14 89 undef rfl).add 15 90 undef rfl).add 16 91 undef rfl).add 17 92 (.bool true) rfl).add 18 93 (.bool true) rfl).add 19 94 undef rfl).add 20 95 undef rfl
    refine Xu [39, 40, 41, 42] tb77 ((((((((((((((((((zd105.add 21 96 undef rfl).add 22 97 undef rfl).add 23 98 undef rfl).add 24 99 undef rfl).add 25 100 undef rfl).add 26 101 undef rfl).add 27 102 undef rfl).add 28 103 undef rfl).add 29 104 (.bool true) rfl).add 30 105 (.bool true) rfl).add 31 106 undef rfl).add 32 107 undef rfl).add 33 108 undef rfl).add 34 109 undef rfl).add 35 110 undef rfl).add 36 111 undef rfl).add 37 112 undef rfl).add 38 113 undef rfl) (Xa (Xi rfl) rfl (Xa (Xi rfl) rfl (Xa (Xi rfl) rfl (Xa (Xi rfl) rfl (Xa (Xi rfl) rfl (Xa (Xi rfl) rfl (Xa (Xi rfl) rfl (Xa (Xi rfl) rfl (Xa (Xc rfl) rfl (Xa (Xc rfl) rfl (Xa (Xi rfl) rfl (Xa (Xi rfl) rfl (Xa (Xi rfl) rfl (Xa (Xi rfl) rfl (Xa (Xi rfl) rfl (Xa (Xi rfl) rfl (Xa (Xi rfl) rfl (Xa (Xi rfl) rfl (Xa (Xi rfl) rfl (Xa (Xi rfl) rfl (Xa (Xc rfl) rfl (Xa (Xc rfl) rfl (Xa (Xi rfl) rfl (Xa (Xi rfl) rfl (Xa (Xi rfl) rfl (Xa (Xi rfl) rfl (Xa (Xi rfl) rfl (Xa (Xi rfl) rfl (Xa (Xi rfl) rfl (Xa (Xi rfl) rfl (Xa (Xi rfl) rfl (Xa (Xi rfl) rfl (Xa (Xi rfl) rfl (Xa (Xi rfl) rfl (Xa (Xi rfl) rfl (Xa (Xc rfl) rfl (Xa (qv_b (Xc rfl) hb88) rfl Xe))))))))))))))))))))))))))))))))))))) (by kernel_rfl) (by decide) (Xr rfl ?_)
    refine Xr rfl (Xr rfl (Xb rfl ?_))
    exact Kj88 _ _ _ ⟨s84, _, rfl, (ue (ue (ue (ue (ue (ue (ue (ue rfl rfl) rfl) rfl) rfl) rfl) rfl) rfl) rfl), (Kx57.st (Yf p72 p75 p77 p84) rfl), (Bx57_p1.st (Yf p72 p75 p77 p84) rfl), (Bx57_b43.st (Yf p72 p75 p77 p84) rfl), (Bx57_b7.st (Yf p72 p75 p77 p84) rfl), (Cx57_35.st (Yf p72 p75 p77 p84) rfl), (Cx57_3.st (Yf p72 p75 p77 p84) rfl rfl), (Cx57_40.st (Yf p72 p75 p77 p84) rfl), (Cx57_41.st (Yf p72 p75 p77 p84) rfl)⟩
   rw [if_neg (by rw [hb88]; decide)]
   rw [hb88] at zd87
   try rw [hb88]
   have zd134 := ((zd87.add 4 79 (iI x57) rfl).add 5 80 (.bool (decide (x57 > (0 : Int)))) rfl).add 6 81 (.bool (decide (x57 > (0 : Int)))) rfl
   refine ji [] (fun (y135 : Bool × Bool × Bool × Bool) e w => ∃ (s : St) (e0 : Env), w = s.w ∧ e = upd (upd (upd (upd (upd (upd (upd (upd (upd (upd (upd (upd e0 1 (pB p1)) 3 (iI a3)) 4 w4_0) 5 w5_0) 6 (pB b7)) 12 (pB b43)) 13 (iI x57)) 79 (iI x57)) 80 (.bool y135.1)) 81 (.bool y135.2.1)) 91 (.bool y135.2.2.1)) 117 (.bool y135.2.2.2) ∧ Kp s0 s ∧ BlF s p1 84 [w1_0, (iI a1.deep), (.bool a1.wrong), w1_1] 2 ∧ BlF s b43 61 [(.bool ((at_ a0.Nodes a2).Leaf)), v39_0, v39_1] 41 ∧ BlF s b7 33 [w0_0, (iI a0.Root)] 40 ∧ OwF (Kd.sl 4 Kd.bool) s [w1_0] (a1.seen.set (a2).toNat true) 3 ∧ RwF 48 kd48 s w1_1 a1.all 4 [0] ∧ RdF Yn s [v39_0] ((at_ a0.Nodes a2).Entries) [0] ∧ RdF Yo s [v39_1] ((at_ a0.Nodes a2).Kids) [0]) (fun Gj135 Kj135 => ?_) ?_
   ·
    rcases bft (decide (x57 > (0 : Int))) with hb135 | hb135
    ·
     rw [if_pos hb135]
     rw [hb135] at zd134
     try rw [hb135]
     have zd139 := ((zd134.add 7 82 (pO b43 1) rfl).add 8 83 v39_0 rfl).add 9 84 (iI x57) rfl
     have A141 := Cx57_40.st (Yf p72 p75 p77 p84) rfl
     refine mg fun hg142 => ?_
     obtain ⟨ad142, es142, he142, ce142, ia142⟩ := ix_e A141 rfl hg142.1 hg142.2
     obtain ⟨v142_0, v142_1, rfl, A142_0, A142_1⟩ := op48 he142
     refine Xm 14 [] tb77 ((((zd139.add 10 85 (iI (IntKind.wrap .i64 (x57 - (1 : Int)))) rfl).add 11 86 (.pointer (some ad142)) rfl).add 12 87 (.agg #[(iI (((at_ ((at_ a0.Nodes a2).Entries) (IntKind.wrap .i64 (x57 - (1 : Int)))).Key).Kind)), (iI (((at_ ((at_ a0.Nodes a2).Entries) (IntKind.wrap .i64 (x57 - (1 : Int)))).Key).N)), v142_0, v142_1, (iI ((at_ ((at_ a0.Nodes a2).Entries) (IntKind.wrap .i64 (x57 - (1 : Int)))).Id))]) rfl).add 13 88 (.agg #[(iI (((at_ ((at_ a0.Nodes a2).Entries) x57).Key).Kind)), (iI (((at_ ((at_ a0.Nodes a2).Entries) x57).Key).N)), v69_0, v69_1, (iI ((at_ ((at_ a0.Nodes a2).Entries) x57).Id))]) rfl) (Xa (Xp (es := [(iI (((at_ ((at_ a0.Nodes a2).Entries) x57).Key).Kind)), (iI (((at_ ((at_ a0.Nodes a2).Entries) x57).Key).N)), v69_0, v69_1, (iI ((at_ ((at_ a0.Nodes a2).Entries) x57).Id))]) (B75.st (Xo p77 p84) rfl) u48 z48 rfl) rfl (Xa (lca_q' ce142 u48 z48 rfl) rfl (Xa (Yg A141 u52 z48 hg142.1 hg142.2 ia142 rfl) rfl (Xa (Xc rfl) rfl (Xa (Xc rfl) rfl (Xa (Xl (Bx57_b43.st (Yf p72 p75 p77 p84) rfl) u52 rfl) rfl (Xa (Xj fa61_1 rfl) rfl (Xa (Xc rfl) rfl (Xa (qv_b (Xc rfl) hb135) rfl (Xa (Xc rfl) rfl (Xa (Xc rfl) rfl (Xa (qv_b (Xc rfl) hb88) rfl Xe)))))))))))) (by kernel_rfl) rfl (fun l149 e149 zd149 => ?_)
     have A152 := A82.st p84 rfl
     refine clV 44 rfl func42 rfl (spec_l11less.calls (Entry.mk ((at_ ((at_ a0.Nodes a2).Entries) (IntKind.wrap .i64 (x57 - (1 : Int)))).Key) ((at_ ((at_ a0.Nodes a2).Entries) (IntKind.wrap .i64 (x57 - (1 : Int)))).Id)) (Entry.mk ((at_ ((at_ a0.Nodes a2).Entries) x57).Key) ((at_ ((at_ a0.Nodes a2).Entries) x57).Id)) s84.w (mm [0] s84) v142_0 v142_1 v69_0 v69_1 ((Xk (s := s84) A142_0).sub (D := [0]) rfl) A142_1 ((Xk (s := s84) A69_0).sub (D := [0]) rfl) A152) (fun r153 s154 p154 n154 => ?_)
     refine Xh (L' := []) (D' := [2, 4, 5, 3, 3, 7, 9, 8, 10, 11, 12, 13, 6, 6, 14, 0, 1]) zd149 rfl (fun zd155 => ?_)
     have zd159 := (((zd155.add 15 90 (.bool (!r153)) rfl).add 16 91 (.bool (!r153)) rfl).add 17 92 (.bool (!r153)) rfl).add 18 93 (.bool (!r153)) rfl
     refine ji [] (fun (y160 : Bool × Bool × Bool) e w => ∃ (s : St) (e0 : Env), w = s.w ∧ e = upd (upd (upd (upd (upd (upd (upd (upd (upd (upd (upd (upd (upd (upd (upd (upd (upd (upd (upd (upd (upd e0 1 (pB p1)) 3 (iI a3)) 4 w4_0) 5 w5_0) 6 (pB b7)) 12 (pB b43)) 13 (iI x57)) 79 (iI x57)) 80 (.bool true)) 81 (.bool true)) 82 (pO b43 1)) 83 v39_0) 84 (iI x57)) 85 (iI (IntKind.wrap .i64 (x57 - (1 : Int))))) 86 (.pointer (some ad142))) 87 (.agg #[(iI (((at_ ((at_ a0.Nodes a2).Entries) (IntKind.wrap .i64 (x57 - (1 : Int)))).Key).Kind)), (iI (((at_ ((at_ a0.Nodes a2).Entries) (IntKind.wrap .i64 (x57 - (1 : Int)))).Key).N)), v142_0, v142_1, (iI ((at_ ((at_ a0.Nodes a2).Entries) (IntKind.wrap .i64 (x57 - (1 : Int)))).Id))])) 88 (.agg #[(iI (((at_ ((at_ a0.Nodes a2).Entries) x57).Key).Kind)), (iI (((at_ ((at_ a0.Nodes a2).Entries) x57).Key).N)), v69_0, v69_1, (iI ((at_ ((at_ a0.Nodes a2).Entries) x57).Id))])) 89 (.bool r153)) 90 (.bool y160.1)) 91 (.bool y160.2.1)) 117 (.bool y160.2.2) ∧ Kp s0 s ∧ BlF s p1 84 [w1_0, (iI a1.deep), (.bool a1.wrong), w1_1] 2 ∧ BlF s b43 61 [(.bool ((at_ a0.Nodes a2).Leaf)), v39_0, v39_1] 41 ∧ BlF s b7 33 [w0_0, (iI a0.Root)] 40 ∧ RdF Yn s [v39_0] ((at_ a0.Nodes a2).Entries) [0] ∧ RdF Ym s [v142_1] (((at_ ((at_ a0.Nodes a2).Entries) (IntKind.wrap .i64 (x57 - (1 : Int)))).Key).T) [0] ∧ RdF Ym s [v69_1] (((at_ ((at_ a0.Nodes a2).Entries) x57).Key).T) [0] ∧ OwF (Kd.sl 4 Kd.bool) s [w1_0] (a1.seen.set (a2).toNat true) 3 ∧ RwF 48 kd48 s w1_1 a1.all 4 [0] ∧ RdF Yo s [v39_1] ((at_ a0.Nodes a2).Kids) [0]) (fun Gj160 Kj160 => ?_) ?_
     ·
      rcases bft (!r153) with hb160 | hb160
      ·
       rw [if_pos hb160]
       rw [hb160] at zd159
       try rw [hb160]
       refine Xu [39, 40, 41, 42] tb77 ((((((((((((((((((((zd159.add 19 94 undef rfl).add 20 95 undef rfl).add 21 96 undef rfl).add 22 97 undef rfl).add 23 98 undef rfl).add 24 99 undef rfl).add 25 100 undef rfl).add 26 101 undef rfl).add 27 102 undef rfl).add 28 103 undef rfl).add 29 104 (.bool true) rfl).add 30 105 (.bool true) rfl).add 31 106 undef rfl).add 32 107 undef rfl).add 33 108 undef rfl).add 34 109 undef rfl).add 35 110 undef rfl).add 36 111 undef rfl).add 37 112 undef rfl).add 38 113 undef rfl) (Xa (Xi rfl) rfl (Xa (Xi rfl) rfl (Xa (Xi rfl) rfl (Xa (Xi rfl) rfl (Xa (Xi rfl) rfl (Xa (Xi rfl) rfl (Xa (Xi rfl) rfl (Xa (Xi rfl) rfl (Xa (Xc rfl) rfl (Xa (Xc rfl) rfl (Xa (Xi rfl) rfl (Xa (Xi rfl) rfl (Xa (Xi rfl) rfl (Xa (Xi rfl) rfl (Xa (Xi rfl) rfl (Xa (Xi rfl) rfl (Xa (Xi rfl) rfl (Xa (Xi rfl) rfl (Xa (Xi rfl) rfl (Xa (Xi rfl) rfl (Xa (Xc rfl) rfl (Xa (Xc rfl) rfl (Xa (Xc rfl) rfl (Xa (qv_b (Xc rfl) hb160) rfl Xe)))))))))))))))))))))))) (by kernel_rfl) (by decide) (Xr rfl (Xr rfl (Xr rfl (Xb rfl ?_))))
       exact Kj160 _ _ _ ⟨s154, _, rfl, (ue (ue (ue (ue (ue (ue (ue (ue (ue (ue (ue (ue (ue (ue (ue (ue (ue (ue (ue (ue (ue rfl rfl) rfl) rfl) rfl) rfl) rfl) rfl) rfl) rfl) rfl) rfl) rfl) rfl) rfl) rfl) rfl) rfl) rfl) rfl) rfl) rfl), (Kx57.st (tr5 p72 p75 p77 p84 p154) rfl), (Bx57_p1.st (tr5 p72 p75 p77 p84 p154) rfl), (Bx57_b43.st (tr5 p72 p75 p77 p84 p154) rfl), (Bx57_b7.st (tr5 p72 p75 p77 p84 p154) rfl), (A141.st p154 rfl), (A142_1.st p154 rfl), (A152.st p154 rfl), (Cx57_35.st (tr5 p72 p75 p77 p84 p154) rfl), (Cx57_3.st (tr5 p72 p75 p77 p84 p154) rfl rfl), (Cx57_41.st (tr5 p72 p75 p77 p84 p154) rfl)⟩
      rw [if_neg (by rw [hb160]; decide)]
      rw [hb160] at zd159
      try rw [hb160]
      have zd196 := (((zd159.add 19 94 w4_0 rfl).add 20 95 (iI (a4.length : Int)) rfl).add 21 96 (.bool (decide ((a4.length : Int) > (0 : Int)))) rfl).add 22 97 (.bool (decide ((a4.length : Int) > (0 : Int)))) rfl
      refine ji [] (fun (y197 : Bool × Bool × Bool × Bool) e w => ∃ (s : St) (e0 : Env), w = s.w ∧ e = upd (upd (upd (upd (upd (upd (upd (upd (upd (upd (upd (upd (upd (upd (upd (upd (upd (upd (upd (upd (upd (upd (upd (upd (upd (upd e0 1 (pB p1)) 3 (iI a3)) 4 w4_0) 5 w5_0) 6 (pB b7)) 12 (pB b43)) 13 (iI x57)) 79 (iI x57)) 80 (.bool true)) 81 (.bool true)) 82 (pO b43 1)) 83 v39_0) 84 (iI x57)) 85 (iI (IntKind.wrap .i64 (x57 - (1 : Int))))) 86 (.pointer (some ad142))) 87 (.agg #[(iI (((at_ ((at_ a0.Nodes a2).Entries) (IntKind.wrap .i64 (x57 - (1 : Int)))).Key).Kind)), (iI (((at_ ((at_ a0.Nodes a2).Entries) (IntKind.wrap .i64 (x57 - (1 : Int)))).Key).N)), v142_0, v142_1, (iI ((at_ ((at_ a0.Nodes a2).Entries) (IntKind.wrap .i64 (x57 - (1 : Int)))).Id))])) 88 (.agg #[(iI (((at_ ((at_ a0.Nodes a2).Entries) x57).Key).Kind)), (iI (((at_ ((at_ a0.Nodes a2).Entries) x57).Key).N)), v69_0, v69_1, (iI ((at_ ((at_ a0.Nodes a2).Entries) x57).Id))])) 89 (.bool r153)) 90 (.bool false)) 91 (.bool false)) 94 w4_0) 95 (iI (a4.length : Int))) 96 (.bool y197.1)) 97 (.bool y197.2.1)) 103 (.bool y197.2.2.1)) 117 (.bool y197.2.2.2) ∧ Kp s0 s ∧ BlF s p1 84 [w1_0, (iI a1.deep), (.bool a1.wrong), w1_1] 2 ∧ BlF s b43 61 [(.bool ((at_ a0.Nodes a2).Leaf)), v39_0, v39_1] 41 ∧ BlF s b7 33 [w0_0, (iI a0.Root)] 40 ∧ RdF Yn s [v39_0] ((at_ a0.Nodes a2).Entries) [0] ∧ RdF Ym s [v142_1] (((at_ ((at_ a0.Nodes a2).Entries) (IntKind.wrap .i64 (x57 - (1 : Int)))).Key).T) [0] ∧ RdF Ym s [v69_1] (((at_ ((at_ a0.Nodes a2).Entries) x57).Key).T) [0] ∧ OwF (Kd.sl 4 Kd.bool) s [w1_0] (a1.seen.set (a2).toNat true) 3 ∧ RwF 48 kd48 s w1_1 a1.all 4 [0] ∧ RdF Yo s [v39_1] ((at_ a0.Nodes a2).Kids) [0]) (fun Gj197 Kj197 => ?_) ?_
      ·
       rcases bft (decide ((a4.length : Int) > (0 : Int))) with hb197 | hb197
       ·
        rw [if_pos hb197]
        rw [hb197] at zd196
        try rw [hb197]
        have K201 := Kx57.st (tr5 p72 p75 p77 p84 p154) rfl
        have A202 := A4_0.kp K201
        refine mg fun hg203 => ?_
        obtain ⟨ad203, es203, he203, ce203, ia203⟩ := ix_e A202 rfl hg203.1 hg203.2
        obtain ⟨v203_0, v203_1, rfl, A203_0, A203_1⟩ := op48 he203
        refine Xm 27 [] tb77 ((((zd196.add 23 98 (.agg #[(iI (((at_ ((at_ a0.Nodes a2).Entries) x57).Key).Kind)), (iI (((at_ ((at_ a0.Nodes a2).Entries) x57).Key).N)), v69_0, v69_1, (iI ((at_ ((at_ a0.Nodes a2).Entries) x57).Id))]) rfl).add 24 99 w4_0 rfl).add 25 100 (.pointer (some ad203)) rfl).add 26 101 (.agg #[(iI (((at_ a4 (0 : Int)).Key).Kind)), (iI (((at_ a4 (0 : Int)).Key).N)), v203_0, v203_1, (iI ((at_ a4 (0 : Int)).Id))]) rfl) (Xa (lca_q' ce203 u48 z48 rfl) rfl (Xa (Yg A202 u52 z48 hg203.1 hg203.2 ia203 rfl) rfl (Xa (Xq w4_0 rfl) rfl (Xa (Xp (es := [(iI (((at_ ((at_ a0.Nodes a2).Entries) x57).Key).Kind)), (iI (((at_ ((at_ a0.Nodes a2).Entries) x57).Key).N)), v69_0, v69_1, (iI ((at_ ((at_ a0.Nodes a2).Entries) x57).Id))]) (B75.st (Ye p77 p84 p154) rfl) u48 z48 rfl) rfl (Xa (Xc rfl) rfl (Xa (qv_b (Xc rfl) hb197) rfl (Xa (ln_q' A202 u52 rfl) rfl (Xa (Xq w4_0 rfl) rfl (Xa (Xc rfl) rfl (Xa (Xc rfl) rfl (Xa (Xc rfl) rfl (Xa (qv_b (Xc rfl) hb160) rfl Xe)))))))))))) (by kernel_rfl) rfl (fun l208 e208 zd208 => ?_)
        have A210 := A152.st p154 rfl
        refine clV 45 rfl func42 rfl (spec_l11less.calls (Entry.mk ((at_ ((at_ a0.Nodes a2).Entries) x57).Key) ((at_ ((at_ a0.Nodes a2).Entries) x57).Id)) (Entry.mk ((at_ a4 (0 : Int)).Key) ((at_ a4 (0 : Int)).Id)) s154.w (mm [0] s154) v69_0 v69_1 v203_0 v203_1 ((Xk (s := s154) A69_0).sub (D := [0]) rfl) A210 ((Xk (s := s154) A203_0).sub (D := [0]) rfl) A203_1) (fun r211 s212 p212 n212 => ?_)
        refine Xh (L' := []) (D' := [15, 16, 17, 19, 20, 21, 18, 18, 24, 25, 23, 26, 22, 22, 27, 2, 4, 5, 3, 3, 7, 9, 8, 10, 11, 12, 13, 6, 6, 14, 0, 1]) zd208 rfl (fun zd213 => ?_)
        have zd216 := ((zd213.add 28 103 (.bool r211) rfl).add 29 104 (.bool r211) rfl).add 30 105 (.bool r211) rfl
        refine ji [] (fun (y217 : Bool × Bool × Bool) e w => ∃ (s : St) (e0 : Env), w = s.w ∧ e = upd (upd (upd (upd (upd (upd (upd (upd (upd (upd (upd (upd (upd (upd (upd (upd (upd (upd (upd (upd (upd (upd (upd (upd (upd (upd (upd (upd (upd (upd (upd e0 1 (pB p1)) 3 (iI a3)) 4 w4_0) 5 w5_0) 6 (pB b7)) 12 (pB b43)) 13 (iI x57)) 79 (iI x57)) 80 (.bool true)) 81 (.bool true)) 82 (pO b43 1)) 83 v39_0) 84 (iI x57)) 85 (iI (IntKind.wrap .i64 (x57 - (1 : Int))))) 86 (.pointer (some ad142))) 87 (.agg #[(iI (((at_ ((at_ a0.Nodes a2).Entries) (IntKind.wrap .i64 (x57 - (1 : Int)))).Key).Kind)), (iI (((at_ ((at_ a0.Nodes a2).Entries) (IntKind.wrap .i64 (x57 - (1 : Int)))).Key).N)), v142_0, v142_1, (iI ((at_ ((at_ a0.Nodes a2).Entries) (IntKind.wrap .i64 (x57 - (1 : Int)))).Id))])) 88 (.agg #[(iI (((at_ ((at_ a0.Nodes a2).Entries) x57).Key).Kind)), (iI (((at_ ((at_ a0.Nodes a2).Entries) x57).Key).N)), v69_0, v69_1, (iI ((at_ ((at_ a0.Nodes a2).Entries) x57).Id))])) 89 (.bool r153)) 90 (.bool false)) 91 (.bool false)) 94 w4_0) 95 (iI (a4.length : Int))) 96 (.bool true)) 97 (.bool true)) 98 (.agg #[(iI (((at_ ((at_ a0.Nodes a2).Entries) x57).Key).Kind)), (iI (((at_ ((at_ a0.Nodes a2).Entries) x57).Key).N)), v69_0, v69_1, (iI ((at_ ((at_ a0.Nodes a2).Entries) x57).Id))])) 99 w4_0) 100 (.pointer (some ad203))) 101 (.agg #[(iI (((at_ a4 (0 : Int)).Key).Kind)), (iI (((at_ a4 (0 : Int)).Key).N)), v203_0, v203_1, (iI ((at_ a4 (0 : Int)).Id))])) 102 (.bool y217.1)) 103 (.bool y217.2.1)) 117 (.bool y217.2.2) ∧ Kp s0 s ∧ BlF s p1 84 [w1_0, (iI a1.deep), (.bool a1.wrong), w1_1] 2 ∧ BlF s b43 61 [(.bool ((at_ a0.Nodes a2).Leaf)), v39_0, v39_1] 41 ∧ BlF s b7 33 [w0_0, (iI a0.Root)] 40 ∧ RdF Yn s [v39_0] ((at_ a0.Nodes a2).Entries) [0] ∧ RdF Ym s [v142_1] (((at_ ((at_ a0.Nodes a2).Entries) (IntKind.wrap .i64 (x57 - (1 : Int)))).Key).T) [0] ∧ RdF Ym s [v69_1] (((at_ ((at_ a0.Nodes a2).Entries) x57).Key).T) [0] ∧ RdF Ym s [v203_1] (((at_ a4 (0 : Int)).Key).T) [0] ∧ OwF (Kd.sl 4 Kd.bool) s [w1_0] (a1.seen.set (a2).toNat true) 3 ∧ RwF 48 kd48 s w1_1 a1.all 4 [0] ∧ RdF Yo s [v39_1] ((at_ a0.Nodes a2).Kids) [0]) (fun Gj217 Kj217 => ?_) ?_
        ·
         rcases bft r211 with hb217 | hb217
         ·
          rw [if_pos hb217]
          rw [hb217] at zd216
          try rw [hb217]
          refine Xu [39, 40, 41, 42] tb77 ((((((((zd216.add 31 106 undef rfl).add 32 107 undef rfl).add 33 108 undef rfl).add 34 109 undef rfl).add 35 110 undef rfl).add 36 111 undef rfl).add 37 112 undef rfl).add 38 113 undef rfl) (Xa (Xi rfl) rfl (Xa (Xi rfl) rfl (Xa (Xi rfl) rfl (Xa (Xi rfl) rfl (Xa (Xi rfl) rfl (Xa (Xi rfl) rfl (Xa (Xi rfl) rfl (Xa (Xi rfl) rfl (Xa (Xc rfl) rfl (Xa (Xc rfl) rfl (Xa (Xc rfl) rfl Xe))))))))))) (by kernel_rfl) (by decide) (Xr rfl (Xr rfl (Xr rfl (Xb rfl ?_))))
          exact Kj217 _ _ _ ⟨s212, _, rfl, (ue (ue (ue (ue (ue (ue (ue (ue (ue (ue (ue (ue (ue (ue (ue (ue (ue (ue (ue (ue (ue (ue (ue (ue (ue (ue (ue (ue (ue (ue (ue rfl rfl) rfl) rfl) rfl) rfl) rfl) rfl) rfl) rfl) rfl) rfl) rfl) rfl) rfl) rfl) rfl) rfl) rfl) rfl) rfl) rfl) rfl) rfl) rfl) rfl) rfl) rfl) rfl) rfl) rfl) rfl), (K201.st p212 rfl), (Bx57_p1.st (tr6 p72 p75 p77 p84 p154 p212) rfl), (Bx57_b43.st (tr6 p72 p75 p77 p84 p154 p212) rfl), (Bx57_b7.st (tr6 p72 p75 p77 p84 p154 p212) rfl), (A141.st (Xo p154 p212) rfl), (A142_1.st (Xo p154 p212) rfl), (A210.st p212 rfl), (A203_1.st p212 rfl), (Cx57_35.st (tr6 p72 p75 p77 p84 p154 p212) rfl), (Cx57_3.st (tr6 p72 p75 p77 p84 p154 p212) rfl rfl), (Cx57_41.st (tr6 p72 p75 p77 p84 p154 p212) rfl)⟩
         rw [if_neg (by rw [hb217]; decide)]
         rw [hb217] at zd216
         try rw [hb217]
         have zd242 := (((zd216.add 31 106 w5_0 rfl).add 32 107 (iI (a5.length : Int)) rfl).add 33 108 (.bool (decide ((a5.length : Int) > (0 : Int)))) rfl).add 34 109 (.bool (decide ((a5.length : Int) > (0 : Int)))) rfl
         refine ji [42] (fun (y243 : Bool × Bool × Bool) e w => ∃ (s : St) (e0 : Env), w = s.w ∧ e = upd (upd (upd (upd (upd (upd (upd (upd (upd (upd (upd (upd (upd (upd (upd (upd (upd (upd (upd (upd (upd (upd (upd (upd (upd (upd (upd (upd (upd (upd (upd (upd (upd (upd (upd (upd e0 1 (pB p1)) 3 (iI a3)) 4 w4_0) 5 w5_0) 6 (pB b7)) 12 (pB b43)) 13 (iI x57)) 79 (iI x57)) 80 (.bool true)) 81 (.bool true)) 82 (pO b43 1)) 83 v39_0) 84 (iI x57)) 85 (iI (IntKind.wrap .i64 (x57 - (1 : Int))))) 86 (.pointer (some ad142))) 87 (.agg #[(iI (((at_ ((at_ a0.Nodes a2).Entries) (IntKind.wrap .i64 (x57 - (1 : Int)))).Key).Kind)), (iI (((at_ ((at_ a0.Nodes a2).Entries) (IntKind.wrap .i64 (x57 - (1 : Int)))).Key).N)), v142_0, v142_1, (iI ((at_ ((at_ a0.Nodes a2).Entries) (IntKind.wrap .i64 (x57 - (1 : Int)))).Id))])) 88 (.agg #[(iI (((at_ ((at_ a0.Nodes a2).Entries) x57).Key).Kind)), (iI (((at_ ((at_ a0.Nodes a2).Entries) x57).Key).N)), v69_0, v69_1, (iI ((at_ ((at_ a0.Nodes a2).Entries) x57).Id))])) 89 (.bool r153)) 90 (.bool false)) 91 (.bool false)) 94 w4_0) 95 (iI (a4.length : Int))) 96 (.bool true)) 97 (.bool true)) 98 (.agg #[(iI (((at_ ((at_ a0.Nodes a2).Entries) x57).Key).Kind)), (iI (((at_ ((at_ a0.Nodes a2).Entries) x57).Key).N)), v69_0, v69_1, (iI ((at_ ((at_ a0.Nodes a2).Entries) x57).Id))])) 99 w4_0) 100 (.pointer (some ad203))) 101 (.agg #[(iI (((at_ a4 (0 : Int)).Key).Kind)), (iI (((at_ a4 (0 : Int)).Key).N)), v203_0, v203_1, (iI ((at_ a4 (0 : Int)).Id))])) 102 (.bool false)) 103 (.bool false)) 105 (.bool false)) 106 w5_0) 107 (iI (a5.length : Int))) 108 (.bool y243.1)) 109 (.bool y243.2.1)) 116 (.bool y243.2.2) ∧ Kp s0 s ∧ BlF s p1 84 [w1_0, (iI a1.deep), (.bool a1.wrong), w1_1] 2 ∧ BlF s b43 61 [(.bool ((at_ a0.Nodes a2).Leaf)), v39_0, v39_1] 41 ∧ BlF s b7 33 [w0_0, (iI a0.Root)] 40 ∧ RdF Yn s [v39_0] ((at_ a0.Nodes a2).Entries) [0] ∧ RdF Ym s [v142_1] (((at_ ((at_ a0.Nodes a2).Entries) (IntKind.wrap .i64 (x57 - (1 : Int)))).Key).T) [0] ∧ RdF Ym s [v69_1] (((at_ ((at_ a0.Nodes a2).Entries) x57).Key).T) [0] ∧ RdF Ym s [v203_1] (((at_ a4 (0 : Int)).Key).T) [0] ∧ OwF (Kd.sl 4 Kd.bool) s [w1_0] (a1.seen.set (a2).toNat true) 3 ∧ RwF 48 kd48 s w1_1 a1.all 4 [0] ∧ RdF Yo s [v39_1] ((at_ a0.Nodes a2).Kids) [0]) (fun Gj243 Kj243 => ?_) ?_
         ·
          rcases bft (decide ((a5.length : Int) > (0 : Int))) with hb243 | hb243
          ·
           rw [if_pos hb243]
           rw [hb243] at zd242
           try rw [hb243]
           have K247 := K201.st p212 rfl
           have A248 := A5_0.kp K247
           refine mg fun hg249 => ?_
           obtain ⟨ad249, es249, he249, ce249, ia249⟩ := ix_e A248 rfl hg249.1 hg249.2
           obtain ⟨v249_0, v249_1, rfl, A249_0, A249_1⟩ := op48 he249
           refine Xu [39, 40, 41, 42] tb77 ((((zd242.add 35 110 (.agg #[(iI (((at_ ((at_ a0.Nodes a2).Entries) x57).Key).Kind)), (iI (((at_ ((at_ a0.Nodes a2).Entries) x57).Key).N)), v69_0, v69_1, (iI ((at_ ((at_ a0.Nodes a2).Entries) x57).Id))]) rfl).add 36 111 w5_0 rfl).add 37 112 (.pointer (some ad249)) rfl).add 38 113 (.agg #[(iI (((at_ a5 (0 : Int)).Key).Kind)), (iI (((at_ a5 (0 : Int)).Key).N)), v249_0, v249_1, (iI ((at_ a5 (0 : Int)).Id))]) rfl) (Xa (lca_q' ce249 u48 z48 rfl) rfl (Xa (Yg A248 u52 z48 hg249.1 hg249.2 ia249 rfl) rfl (Xa (Xq w5_0 rfl) rfl (Xa (Xp (es := [(iI (((at_ ((at_ a0.Nodes a2).Entries) x57).Key).Kind)), (iI (((at_ ((at_ a0.Nodes a2).Entries) x57).Key).N)), v69_0, v69_1, (iI ((at_ ((at_ a0.Nodes a2).Entries) x57).Id))]) (B75.st (Yf p77 p84 p154 p212) rfl) u48 z48 rfl) rfl (Xa (Xc rfl) rfl (Xa (qv_b (Xc rfl) hb243) rfl (Xa (ln_q' A248 u52 rfl) rfl (Xa (Xq w5_0 rfl) rfl (Xa (Xc rfl) rfl (Xa (Xc rfl) rfl (Xa (Xc rfl) rfl Xe))))))))))) (by kernel_rfl) (by decide) ?_
           have A255 := A210.st p212 rfl
           refine clV 46 rfl func42 rfl (spec_l11less.calls (Entry.mk ((at_ ((at_ a0.Nodes a2).Entries) x57).Key) ((at_ ((at_ a0.Nodes a2).Entries) x57).Id)) (Entry.mk ((at_ a5 (0 : Int)).Key) ((at_ a5 (0 : Int)).Id)) s212.w (mm [0] s212) v69_0 v69_1 v249_0 v249_1 ((Xk (s := s212) A69_0).sub (D := [0]) rfl) A255 ((Xk (s := s212) A249_0).sub (D := [0]) rfl) A249_1) (fun r256 s257 p257 n257 => ?_)
           refine Xb rfl (Xb rfl ?_)
           exact Kj243 _ _ _ ⟨s257, _, rfl, (ue (ue (ue (ue (ue (ue (ue (ue (ue (ue (ue (ue (ue (ue (ue (ue (ue (ue (ue (ue (ue (ue (ue (ue (ue (ue (ue (ue (ue (ue (ue (ue (ue (ue (ue (ue rfl rfl) rfl) rfl) rfl) rfl) rfl) rfl) rfl) rfl) rfl) rfl) rfl) rfl) rfl) rfl) rfl) rfl) rfl) rfl) rfl) rfl) rfl) rfl) rfl) rfl) rfl) rfl) rfl) rfl) rfl) rfl) rfl) rfl) rfl) rfl) rfl), (K247.st p257 rfl), (Bx57_p1.st (tr7 p72 p75 p77 p84 p154 p212 p257) rfl), (Bx57_b43.st (tr7 p72 p75 p77 p84 p154 p212 p257) rfl), (Bx57_b7.st (tr7 p72 p75 p77 p84 p154 p212 p257) rfl), (A141.st (Ye p154 p212 p257) rfl), (A142_1.st (Ye p154 p212 p257) rfl), (A255.st p257 rfl), (A203_1.st (Xo p212 p257) rfl), (Cx57_35.st (tr7 p72 p75 p77 p84 p154 p212 p257) rfl), (Cx57_3.st (tr7 p72 p75 p77 p84 p154 p212 p257) rfl rfl), (Cx57_41.st (tr7 p72 p75 p77 p84 p154 p212 p257) rfl)⟩
          rw [if_neg (by rw [hb243]; decide)]
          rw [hb243] at zd242
          try rw [hb243]
          refine Xu [39, 40, 41, 42] tb77 ((((zd242.add 35 110 undef rfl).add 36 111 undef rfl).add 37 112 undef rfl).add 38 113 undef rfl) (Xa (Xi rfl) rfl (Xa (Xi rfl) rfl (Xa (Xi rfl) rfl (Xa (Xi rfl) rfl (Xa (Xc rfl) rfl (Xa (qv_b (Xc rfl) hb243) rfl (Xa (ln_q' (A5_0.kp (K201.st p212 rfl)) u52 rfl) rfl (Xa (Xq w5_0 rfl) rfl (Xa (Xc rfl) rfl (Xa (Xc rfl) rfl (Xa (Xc rfl) rfl Xe))))))))))) (by kernel_rfl) (by decide) (Xr rfl (Xr rfl (Xb rfl ?_)))
          exact Kj243 _ _ _ ⟨s212, _, rfl, (ue (ue (ue (ue (ue (ue (ue (ue (ue (ue (ue (ue (ue (ue (ue (ue (ue (ue (ue (ue (ue (ue (ue (ue (ue (ue (ue (ue (ue (ue (ue (ue (ue (ue (ue (ue rfl rfl) rfl) rfl) rfl) rfl) rfl) rfl) rfl) rfl) rfl) rfl) rfl) rfl) rfl) rfl) rfl) rfl) rfl) rfl) rfl) rfl) rfl) rfl) rfl) rfl) rfl) rfl) rfl) rfl) rfl) rfl) rfl) rfl) rfl) rfl) rfl), (K201.st p212 rfl), (Bx57_p1.st (tr6 p72 p75 p77 p84 p154 p212) rfl), (Bx57_b43.st (tr6 p72 p75 p77 p84 p154 p212) rfl), (Bx57_b7.st (tr6 p72 p75 p77 p84 p154 p212) rfl), (A141.st (Xo p154 p212) rfl), (A142_1.st (Xo p154 p212) rfl), (A210.st p212 rfl), (A203_1.st p212 rfl), (Cx57_35.st (tr6 p72 p75 p77 p84 p154 p212) rfl), (Cx57_3.st (tr6 p72 p75 p77 p84 p154 p212) rfl rfl), (Cx57_41.st (tr6 p72 p75 p77 p84 p154 p212) rfl)⟩
         rintro y243 _ _ ⟨s286, _, rfl, rfl, Ky243, By243_p1, By243_b43, By243_b7, Cy243_40, Cy243_143, Cy243_70, Cy243_204, Cy243_35, Cy243_3, Cy243_41⟩
         exact Xb rfl (Kj217 _ _ _ ⟨s286, _, rfl, (ue (ue (ue (ue (ue (ue (ue (ue (ue (ue (ue (ue (ue (ue (ue (ue (ue (ue (ue (ue (ue (ue (ue (ue (ue (ue (ue (ue (ue (ue (ue rfl rfl) rfl) rfl) rfl) rfl) rfl) rfl) rfl) rfl) rfl) rfl) rfl) rfl) rfl) rfl) rfl) rfl) rfl) rfl) rfl) rfl) rfl) rfl) rfl) rfl) rfl) rfl) rfl) rfl) rfl) rfl), Ky243, By243_p1, By243_b43, By243_b7, Cy243_40, Cy243_143, Cy243_70, Cy243_204, Cy243_35, Cy243_3, Cy243_41⟩)
        rintro y217 _ _ ⟨s290, _, rfl, rfl, Ky217, By217_p1, By217_b43, By217_b7, Cy217_40, Cy217_143, Cy217_70, Cy217_204, Cy217_35, Cy217_3, Cy217_41⟩
        exact Kj197 _ _ _ ⟨s290, _, rfl, (ue (ue (ue (ue (ue (ue (ue (ue (ue (ue (ue (ue (ue (ue (ue (ue (ue (ue (ue (ue (ue (ue (ue (ue (ue (ue rfl rfl) rfl) rfl) rfl) rfl) rfl) rfl) rfl) rfl) rfl) rfl) rfl) rfl) rfl) rfl) rfl) rfl) rfl) rfl) rfl) rfl) rfl) rfl) rfl) rfl) rfl), Ky217, By217_p1, By217_b43, By217_b7, Cy217_40, Cy217_143, Cy217_70, Cy217_35, Cy217_3, Cy217_41⟩
       rw [if_neg (by rw [hb197]; decide)]
       rw [hb197] at zd196
       try rw [hb197]
       have zd307 := (((((((((((zd196.add 23 98 undef rfl).add 24 99 undef rfl).add 25 100 undef rfl).add 26 101 undef rfl).add 27 102 undef rfl).add 28 103 (.bool false) rfl).add 29 104 (.bool false) rfl).add 30 105 (.bool false) rfl).add 31 106 w5_0 rfl).add 32 107 (iI (a5.length : Int)) rfl).add 33 108 (.bool (decide ((a5.length : Int) > (0 : Int)))) rfl).add 34 109 (.bool (decide ((a5.length : Int) > (0 : Int)))) rfl
       refine ji [42] (fun (y308 : Bool × Bool × Bool) e w => ∃ (s : St) (e0 : Env), w = s.w ∧ e = upd (upd (upd (upd (upd (upd (upd (upd (upd (upd (upd (upd (upd (upd (upd (upd (upd (upd (upd (upd (upd (upd (upd (upd (upd (upd (upd (upd (upd (upd (upd e0 1 (pB p1)) 3 (iI a3)) 4 w4_0) 5 w5_0) 6 (pB b7)) 12 (pB b43)) 13 (iI x57)) 79 (iI x57)) 80 (.bool true)) 81 (.bool true)) 82 (pO b43 1)) 83 v39_0) 84 (iI x57)) 85 (iI (IntKind.wrap .i64 (x57 - (1 : Int))))) 86 (.pointer (some ad142))) 87 (.agg #[(iI (((at_ ((at_ a0.Nodes a2).Entries) (IntKind.wrap .i64 (x57 - (1 : Int)))).Key).Kind)), (iI (((at_ ((at_ a0.Nodes a2).Entries) (IntKind.wrap .i64 (x57 - (1 : Int)))).Key).N)), v142_0, v142_1, (iI ((at_ ((at_ a0.Nodes a2).Entries) (IntKind.wrap .i64 (x57 - (1 : Int)))).Id))])) 88 (.agg #[(iI (((at_ ((at_ a0.Nodes a2).Entries) x57).Key).Kind)), (iI (((at_ ((at_ a0.Nodes a2).Entries) x57).Key).N)), v69_0, v69_1, (iI ((at_ ((at_ a0.Nodes a2).Entries) x57).Id))])) 89 (.bool r153)) 90 (.bool false)) 91 (.bool false)) 94 w4_0) 95 (iI (a4.length : Int))) 96 (.bool false)) 97 (.bool false)) 103 (.bool false)) 105 (.bool false)) 106 w5_0) 107 (iI (a5.length : Int))) 108 (.bool y308.1)) 109 (.bool y308.2.1)) 116 (.bool y308.2.2) ∧ Kp s0 s ∧ BlF s p1 84 [w1_0, (iI a1.deep), (.bool a1.wrong), w1_1] 2 ∧ BlF s b43 61 [(.bool ((at_ a0.Nodes a2).Leaf)), v39_0, v39_1] 41 ∧ BlF s b7 33 [w0_0, (iI a0.Root)] 40 ∧ RdF Yn s [v39_0] ((at_ a0.Nodes a2).Entries) [0] ∧ RdF Ym s [v142_1] (((at_ ((at_ a0.Nodes a2).Entries) (IntKind.wrap .i64 (x57 - (1 : Int)))).Key).T) [0] ∧ RdF Ym s [v69_1] (((at_ ((at_ a0.Nodes a2).Entries) x57).Key).T) [0] ∧ OwF (Kd.sl 4 Kd.bool) s [w1_0] (a1.seen.set (a2).toNat true) 3 ∧ RwF 48 kd48 s w1_1 a1.all 4 [0] ∧ RdF Yo s [v39_1] ((at_ a0.Nodes a2).Kids) [0]) (fun Gj308 Kj308 => ?_) ?_
       ·
        rcases bft (decide ((a5.length : Int) > (0 : Int))) with hb308 | hb308
        ·
         rw [if_pos hb308]
         rw [hb308] at zd307
         try rw [hb308]
         have zd310 := zd307.add 35 110 (.agg #[(iI (((at_ ((at_ a0.Nodes a2).Entries) x57).Key).Kind)), (iI (((at_ ((at_ a0.Nodes a2).Entries) x57).Key).N)), v69_0, v69_1, (iI ((at_ ((at_ a0.Nodes a2).Entries) x57).Id))]) rfl
         have K312 := Kx57.st (tr5 p72 p75 p77 p84 p154) rfl
         have A313 := A5_0.kp K312
         refine mg fun hg314 => ?_
         obtain ⟨ad314, es314, he314, ce314, ia314⟩ := ix_e A313 rfl hg314.1 hg314.2
         obtain ⟨v314_0, v314_1, rfl, A314_0, A314_1⟩ := op48 he314
         refine Xu [39, 40, 41, 42] tb77 (((zd310.add 36 111 w5_0 rfl).add 37 112 (.pointer (some ad314)) rfl).add 38 113 (.agg #[(iI (((at_ a5 (0 : Int)).Key).Kind)), (iI (((at_ a5 (0 : Int)).Key).N)), v314_0, v314_1, (iI ((at_ a5 (0 : Int)).Id))]) rfl) (Xa (lca_q' ce314 u48 z48 rfl) rfl (Xa (Yg A313 u52 z48 hg314.1 hg314.2 ia314 rfl) rfl (Xa (Xq w5_0 rfl) rfl (Xa (Xp (es := [(iI (((at_ ((at_ a0.Nodes a2).Entries) x57).Key).Kind)), (iI (((at_ ((at_ a0.Nodes a2).Entries) x57).Key).N)), v69_0, v69_1, (iI ((at_ ((at_ a0.Nodes a2).Entries) x57).Id))]) (B75.st (Ye p77 p84 p154) rfl) u48 z48 rfl) rfl (Xa (Xc rfl) rfl (Xa (qv_b (Xc rfl) hb308) rfl (Xa (ln_q' A313 u52 rfl) rfl (Xa (Xq w5_0 rfl) rfl (Xa (Xc rfl) rfl (Xa (Xc rfl) rfl (Xa (Xc rfl) rfl (Xa (Xi rfl) rfl (Xa (Xi rfl) rfl (Xa (Xi rfl) rfl (Xa (Xi rfl) rfl (Xa (Xi rfl) rfl (Xa (Xc rfl) rfl (Xa (qv_b (Xc rfl) hb197) rfl (Xa (ln_q' (A4_0.kp K312) u52 rfl) rfl (Xa (Xq w4_0 rfl) rfl (Xa (Xc rfl) rfl (Xa (Xc rfl) rfl (Xa (Xc rfl) rfl (Xa (qv_b (Xc rfl) hb160) rfl Xe)))))))))))))))))))))))) (by kernel_rfl) (by decide) ?_
         have A321 := A152.st p154 rfl
         refine clV 47 rfl func42 rfl (spec_l11less.calls (Entry.mk ((at_ ((at_ a0.Nodes a2).Entries) x57).Key) ((at_ ((at_ a0.Nodes a2).Entries) x57).Id)) (Entry.mk ((at_ a5 (0 : Int)).Key) ((at_ a5 (0 : Int)).Id)) s154.w (mm [0] s154) v69_0 v69_1 v314_0 v314_1 ((Xk (s := s154) A69_0).sub (D := [0]) rfl) A321 ((Xk (s := s154) A314_0).sub (D := [0]) rfl) A314_1) (fun r322 s323 p323 n323 => ?_)
         refine Xb rfl (Xb rfl ?_)
         exact Kj308 _ _ _ ⟨s323, _, rfl, (ue (ue (ue (ue (ue (ue (ue (ue (ue (ue (ue (ue (ue (ue (ue (ue (ue (ue (ue (ue (ue (ue (ue (ue (ue (ue (ue (ue (ue (ue (ue rfl rfl) rfl) rfl) rfl) rfl) rfl) rfl) rfl) rfl) rfl) rfl) rfl) rfl) rfl) rfl) rfl) rfl) rfl) rfl) rfl) rfl) rfl) rfl) rfl) rfl) rfl) rfl) rfl) rfl) rfl) rfl), (K312.st p323 rfl), (Bx57_p1.st (tr6 p72 p75 p77 p84 p154 p323) rfl), (Bx57_b43.st (tr6 p72 p75 p77 p84 p154 p323) rfl), (Bx57_b7.st (tr6 p72 p75 p77 p84 p154 p323) rfl), (A141.st (Xo p154 p323) rfl), (A142_1.st (Xo p154 p323) rfl), (A321.st p323 rfl), (Cx57_35.st (tr6 p72 p75 p77 p84 p154 p323) rfl), (Cx57_3.st (tr6 p72 p75 p77 p84 p154 p323) rfl rfl), (Cx57_41.st (tr6 p72 p75 p77 p84 p154 p323) rfl)⟩
        rw [if_neg (by rw [hb308]; decide)]
        rw [hb308] at zd307
        try rw [hb308]
        refine Xu [39, 40, 41, 42] tb77 ((((zd307.add 35 110 undef rfl).add 36 111 undef rfl).add 37 112 undef rfl).add 38 113 undef rfl) (Xa (Xi rfl) rfl (Xa (Xi rfl) rfl (Xa (Xi rfl) rfl (Xa (Xi rfl) rfl (Xa (Xc rfl) rfl (Xa (qv_b (Xc rfl) hb308) rfl (Xa (ln_q' (A5_0.kp (Kx57.st (tr5 p72 p75 p77 p84 p154) rfl)) u52 rfl) rfl (Xa (Xq w5_0 rfl) rfl (Xa (Xc rfl) rfl (Xa (Xc rfl) rfl (Xa (Xc rfl) rfl (Xa (Xi rfl) rfl (Xa (Xi rfl) rfl (Xa (Xi rfl) rfl (Xa (Xi rfl) rfl (Xa (Xi rfl) rfl (Xa (Xc rfl) rfl (Xa (qv_b (Xc rfl) hb197) rfl (Xa (ln_q' (A4_0.kp (Kx57.st (tr5 p72 p75 p77 p84 p154) rfl)) u52 rfl) rfl (Xa (Xq w4_0 rfl) rfl (Xa (Xc rfl) rfl (Xa (Xc rfl) rfl (Xa (Xc rfl) rfl (Xa (qv_b (Xc rfl) hb160) rfl Xe)))))))))))))))))))))))) (by kernel_rfl) (by decide) (Xr rfl (Xr rfl (Xb rfl ?_)))
        exact Kj308 _ _ _ ⟨s154, _, rfl, (ue (ue (ue (ue (ue (ue (ue (ue (ue (ue (ue (ue (ue (ue (ue (ue (ue (ue (ue (ue (ue (ue (ue (ue (ue (ue (ue (ue (ue (ue (ue rfl rfl) rfl) rfl) rfl) rfl) rfl) rfl) rfl) rfl) rfl) rfl) rfl) rfl) rfl) rfl) rfl) rfl) rfl) rfl) rfl) rfl) rfl) rfl) rfl) rfl) rfl) rfl) rfl) rfl) rfl) rfl), (Kx57.st (tr5 p72 p75 p77 p84 p154) rfl), (Bx57_p1.st (tr5 p72 p75 p77 p84 p154) rfl), (Bx57_b43.st (tr5 p72 p75 p77 p84 p154) rfl), (Bx57_b7.st (tr5 p72 p75 p77 p84 p154) rfl), (A141.st p154 rfl), (A142_1.st p154 rfl), (A152.st p154 rfl), (Cx57_35.st (tr5 p72 p75 p77 p84 p154) rfl), (Cx57_3.st (tr5 p72 p75 p77 p84 p154) rfl rfl), (Cx57_41.st (tr5 p72 p75 p77 p84 p154) rfl)⟩
       rintro y308 _ _ ⟨s352, _, rfl, rfl, Ky308, By308_p1, By308_b43, By308_b7, Cy308_40, Cy308_143, Cy308_70, Cy308_35, Cy308_3, Cy308_41⟩
       exact Xb rfl (Kj197 _ _ _ ⟨s352, _, rfl, (ue (ue (ue (ue (ue (ue (ue (ue (ue (ue (ue (ue (ue (ue (ue (ue (ue (ue (ue (ue (ue (ue (ue (ue (ue (ue rfl rfl) rfl) rfl) rfl) rfl) rfl) rfl) rfl) rfl) rfl) rfl) rfl) rfl) rfl) rfl) rfl) rfl) rfl) rfl) rfl) rfl) rfl) rfl) rfl) rfl) rfl), Ky308, By308_p1, By308_b43, By308_b7, Cy308_40, Cy308_143, Cy308_70, Cy308_35, Cy308_3, Cy308_41⟩)
      rintro y197 _ _ ⟨s356, _, rfl, rfl, Ky197, By197_p1, By197_b43, By197_b7, Cy197_40, Cy197_143, Cy197_70, Cy197_35, Cy197_3, Cy197_41⟩
      exact Kj160 _ _ _ ⟨s356, _, rfl, (ue (ue (ue (ue (ue (ue (ue (ue (ue (ue (ue (ue (ue (ue (ue (ue (ue (ue (ue (ue (ue rfl rfl) rfl) rfl) rfl) rfl) rfl) rfl) rfl) rfl) rfl) rfl) rfl) rfl) rfl) rfl) rfl) rfl) rfl) rfl) rfl) rfl), Ky197, By197_p1, By197_b43, By197_b7, Cy197_40, Cy197_143, Cy197_70, Cy197_35, Cy197_3, Cy197_41⟩
     rintro y160 _ _ ⟨s360, _, rfl, rfl, Ky160, By160_p1, By160_b43, By160_b7, Cy160_40, Cy160_143, Cy160_70, Cy160_35, Cy160_3, Cy160_41⟩
     exact Kj135 _ _ _ ⟨s360, _, rfl, (ue (ue (ue (ue (ue (ue (ue (ue (ue (ue (ue (ue rfl rfl) rfl) rfl) rfl) rfl) rfl) rfl) rfl) rfl) rfl) rfl) rfl), Ky160, By160_p1, By160_b43, By160_b7, Cy160_35, Cy160_3, Cy160_40, Cy160_41⟩
    rw [if_neg (by rw [hb135]; decide)]
    rw [hb135] at zd134
    try rw [hb135]
    have zd381 := (((((((((((((((zd134.add 7 82 undef rfl).add 8 83 undef rfl).add 9 84 undef rfl).add 10 85 undef rfl).add 11 86 undef rfl).add 12 87 undef rfl).add 13 88 undef rfl).add 14 89 undef rfl).add 15 90 undef rfl).add 16 91 (.bool false) rfl).add 17 92 (.bool false) rfl).add 18 93 (.bool false) rfl).add 19 94 w4_0 rfl).add 20 95 (iI (a4.length : Int)) rfl).add 21 96 (.bool (decide ((a4.length : Int) > (0 : Int)))) rfl).add 22 97 (.bool (decide ((a4.length : Int) > (0 : Int)))) rfl
    refine ji [] (fun (y382 : Bool × Bool × Bool × Bool) e w => ∃ (s : St) (e0 : Env), w = s.w ∧ e = upd (upd (upd (upd (upd (upd (upd (upd (upd (upd (upd (upd (upd (upd (upd (upd (upd e0 1 (pB p1)) 3 (iI a3)) 4 w4_0) 5 w5_0) 6 (pB b7)) 12 (pB b43)) 13 (iI x57)) 79 (iI x57)) 80 (.bool false)) 81 (.bool false)) 91 (.bool false)) 94 w4_0) 95 (iI (a4.length : Int))) 96 (.bool y382.1)) 97 (.bool y382.2.1)) 103 (.bool y382.2.2.1)) 117 (.bool y382.2.2.2) ∧ Kp s0 s ∧ BlF s p1 84 [w1_0, (iI a1.deep), (.bool a1.wrong), w1_1] 2 ∧ BlF s b43 61 [(.bool ((at_ a0.Nodes a2).Leaf)), v39_0, v39_1] 41 ∧ BlF s b7 33 [w0_0, (iI a0.Root)] 40 ∧ OwF (Kd.sl 4 Kd.bool) s [w1_0] (a1.seen.set (a2).toNat true) 3 ∧ RwF 48 kd48 s w1_1 a1.all 4 [0] ∧ RdF Yn s [v39_0] ((at_ a0.Nodes a2).Entries) [0] ∧ RdF Yo s [v39_1] ((at_ a0.Nodes a2).Kids) [0]) (fun Gj382 Kj382 => ?_) ?_
    ·
     rcases bft (decide ((a4.length : Int) > (0 : Int))) with hb382 | hb382
     ·
      rw [if_pos hb382]
      rw [hb382] at zd381
      try rw [hb382]
      have zd384 := zd381.add 23 98 (.agg #[(iI (((at_ ((at_ a0.Nodes a2).Entries) x57).Key).Kind)), (iI (((at_ ((at_ a0.Nodes a2).Entries) x57).Key).N)), v69_0, v69_1, (iI ((at_ ((at_ a0.Nodes a2).Entries) x57).Id))]) rfl
      have K386 := Kx57.st (Yf p72 p75 p77 p84) rfl
      have A387 := A4_0.kp K386
      refine mg fun hg388 => ?_
      obtain ⟨ad388, es388, he388, ce388, ia388⟩ := ix_e A387 rfl hg388.1 hg388.2
      obtain ⟨v388_0, v388_1, rfl, A388_0, A388_1⟩ := op48 he388
      refine Xm 27 [] tb77 (((zd384.add 24 99 w4_0 rfl).add 25 100 (.pointer (some ad388)) rfl).add 26 101 (.agg #[(iI (((at_ a4 (0 : Int)).Key).Kind)), (iI (((at_ a4 (0 : Int)).Key).N)), v388_0, v388_1, (iI ((at_ a4 (0 : Int)).Id))]) rfl) (Xa (lca_q' ce388 u48 z48 rfl) rfl (Xa (Yg A387 u52 z48 hg388.1 hg388.2 ia388 rfl) rfl (Xa (Xq w4_0 rfl) rfl (Xa (Xp (es := [(iI (((at_ ((at_ a0.Nodes a2).Entries) x57).Key).Kind)), (iI (((at_ ((at_ a0.Nodes a2).Entries) x57).Key).N)), v69_0, v69_1, (iI ((at_ ((at_ a0.Nodes a2).Entries) x57).Id))]) (B75.st (Xo p77 p84) rfl) u48 z48 rfl) rfl (Xa (Xc rfl) rfl (Xa (qv_b (Xc rfl) hb382) rfl (Xa (ln_q' A387 u52 rfl) rfl (Xa (Xq w4_0 rfl) rfl (Xa (Xc rfl) rfl (Xa (Xc rfl) rfl (Xa (Xc rfl) rfl (Xa (Xi rfl) rfl (Xa (Xi rfl) rfl (Xa (Xi rfl) rfl (Xa (Xi rfl) rfl (Xa (Xi rfl) rfl (Xa (Xi rfl) rfl (Xa (Xi rfl) rfl (Xa (Xi rfl) rfl (Xa (Xi rfl) rfl (Xa (Xc rfl) rfl (Xa (qv_b (Xc rfl) hb135) rfl (Xa (Xc rfl) rfl (Xa (Xc rfl) rfl (Xa (qv_b (Xc rfl) hb88) rfl Xe))))))))))))))))))))))))) (by kernel_rfl) rfl (fun l393 e393 zd393 => ?_)
      have A395 := A82.st p84 rfl
      refine clV 48 rfl func42 rfl (spec_l11less.calls (Entry.mk ((at_ ((at_ a0.Nodes a2).Entries) x57).Key) ((at_ ((at_ a0.Nodes a2).Entries) x57).Id)) (Entry.mk ((at_ a4 (0 : Int)).Key) ((at_ a4 (0 : Int)).Id)) s84.w (mm [0] s84) v69_0 v69_1 v388_0 v388_1 ((Xk (s := s84) A69_0).sub (D := [0]) rfl) A395 ((Xk (s := s84) A388_0).sub (D := [0]) rfl) A388_1) (fun r396 s397 p397 n397 => ?_)
      refine Xh (L' := []) (D' := [2, 4, 5, 7, 9, 8, 10, 11, 12, 13, 6, 15, 3, 16, 17, 14, 19, 20, 21, 18, 18, 24, 25, 23, 26, 22, 22, 27, 0, 1]) zd393 rfl (fun zd398 => ?_)
      have zd401 := ((zd398.add 28 103 (.bool r396) rfl).add 29 104 (.bool r396) rfl).add 30 105 (.bool r396) rfl
      refine ji [] (fun (y402 : Bool × Bool × Bool) e w => ∃ (s : St) (e0 : Env), w = s.w ∧ e = upd (upd (upd (upd (upd (upd (upd (upd (upd (upd (upd (upd (upd (upd (upd (upd (upd (upd (upd (upd (upd (upd e0 1 (pB p1)) 3 (iI a3)) 4 w4_0) 5 w5_0) 6 (pB b7)) 12 (pB b43)) 13 (iI x57)) 79 (iI x57)) 80 (.bool false)) 81 (.bool false)) 91 (.bool false)) 94 w4_0) 95 (iI (a4.length : Int))) 96 (.bool true)) 97 (.bool true)) 98 (.agg #[(iI (((at_ ((at_ a0.Nodes a2).Entries) x57).Key).Kind)), (iI (((at_ ((at_ a0.Nodes a2).Entries) x57).Key).N)), v69_0, v69_1, (iI ((at_ ((at_ a0.Nodes a2).Entries) x57).Id))])) 99 w4_0) 100 (.pointer (some ad388))) 101 (.agg #[(iI (((at_ a4 (0 : Int)).Key).Kind)), (iI (((at_ a4 (0 : Int)).Key).N)), v388_0, v388_1, (iI ((at_ a4 (0 : Int)).Id))])) 102 (.bool y402.1)) 103 (.bool y402.2.1)) 117 (.bool y402.2.2) ∧ Kp s0 s ∧ BlF s p1 84 [w1_0, (iI a1.deep), (.bool a1.wrong), w1_1] 2 ∧ BlF s b43 61 [(.bool ((at_ a0.Nodes a2).Leaf)), v39_0, v39_1] 41 ∧ BlF s b7 33 [w0_0, (iI a0.Root)] 40 ∧ RdF Ym s [v69_1] (((at_ ((at_ a0.Nodes a2).Entries) x57).Key).T) [0] ∧ RdF Ym s [v388_1] (((at_ a4 (0 : Int)).Key).T) [0] ∧ OwF (Kd.sl 4 Kd.bool) s [w1_0] (a1.seen.set (a2).toNat true) 3 ∧ RwF 48 kd48 s w1_1 a1.all 4 [0] ∧ RdF Yn s [v39_0] ((at_ a0.Nodes a2).Entries) [0] ∧ RdF Yo s [v39_1] ((at_ a0.Nodes a2).Kids) [0]) (fun Gj402 Kj402 => ?_) ?_
      ·
       rcases bft r396 with hb402 | hb402
       ·
        rw [if_pos hb402]
        rw [hb402] at zd401
        try rw [hb402]
        refine Xu [39, 40, 41, 42] tb77 ((((((((zd401.add 31 106 undef rfl).add 32 107 undef rfl).add 33 108 undef rfl).add 34 109 undef rfl).add 35 110 undef rfl).add 36 111 undef rfl).add 37 112 undef rfl).add 38 113 undef rfl) (Xa (Xi rfl) rfl (Xa (Xi rfl) rfl (Xa (Xi rfl) rfl (Xa (Xi rfl) rfl (Xa (Xi rfl) rfl (Xa (Xi rfl) rfl (Xa (Xi rfl) rfl (Xa (Xi rfl) rfl (Xa (Xc rfl) rfl (Xa (Xc rfl) rfl (Xa (Xc rfl) rfl Xe))))))))))) (by kernel_rfl) (by decide) (Xr rfl (Xr rfl (Xr rfl (Xb rfl ?_))))
        exact Kj402 _ _ _ ⟨s397, _, rfl, (ue (ue (ue (ue (ue (ue (ue (ue (ue (ue (ue (ue (ue (ue (ue (ue (ue (ue (ue (ue (ue (ue rfl rfl) rfl) rfl) rfl) rfl) rfl) rfl) rfl) rfl) rfl) rfl) rfl) rfl) rfl) rfl) rfl) rfl) rfl) rfl) rfl) rfl) rfl), (K386.st p397 rfl), (Bx57_p1.st (tr5 p72 p75 p77 p84 p397) rfl), (Bx57_b43.st (tr5 p72 p75 p77 p84 p397) rfl), (Bx57_b7.st (tr5 p72 p75 p77 p84 p397) rfl), (A395.st p397 rfl), (A388_1.st p397 rfl), (Cx57_35.st (tr5 p72 p75 p77 p84 p397) rfl), (Cx57_3.st (tr5 p72 p75 p77 p84 p397) rfl rfl), (Cx57_40.st (tr5 p72 p75 p77 p84 p397) rfl), (Cx57_41.st (tr5 p72 p75 p77 p84 p397) rfl)⟩
       rw [if_neg (by rw [hb402]; decide)]
       rw [hb402] at zd401
       try rw [hb402]
       have zd426 := (((zd401.add 31 106 w5_0 rfl).add 32 107 (iI (a5.length : Int)) rfl).add 33 108 (.bool (decide ((a5.length : Int) > (0 : Int)))) rfl).add 34 109 (.bool (decide ((a5.length : Int) > (0 : Int)))) rfl
       refine ji [42] (fun (y427 : Bool × Bool × Bool) e w => ∃ (s : St) (e0 : Env), w = s.w ∧ e = upd (upd (upd (upd (upd (upd (upd (upd (upd (upd (upd (upd (upd (upd (upd (upd (upd (upd (upd (upd (upd (upd (upd (upd (upd (upd (upd e0 1 (pB p1)) 3 (iI a3)) 4 w4_0) 5 w5_0) 6 (pB b7)) 12 (pB b43)) 13 (iI x57)) 79 (iI x57)) 80 (.bool false)) 81 (.bool false)) 91 (.bool false)) 94 w4_0) 95 (iI (a4.length : Int))) 96 (.bool true)) 97 (.bool true)) 98 (.agg #[(iI (((at_ ((at_ a0.Nodes a2).Entries) x57).Key).Kind)), (iI (((at_ ((at_ a0.Nodes a2).Entries) x57).Key).N)), v69_0, v69_1, (iI ((at_ ((at_ a0.Nodes a2).Entries) x57).Id))])) 99 w4_0) 100 (.pointer (some ad388))) 101 (.agg #[(iI (((at_ a4 (0 : Int)).Key).Kind)), (iI (((at_ a4 (0 : Int)).Key).N)), v388_0, v388_1, (iI ((at_ a4 (0 : Int)).Id))])) 102 (.bool false)) 103 (.bool false)) 105 (.bool false)) 106 w5_0) 107 (iI (a5.length : Int))) 108 (.bool y427.1)) 109 (.bool y427.2.1)) 116 (.bool y427.2.2) ∧ Kp s0 s ∧ BlF s p1 84 [w1_0, (iI a1.deep), (.bool a1.wrong), w1_1] 2 ∧ BlF s b43 61 [(.bool ((at_ a0.Nodes a2).Leaf)), v39_0, v39_1] 41 ∧ BlF s b7 33 [w0_0, (iI a0.Root)] 40 ∧ RdF Ym s [v69_1] (((at_ ((at_ a0.Nodes a2).Entries) x57).Key).T) [0] ∧ RdF Ym s [v388_1] (((at_ a4 (0 : Int)).Key).T) [0] ∧ OwF (Kd.sl 4 Kd.bool) s [w1_0] (a1.seen.set (a2).toNat true) 3 ∧ RwF 48 kd48 s w1_1 a1.all 4 [0] ∧ RdF Yn s [v39_0] ((at_ a0.Nodes a2).Entries) [0] ∧ RdF Yo s [v39_1] ((at_ a0.Nodes a2).Kids) [0]) (fun Gj427 Kj427 => ?_) ?_
       ·
        rcases bft (decide ((a5.length : Int) > (0 : Int))) with hb427 | hb427
        ·
         rw [if_pos hb427]
         rw [hb427] at zd426
         try rw [hb427]
         have K431 := K386.st p397 rfl
         have A432 := A5_0.kp K431
         refine mg fun hg433 => ?_
         obtain ⟨ad433, es433, he433, ce433, ia433⟩ := ix_e A432 rfl hg433.1 hg433.2
         obtain ⟨v433_0, v433_1, rfl, A433_0, A433_1⟩ := op48 he433
         refine Xu [39, 40, 41, 42] tb77 ((((zd426.add 35 110 (.agg #[(iI (((at_ ((at_ a0.Nodes a2).Entries) x57).Key).Kind)), (iI (((at_ ((at_ a0.Nodes a2).Entries) x57).Key).N)), v69_0, v69_1, (iI ((at_ ((at_ a0.Nodes a2).Entries) x57).Id))]) rfl).add 36 111 w5_0 rfl).add 37 112 (.pointer (some ad433)) rfl).add 38 113 (.agg #[(iI (((at_ a5 (0 : Int)).Key).Kind)), (iI (((at_ a5 (0 : Int)).Key).N)), v433_0, v433_1, (iI ((at_ a5 (0 : Int)).Id))]) rfl) (Xa (lca_q' ce433 u48 z48 rfl) rfl (Xa (Yg A432 u52 z48 hg433.1 hg433.2 ia433 rfl) rfl (Xa (Xq w5_0 rfl) rfl (Xa (Xp (es := [(iI (((at_ ((at_ a0.Nodes a2).Entries) x57).Key).Kind)), (iI (((at_ ((at_ a0.Nodes a2).Entries) x57).Key).N)), v69_0, v69_1, (iI ((at_ ((at_ a0.Nodes a2).Entries) x57).Id))]) (B75.st (Ye p77 p84 p397) rfl) u48 z48 rfl) rfl (Xa (Xc rfl) rfl (Xa (qv_b (Xc rfl) hb427) rfl (Xa (ln_q' A432 u52 rfl) rfl (Xa (Xq w5_0 rfl) rfl (Xa (Xc rfl) rfl (Xa (Xc rfl) rfl (Xa (Xc rfl) rfl Xe))))))))))) (by kernel_rfl) (by decide) ?_
         have A439 := A395.st p397 rfl
         refine clV 49 rfl func42 rfl (spec_l11less.calls (Entry.mk ((at_ ((at_ a0.Nodes a2).Entries) x57).Key) ((at_ ((at_ a0.Nodes a2).Entries) x57).Id)) (Entry.mk ((at_ a5 (0 : Int)).Key) ((at_ a5 (0 : Int)).Id)) s397.w (mm [0] s397) v69_0 v69_1 v433_0 v433_1 ((Xk (s := s397) A69_0).sub (D := [0]) rfl) A439 ((Xk (s := s397) A433_0).sub (D := [0]) rfl) A433_1) (fun r440 s441 p441 n441 => ?_)
         refine Xb rfl (Xb rfl ?_)
         exact Kj427 _ _ _ ⟨s441, _, rfl, (ue (ue (ue (ue (ue (ue (ue (ue (ue (ue (ue (ue (ue (ue (ue (ue (ue (ue (ue (ue (ue (ue (ue (ue (ue (ue (ue rfl rfl) rfl) rfl) rfl) rfl) rfl) rfl) rfl) rfl) rfl) rfl) rfl) rfl) rfl) rfl) rfl) rfl) rfl) rfl) rfl) rfl) rfl) rfl) rfl) rfl) rfl) rfl), (K431.st p441 rfl), (Bx57_p1.st (tr6 p72 p75 p77 p84 p397 p441) rfl), (Bx57_b43.st (tr6 p72 p75 p77 p84 p397 p441) rfl), (Bx57_b7.st (tr6 p72 p75 p77 p84 p397 p441) rfl), (A439.st p441 rfl), (A388_1.st (Xo p397 p441) rfl), (Cx57_35.st (tr6 p72 p75 p77 p84 p397 p441) rfl), (Cx57_3.st (tr6 p72 p75 p77 p84 p397 p441) rfl rfl), (Cx57_40.st (tr6 p72 p75 p77 p84 p397 p441) rfl), (Cx57_41.st (tr6 p72 p75 p77 p84 p397 p441) rfl)⟩
        rw [if_neg (by rw [hb427]; decide)]
        rw [hb427] at zd426
        try rw [hb427]
        refine Xu [39, 40, 41, 42] tb77 ((((zd426.add 35 110 undef rfl).add 36 111 undef rfl).add 37 112 undef rfl).add 38 113 undef rfl) (Xa (Xi rfl) rfl (Xa (Xi rfl) rfl (Xa (Xi rfl) rfl (Xa (Xi rfl) rfl (Xa (Xc rfl) rfl (Xa (qv_b (Xc rfl) hb427) rfl (Xa (ln_q' (A5_0.kp (K386.st p397 rfl)) u52 rfl) rfl (Xa (Xq w5_0 rfl) rfl (Xa (Xc rfl) rfl (Xa (Xc rfl) rfl (Xa (Xc rfl) rfl Xe))))))))))) (by kernel_rfl) (by decide) (Xr rfl (Xr rfl (Xb rfl ?_)))
        exact Kj427 _ _ _ ⟨s397, _, rfl, (ue (ue (ue (ue (ue (ue (ue (ue (ue (ue (ue (ue (ue (ue (ue (ue (ue (ue (ue (ue (ue (ue (ue (ue (ue (ue (ue rfl rfl) rfl) rfl) rfl) rfl) rfl) rfl) rfl) rfl) rfl) rfl) rfl) rfl) rfl) rfl) rfl) rfl) rfl) rfl) rfl) rfl) rfl) rfl) rfl) rfl) rfl) rfl), (K386.st p397 rfl), (Bx57_p1.st (tr5 p72 p75 p77 p84 p397) rfl), (Bx57_b43.st (tr5 p72 p75 p77 p84 p397) rfl), (Bx57_b7.st (tr5 p72 p75 p77 p84 p397) rfl), (A395.st p397 rfl), (A388_1.st p397 rfl), (Cx57_35.st (tr5 p72 p75 p77 p84 p397) rfl), (Cx57_3.st (tr5 p72 p75 p77 p84 p397) rfl rfl), (Cx57_40.st (tr5 p72 p75 p77 p84 p397) rfl), (Cx57_41.st (tr5 p72 p75 p77 p84 p397) rfl)⟩
       rintro y427 _ _ ⟨s468, _, rfl, rfl, Ky427, By427_p1, By427_b43, By427_b7, Cy427_70, Cy427_389, Cy427_35, Cy427_3, Cy427_40, Cy427_41⟩
       exact Xb rfl (Kj402 _ _ _ ⟨s468, _, rfl, (ue (ue (ue (ue (ue (ue (ue (ue (ue (ue (ue (ue (ue (ue (ue (ue (ue (ue (ue (ue (ue (ue rfl rfl) rfl) rfl) rfl) rfl) rfl) rfl) rfl) rfl) rfl) rfl) rfl) rfl) rfl) rfl) rfl) rfl) rfl) rfl) rfl) rfl) rfl), Ky427, By427_p1, By427_b43, By427_b7, Cy427_70, Cy427_389, Cy427_35, Cy427_3, Cy427_40, Cy427_41⟩)
      rintro y402 _ _ ⟨s472, _, rfl, rfl, Ky402, By402_p1, By402_b43, By402_b7, Cy402_70, Cy402_389, Cy402_35, Cy402_3, Cy402_40, Cy402_41⟩
      exact Kj382 _ _ _ ⟨s472, _, rfl, (ue (ue (ue (ue (ue (ue (ue (ue (ue (ue (ue (ue (ue (ue (ue (ue (ue rfl rfl) rfl) rfl) rfl) rfl) rfl) rfl) rfl) rfl) rfl) rfl) rfl) rfl) rfl) rfl) rfl) rfl), Ky402, By402_p1, By402_b43, By402_b7, Cy402_35, Cy402_3, Cy402_40, Cy402_41⟩
     rw [if_neg (by rw [hb382]; decide)]
     rw [hb382] at zd381
     try rw [hb382]
     have zd489 := (((((((((((zd381.add 23 98 undef rfl).add 24 99 undef rfl).add 25 100 undef rfl).add 26 101 undef rfl).add 27 102 undef rfl).add 28 103 (.bool false) rfl).add 29 104 (.bool false) rfl).add 30 105 (.bool false) rfl).add 31 106 w5_0 rfl).add 32 107 (iI (a5.length : Int)) rfl).add 33 108 (.bool (decide ((a5.length : Int) > (0 : Int)))) rfl).add 34 109 (.bool (decide ((a5.length : Int) > (0 : Int)))) rfl
     refine ji [42] (fun (y490 : Bool × Bool × Bool) e w => ∃ (s : St) (e0 : Env), w = s.w ∧ e = upd (upd (upd (upd (upd (upd (upd (upd (upd (upd (upd (upd (upd (upd (upd (upd (upd (upd (upd (upd (upd (upd e0 1 (pB p1)) 3 (iI a3)) 4 w4_0) 5 w5_0) 6 (pB b7)) 12 (pB b43)) 13 (iI x57)) 79 (iI x57)) 80 (.bool false)) 81 (.bool false)) 91 (.bool false)) 94 w4_0) 95 (iI (a4.length : Int))) 96 (.bool false)) 97 (.bool false)) 103 (.bool false)) 105 (.bool false)) 106 w5_0) 107 (iI (a5.length : Int))) 108 (.bool y490.1)) 109 (.bool y490.2.1)) 116 (.bool y490.2.2) ∧ Kp s0 s ∧ BlF s p1 84 [w1_0, (iI a1.deep), (.bool a1.wrong), w1_1] 2 ∧ BlF s b43 61 [(.bool ((at_ a0.Nodes a2).Leaf)), v39_0, v39_1] 41 ∧ BlF s b7 33 [w0_0, (iI a0.Root)] 40 ∧ OwF (Kd.sl 4 Kd.bool) s [w1_0] (a1.seen.set (a2).toNat true) 3 ∧ RwF 48 kd48 s w1_1 a1.all 4 [0] ∧ RdF Yn s [v39_0] ((at_ a0.Nodes a2).Entries) [0] ∧ RdF Yo s [v39_1] ((at_ a0.Nodes a2).Kids) [0]) (fun Gj490 Kj490 => ?_) ?_
     ·
      rcases bft (decide ((a5.length : Int) > (0 : Int))) with hb490 | hb490
      ·
       rw [if_pos hb490]
       rw [hb490] at zd489
       try rw [hb490]
       have K494 := Kx57.st (Yf p72 p75 p77 p84) rfl
       have A495 := A5_0.kp K494
       refine mg fun hg496 => ?_
       obtain ⟨ad496, es496, he496, ce496, ia496⟩ := ix_e A495 rfl hg496.1 hg496.2
       obtain ⟨v496_0, v496_1, rfl, A496_0, A496_1⟩ := op48 he496
       have zd500 := (((zd489.add 35 110 (.agg #[(iI (((at_ ((at_ a0.Nodes a2).Entries) x57).Key).Kind)), (iI (((at_ ((at_ a0.Nodes a2).Entries) x57).Key).N)), v69_0, v69_1, (iI ((at_ ((at_ a0.Nodes a2).Entries) x57).Id))]) rfl).add 36 111 w5_0 rfl).add 37 112 (.pointer (some ad496)) rfl).add 38 113 (.agg #[(iI (((at_ a5 (0 : Int)).Key).Kind)), (iI (((at_ a5 (0 : Int)).Key).N)), v496_0, v496_1, (iI ((at_ a5 (0 : Int)).Id))]) rfl
       have A502 := B75.st (Xo p77 p84) rfl
       refine Xu [39, 40, 41, 42] tb77 zd500 (Xa (lca_q' ce496 u48 z48 rfl) rfl (Xa (Yg A495 u52 z48 hg496.1 hg496.2 ia496 rfl) rfl (Xa (Xq w5_0 rfl) rfl (Xa (Xp (es := [(iI (((at_ ((at_ a0.Nodes a2).Entries) x57).Key).Kind)), (iI (((at_ ((at_ a0.Nodes a2).Entries) x57).Key).N)), v69_0, v69_1, (iI ((at_ ((at_ a0.Nodes a2).Entries) x57).Id))]) A502 u48 z48 rfl) rfl (Xa (Xc rfl) rfl (Xa (qv_b (Xc rfl) hb490) rfl (Xa (ln_q' A495 u52 rfl) rfl (Xa (Xq w5_0 rfl) rfl (Xa (Xc rfl) rfl (Xa (Xc rfl) rfl (Xa (Xc rfl) rfl (Xa (Xi rfl) rfl (Xa (Xi rfl) rfl (Xa (Xi rfl) rfl (Xa (Xi rfl) rfl (Xa (Xi rfl) rfl (Xa (Xc rfl) rfl (Xa (qv_b (Xc rfl) hb382) rfl (Xa (ln_q' (A4_0.kp K494) u52 rfl) rfl (Xa (Xq w4_0 rfl) rfl (Xa (Xc rfl) rfl (Xa (Xc rfl) rfl (Xa (Xc rfl) rfl (Xa (Xi rfl) rfl (Xa (Xi rfl) rfl (Xa (Xi rfl) rfl (Xa (Xi rfl) rfl (Xa (Xi rfl) rfl (Xa (Xi rfl) rfl (Xa (Xi rfl) rfl (Xa (Xi rfl) rfl (Xa (Xi rfl) rfl (Xa (Xc rfl) rfl (Xa (qv_b (Xc rfl) hb135) rfl (Xa (Xc rfl) rfl (Xa (Xc rfl) rfl (Xa (qv_b (Xc rfl) hb88) rfl Xe))))))))))))))))))))))))))))))))))))) (by kernel_rfl) (by decide) (clV 50 rfl func42 rfl (spec_l11less.calls (Entry.mk ((at_ ((at_ a0.Nodes a2).Entries) x57).Key) ((at_ ((at_ a0.Nodes a2).Entries) x57).Id)) (Entry.mk ((at_ a5 (0 : Int)).Key) ((at_ a5 (0 : Int)).Id)) s84.w (mm [0] s84) v69_0 v69_1 v496_0 v496_1 ((Xk (s := s84) A69_0).sub (D := [0]) rfl) (A82.st p84 rfl) ((Xk (s := s84) A496_0).sub (D := [0]) rfl) A496_1) (fun r504 s505 p505 n505 => ?_))
       refine Xb rfl (Xb rfl ?_)
       exact Kj490 _ _ _ ⟨s505, _, rfl, (ue (ue (ue (ue (ue (ue (ue (ue (ue (ue (ue (ue (ue (ue (ue (ue (ue (ue (ue (ue (ue (ue rfl rfl) rfl) rfl) rfl) rfl) rfl) rfl) rfl) rfl) rfl) rfl) rfl) rfl) rfl) rfl) rfl) rfl) rfl) rfl) rfl) rfl) rfl), (K494.st p505 rfl), (Bx57_p1.st (tr5 p72 p75 p77 p84 p505) rfl), (Bx57_b43.st (tr5 p72 p75 p77 p84 p505) rfl), (Bx57_b7.st (tr5 p72 p75 p77 p84 p505) rfl), (Cx57_35.st (tr5 p72 p75 p77 p84 p505) rfl), (Cx57_3.st (tr5 p72 p75 p77 p84 p505) rfl rfl), (Cx57_40.st (tr5 p72 p75 p77 p84 p505) rfl), (Cx57_41.st (tr5 p72 p75 p77 p84 p505) rfl)⟩
      rw [if_neg (by rw [hb490]; decide)]
      rw [hb490] at zd489
      try rw [hb490]
      refine Xu [39, 40, 41, 42] tb77 ((((zd489.add 35 110 undef rfl).add 36 111 undef rfl).add 37 112 undef rfl).add 38 113 undef rfl) (Xa (Xi rfl) rfl (Xa (Xi rfl) rfl (Xa (Xi rfl) rfl (Xa (Xi rfl) rfl (Xa (Xc rfl) rfl (Xa (qv_b (Xc rfl) hb490) rfl (Xa (ln_q' (A5_0.kp (Kx57.st (Yf p72 p75 p77 p84) rfl)) u52 rfl) rfl (Xa (Xq w5_0 rfl) rfl (Xa (Xc rfl) rfl (Xa (Xc rfl) rfl (Xa (Xc rfl) rfl (Xa (Xi rfl) rfl (Xa (Xi rfl) rfl (Xa (Xi rfl) rfl (Xa (Xi rfl) rfl (Xa (Xi rfl) rfl (Xa (Xc rfl) rfl (Xa (qv_b (Xc rfl) hb382) rfl (Xa (ln_q' (A4_0.kp (Kx57.st (Yf p72 p75 p77 p84) rfl)) u52 rfl) rfl (Xa (Xq w4_0 rfl) rfl (Xa (Xc rfl) rfl (Xa (Xc rfl) rfl (Xa (Xc rfl) rfl (Xa (Xi rfl) rfl (Xa (Xi rfl) rfl (Xa (Xi rfl) rfl (Xa (Xi rfl) rfl (Xa (Xi rfl) rfl (Xa (Xi rfl) rfl (Xa (Xi rfl) rfl (Xa (Xi rfl) rfl (Xa (Xi rfl) rfl (Xa (Xc rfl) rfl (Xa (qv_b (Xc rfl) hb135) rfl (Xa (Xc rfl) rfl (Xa (Xc rfl) rfl (Xa (qv_b (Xc rfl) hb88) rfl Xe))))))))))))))))))))))))))))))))))))) (by kernel_rfl) (by decide) (Xr rfl ?_)
      refine Xr rfl (Xb rfl ?_)
      exact Kj490 _ _ _ ⟨s84, _, rfl, (ue (ue (ue (ue (ue (ue (ue (ue (ue (ue (ue (ue (ue (ue (ue (ue (ue (ue (ue (ue (ue (ue rfl rfl) rfl) rfl) rfl) rfl) rfl) rfl) rfl) rfl) rfl) rfl) rfl) rfl) rfl) rfl) rfl) rfl) rfl) rfl) rfl) rfl) rfl), (Kx57.st (Yf p72 p75 p77 p84) rfl), (Bx57_p1.st (Yf p72 p75 p77 p84) rfl), (Bx57_b43.st (Yf p72 p75 p77 p84) rfl), (Bx57_b7.st (Yf p72 p75 p77 p84) rfl), (Cx57_35.st (Yf p72 p75 p77 p84) rfl), (Cx57_3.st (Yf p72 p75 p77 p84) rfl rfl), (Cx57_40.st (Yf p72 p75 p77 p84) rfl), (Cx57_41.st (Yf p72 p75 p77 p84) rfl)⟩
     rintro y490 _ _ ⟨s530, _, rfl, rfl, Ky490, By490_p1, By490_b43, By490_b7, Cy490_35, Cy490_3, Cy490_40, Cy490_41⟩
     exact Xb rfl (Kj382 _ _ _ ⟨s530, _, rfl, (ue (ue (ue (ue (ue (ue (ue (ue (ue (ue (ue (ue (ue (ue (ue (ue (ue rfl rfl) rfl) rfl) rfl) rfl) rfl) rfl) rfl) rfl) rfl) rfl) rfl) rfl) rfl) rfl) rfl) rfl), Ky490, By490_p1, By490_b43, By490_b7, Cy490_35, Cy490_3, Cy490_40, Cy490_41⟩)
    rintro y382 _ _ ⟨s534, _, rfl, rfl, Ky382, By382_p1, By382_b43, By382_b7, Cy382_35, Cy382_3, Cy382_40, Cy382_41⟩
    exact Kj135 _ _ _ ⟨s534, _, rfl, (ue (ue (ue (ue (ue (ue (ue (ue (ue (ue (ue (ue rfl rfl) rfl) rfl) rfl) rfl) rfl) rfl) rfl) rfl) rfl) rfl) rfl), Ky382, By382_p1, By382_b43, By382_b7, Cy382_35, Cy382_3, Cy382_40, Cy382_41⟩
   rintro y135 _ _ ⟨s538, _, rfl, rfl, Ky135, By135_p1, By135_b43, By135_b7, Cy135_35, Cy135_3, Cy135_40, Cy135_41⟩
   exact Kj88 _ _ _ ⟨s538, _, rfl, (ue (ue (ue (ue (ue (ue (ue (ue rfl rfl) rfl) rfl) rfl) rfl) rfl) rfl) rfl), Ky135, By135_p1, By135_b43, By135_b7, Cy135_35, Cy135_3, Cy135_40, Cy135_41⟩
  rintro y88 _ _ ⟨s542, _, rfl, rfl, Ky88, By88_p1, By88_b43, By88_b7, Cy88_35, Cy88_3, Cy88_40, Cy88_41⟩
  refine dn (cd rfl (fun h546 => ?_) (fun h546 => ?_))
  ·
   refine sr (Xb rfl (Xb rfl (Xs fa84_2 rfl (sv' By88_p1 z4 rfl rfl rfl (fun s547 p547 B547 => ?_)))))
   refine dn (sgi ?_)
   exact re rfl func64 rfl Xg rfl ⟨_, rfl, w1_0, w1_1, s547, rfl, rfl, (Ky88.st p547 rfl), B547, (Cy88_35.st p547 rfl), ((Cy88_3.st p547 rfl rfl).sub rfl)⟩
  exact sk (ib (rg (Xb rfl (Xb rfl (Xb rfl (dn (lb ih57 ⟨s542, _, rfl, (ue (ue (ue (ue (ue (ue (ue rfl rfl) rfl) rfl) rfl) rfl) rfl) rfl), Ky88, By88_p1, By88_b43, By88_b7, Cy88_35, Cy88_3, Cy88_40, Cy88_41⟩)))))))
 refine xt rfl (sgb (sq (sr (Xs fa61_0 rfl (Yb Bx57_b43 u4 rfl (dn (cd rfl (fun h552 => ?_) (fun h552 => ?_))))))))
 ·
  refine sq (sr (Xb rfl (Xb rfl (Xs fa84_1 rfl (Yb Bx57_p1 u3 rfl (Xb rfl (dn (jc (fun (y553 : Int) e w => ∃ (s : St) (e0 : Env), w = s.w ∧ e = upd (upd (upd e0 1 (pB p1)) 3 (iI a3)) 12 (pB b43) ∧ Kp s0 s ∧ BlF s p1 84 [w1_0, (iI y553), (.bool a1.wrong), w1_1] 2 ∧ BlF s b43 61 [(.bool ((at_ a0.Nodes a2).Leaf)), v39_0, v39_1] 41 ∧ OwF (Kd.sl 4 Kd.bool) s [w1_0] (a1.seen.set (a2).toNat true) 3 ∧ RwF 48 kd48 s w1_1 a1.all 4 [0] ∧ RdF Yn s [v39_0] ((at_ a0.Nodes a2).Entries) [0] ∧ RdF Yo s [v39_1] ((at_ a0.Nodes a2).Kids) [0]) (fun Gj553 Kj553 => ?_) ?_))))))))
  ·
   refine cd rfl (fun h554 => ?_) (fun h554 => ?_)
   ·
    refine rg (Xb rfl (Xb rfl (Xb rfl (Xs fa84_1 rfl (sv' Bx57_p1 z3 rfl rfl rfl (fun s555 p555 B555 => ?_))))))
    exact dn (Kj553 _ _ _ ⟨s555, _, rfl, (ue (ue (ue rfl rfl) rfl) rfl), (Kx57.st p555 rfl), B555, (Bx57_b43.st p555 rfl), (Cx57_35.st p555 rfl), (Cx57_3.st p555 rfl rfl), (Cx57_40.st p555 rfl), (Cx57_41.st p555 rfl)⟩)
   exact sk (Kj553 _ _ _ ⟨s64, _, rfl, (ue (ue (ue rfl rfl) rfl) rfl), Kx57, Bx57_p1, Bx57_b43, Cx57_35, Cx57_3, Cx57_40, Cx57_41⟩)
  rintro y553 _ _ ⟨s563, _, rfl, rfl, Ky553, By553_p1, By553_b43, Cy553_35, Cy553_3, Cy553_40, Cy553_41⟩
  refine sq (sr (Xb rfl (Xb rfl (Xs fa84_1 rfl (Yb By553_p1 u3 rfl (Xb rfl (Xb rfl (Xb rfl (jy [138, 139, 140, 141, 142, 143] [] 143 (.bool ((y553 != a3) || (decide ((((at_ a0.Nodes a2).Kids).length : Int) > (0 : Int))))) rfl (fun Kg566 => ?_) (fun j566 => ?_))))))))))
  ·
   rcases bft (y553 != a3) with hb566 | hb566
   ·
    exact sbT hb566 (Xr rfl (Xr rfl (Xr rfl (Xr rfl (Xb rfl (Kg566 _ (Ag.put ((Ag.put ((Ag.put ((Ag.put ((Ag.put (Ag.base rfl) rfl)) rfl)) rfl)) rfl)) rfl) (by rw [hb566]; rfl)))))))
   exact sbT hb566 (Xs fa61_2 rfl (Yb By553_b43 u59 rfl (ln' Cy553_41 u59 rfl (Xb rfl (Xb rfl (Kg566 _ (Ag.put ((Ag.put ((Ag.put ((Ag.put ((Ag.put (Ag.base rfl) rfl)) rfl)) rfl)) rfl)) rfl) (by rw [hb566]; rfl)))))))
  refine dn (jc (fun (y567 : Bool) e w => ∃ (s : St) (e0 : Env), w = s.w ∧ e = upd (upd e0 1 (pB p1)) 12 (pB b43) ∧ Kp s0 s ∧ BlF s p1 84 [w1_0, (iI y553), (.bool y567), w1_1] 2 ∧ BlF s b43 61 [(.bool ((at_ a0.Nodes a2).Leaf)), v39_0, v39_1] 41 ∧ OwF (Kd.sl 4 Kd.bool) s [w1_0] (a1.seen.set (a2).toNat true) 3 ∧ RwF 48 kd48 s w1_1 a1.all 4 [0] ∧ RdF Yn s [v39_0] ((at_ a0.Nodes a2).Entries) [0] ∧ RdF Yo s [v39_1] ((at_ a0.Nodes a2).Kids) [0]) (fun Gj567 Kj567 => ?_) ?_)
  ·
   refine cd rfl (fun h568 => ?_) (fun h568 => ?_)
   ·
    refine rg (Xb rfl (Xb rfl (Xs fa84_2 rfl (sv' By553_p1 z4 rfl rfl rfl (fun s569 p569 B569 => ?_)))))
    exact dn (Kj567 _ _ _ ⟨s569, _, rfl, (ue (ue rfl rfl) rfl), (Ky553.st p569 rfl), B569, (By553_b43.st p569 rfl), (Cy553_35.st p569 rfl), (Cy553_3.st p569 rfl rfl), (Cy553_40.st p569 rfl), (Cy553_41.st p569 rfl)⟩)
   exact sk (Kj567 _ _ _ ⟨s563, _, rfl, (ue (ue rfl rfl) rfl), Ky553, By553_p1, By553_b43, Cy553_35, Cy553_3, Cy553_40, Cy553_41⟩)
  rintro y567 _ _ ⟨s577, _, rfl, rfl, Ky567, By567_p1, By567_b43, Cy567_35, Cy567_3, Cy567_40, Cy567_41⟩
  refine sq (Ya [[], [], [1], [2], [3], [], [5], [4, 6], [0, 0, 1, 2, 3, 4, 5, 6, 7], [8, 0, 1, 2, 3, 4, 5, 6, 7], [9, 7, 7, 0, 1, 2, 3, 4, 5, 6, 7]] [some 147, some 148, some 149, some 150, some 151, some 152, some 153, some 154, some 155, some 156, none] [[1], [1], [148], [149], [150], [12], [152], [151, 153], [147], [155], [156, 154]] [0, 1, 2, 3, 4, 5, 6, 7, 8, 9, 10] ⟨by kernel_rfl, by kernel_rfl, by kernel_rfl⟩ (by kernel_rfl) (fun s580 p580 l580 tb580 zd580 => ?_))
  refine Xm 7 [some 147] tb580 (((((((zd580.add 0 147 (pB p1) rfl).add 1 148 (pB p1) rfl).add 2 149 (pB p1) rfl).add 3 150 (pO p1 3) rfl).add 4 151 w1_1 rfl).add 5 152 (pO b43 1) rfl).add 6 153 v39_0 rfl) (Xa (Xl (By567_b43.st p580 rfl) u52 rfl) rfl (Xa (Xj fa61_1 rfl) rfl (Xa (Xl (By567_p1.st p580 rfl) u52 rfl) rfl (Xa (Xj fa84_3 rfl) rfl (Xa (Xc rfl) rfl (Xa (Xc rfl) rfl (Xa (Xc rfl) rfl Xe))))))) (by kernel_rfl) rfl (fun l590 e590 zd590 => ?_)
  refine apRE sl52 (Cy567_3.st p580 rfl rfl) (RdF.er (Cy567_40.st p580 rfl)) rfl rfl rfl rfl rfl rfl rfl rfl (fun v595 s595 p595 A595 => ?_)
  have A595_ := A595.sub (D := [0]) rfl
  refine Xh (L' := [0]) (D' := [1, 2, 3, 5, 4, 6, 7]) zd590 rfl (fun zd597 => ?_)
  refine Xu [8, 9, 10] tb580 zd597 (Xa (Xc rfl) rfl Xe) (by kernel_rfl) (by decide) (Xb rfl (Xs fa84_3 rfl ?_))
  refine sv' (By567_p1.st (Xo p580 p595) rfl) z52 rfl A595_.rd.one rfl (fun s599 p599 B599 => ?_)
  exact dn (re rfl func64 rfl Xg rfl ⟨_, rfl, w1_0, v595, s599, rfl, rfl, (Ky567.st (Ye p580 p595 p599) rfl), B599, (Cy567_35.st (Ye p580 p595 p599) rfl), ((A595_.st p599 rfl rfl).sub rfl)⟩)
 refine sk (sq (sr (Xs fa61_1 rfl (Yb Bx57_b43 u52 rfl (ln' Cx57_40 u52 rfl (Xb rfl (Xb rfl (jy [161, 162, 163, 164, 165, 166, 167, 168, 169, 170] [] 170 (.bool ((decide ((((at_ a0.Nodes a2).Entries).length : Int) < (1 : Int))) || ((((at_ a0.Nodes a2).Kids).length : Int) != (IntKind.wrap .i64 ((((at_ a0.Nodes a2).Entries).length : Int) + (1 : Int)))))) rfl (fun Kg604 => ?_) (fun j604 => ?_)))))))))
 ·
  rcases bft (decide ((((at_ a0.Nodes a2).Entries).length : Int) < (1 : Int))) with hb604 | hb604
  ·
   exact sbT hb604 (Xr rfl (Xr rfl (Xr rfl (Xr rfl (Xr rfl (Xr rfl (Xr rfl (Xr rfl (Xb rfl (Kg604 _ (Ag.put ((Ag.put ((Ag.put ((Ag.put ((Ag.put ((Ag.put ((Ag.put ((Ag.put ((Ag.put (Ag.base rfl) rfl)) rfl)) rfl)) rfl)) rfl)) rfl)) rfl)) rfl)) rfl) (by rw [hb604]; rfl)))))))))))
  exact sbT hb604 (Xs fa61_2 rfl (Yb Bx57_b43 u59 rfl (ln' Cx57_41 u59 rfl (Xs fa61_1 rfl (Yb Bx57_b43 u52 rfl (ln' Cx57_40 u52 rfl (Xb rfl (Xb rfl (Xb rfl (Kg604 _ (Ag.put ((Ag.put ((Ag.put ((Ag.put ((Ag.put ((Ag.put ((Ag.put ((Ag.put ((Ag.put (Ag.base rfl) rfl)) rfl)) rfl)) rfl)) rfl)) rfl)) rfl)) rfl)) rfl) (by rw [hb604]; rfl)))))))))))
 refine dn (cd rfl (fun h605 => ?_) (fun h605 => ?_))
 ·
  refine sr (Xb rfl (Xb rfl (Xs fa84_2 rfl (sv' Bx57_p1 z4 rfl rfl rfl (fun s606 p606 B606 => ?_)))))
  exact dn (re rfl func64 rfl Xg rfl ⟨_, rfl, w1_0, w1_1, s606, rfl, rfl, (Kx57.st p606 rfl), B606, (Cx57_35.st p606 rfl), ((Cx57_3.st p606 rfl rfl).sub rfl)⟩)
 refine sk (sr (Xb rfl (dn (bl (lpI (fun (x611 : Int × (List Bool) × Int × Bool × (List Entry)) e w => ∃ (s : St) (e0 : Env) (vx611_0 vx611_1 : Value), w = s.w ∧ e = upd (upd (upd (upd (upd (upd (upd e0 1 (pB p1)) 3 (iI a3)) 4 w4_0) 5 w5_0) 6 (pB b7)) 12 (pB b43)) 15 (iI x611.1) ∧ Kp s0 s ∧ OwF (Kd.sl 4 Kd.bool) s [vx611_0] x611.2.1 3 ∧ RwF 48 kd48 s vx611_1 x611.2.2.2.2 4 [0, 53, 51, 52] ∧ BlF s p1 84 [vx611_0, (iI x611.2.2.1), (.bool x611.2.2.2.1), vx611_1] 2 ∧ BlF s b43 61 [(.bool ((at_ a0.Nodes a2).Leaf)), v39_0, v39_1] 41 ∧ BlF s b7 33 [w0_0, (iI a0.Root)] 40 ∧ RdF Yn s [v39_0] ((at_ a0.Nodes a2).Entries) [0] ∧ RdF Yo s [v39_1] ((at_ a0.Nodes a2).Kids) [0]) ⟨s64, _, w1_0, w1_1, rfl, (ue (ue (ue (ue (ue (ue (ue rfl rfl) rfl) rfl) rfl) rfl) rfl) rfl), Kx57, Cx57_35, (Cx57_3.sub rfl), Bx57_p1, Bx57_b43, Bx57_b7, Cx57_40, Cx57_41⟩ (fun g611 ih611 => ?_))))))
 rintro x611 _ _ ⟨s612, _, vx611_0, vx611_1, rfl, rfl, Kx611, Ax611_0, Ax611_1, Bx611_p1, Bx611_b43, Bx611_b7, Cx611_40, Cx611_41⟩
 unfold spec_l11go.b1
 refine sq (sr (Xb rfl (Xs fa61_2 rfl (Yb Bx611_b43 u59 rfl (ln' Cx611_41 u59 rfl (Xb rfl (dn (cd rfl (fun h618 => ?_) (fun h618 => ?_)))))))))
 ·
  refine sk (sq (bl (sr (Xw w4_0 rfl (asg' w4_0 rfl (dn (sr (Xw w5_0 rfl (asg' w5_0 rfl (dn (sq (sr (Xb rfl (Xb rfl ?_))))))))))))))
  refine dn (jc (fun (y619 : (List Entry)) e w => ∃ (s : St) (e0 : Env) (vy619_0 : Value), w = s.w ∧ e = upd (upd (upd (upd (upd (upd (upd (upd (upd e0 1 (pB p1)) 3 (iI a3)) 4 w4_0) 5 w5_0) 6 (pB b7)) 12 (pB b43)) 15 (iI x611.1)) 16 vy619_0) 17 w5_0 ∧ Kp s0 s ∧ RdF Yn s [vy619_0] y619 [51, 0] ∧ BlF s p1 84 [vx611_0, (iI x611.2.2.1), (.bool x611.2.2.2.1), vx611_1] 2 ∧ BlF s b43 61 [(.bool ((at_ a0.Nodes a2).Leaf)), v39_0, v39_1] 41 ∧ BlF s b7 33 [w0_0, (iI a0.Root)] 40 ∧ OwF (Kd.sl 4 Kd.bool) s [vx611_0] x611.2.1 3 ∧ RwF 48 kd48 s vx611_1 x611.2.2.2.2 4 [0, 53, 51, 52] ∧ RdF Yn s [v39_0] ((at_ a0.Nodes a2).Entries) [0] ∧ RdF Yo s [v39_1] ((at_ a0.Nodes a2).Kids) [0]) (fun Gj619 Kj619 => ?_) ?_)
  ·
   refine cd rfl (fun h620 => ?_) (fun h620 => ?_)
   ·
    refine rg (Xs fa61_1 rfl (Yb Bx611_b43 u52 rfl (Xb rfl (Xb rfl (ix' Cx611_40 u52 z48 rfl (fun ad621 es621 h0_621 h1_621 he621 ce621 ia621 => ?_))))))
    obtain ⟨v621_0, v621_1, rfl, A621_0, A621_1⟩ := op48 he621
    refine lca ce621 u48 z48 rfl rfl rfl rfl rfl rfl rfl (ltR (K := kd48) (cells := [(iI (((at_ ((at_ a0.Nodes a2).Entries) (IntKind.wrap .i64 (x611.1 - (1 : Int)))).Key).Kind)), (iI (((at_ ((at_ a0.Nodes a2).Entries) (IntKind.wrap .i64 (x611.1 - (1 : Int)))).Key).N)), v621_0, v621_1, (iI ((at_ ((at_ a0.Nodes a2).Entries) (IntKind.wrap .i64 (x611.1 - (1 : Int)))).Id))]) [(Entry.mk ((at_ ((at_ a0.Nodes a2).Entries) (IntKind.wrap .i64 (x611.1 - (1 : Int)))).Key) ((at_ ((at_ a0.Nodes a2).Entries) (IntKind.wrap .i64 (x611.1 - (1 : Int)))).Id))] 51 [0] rfl u52 z48 o48 (el_cons (mk48 (x := (Entry.mk ((at_ ((at_ a0.Nodes a2).Entries) (IntKind.wrap .i64 (x611.1 - (1 : Int)))).Key) ((at_ ((at_ a0.Nodes a2).Entries) (IntKind.wrap .i64 (x611.1 - (1 : Int)))).Id))) A621_0 A621_1) el_nil) rfl rfl rfl rfl rfl rfl rfl rfl rfl rfl (fun v624 s624 p624 A624 => ?_))
    refine asg' v624 rfl (dn ?_)
    exact Kj619 _ _ _ ⟨s624, _, v624, rfl, (ue (ue (ue (ue (ue (ue (ue (ue (ue rfl rfl) rfl) rfl) rfl) rfl) rfl) rfl) rfl) rfl), (Kx611.st p624 rfl), A624.rd, (Bx611_p1.st p624 rfl), (Bx611_b43.st p624 rfl), (Bx611_b7.st p624 rfl), (Ax611_0.st p624 rfl), (Ax611_1.st p624 rfl rfl), (Cx611_40.st p624 rfl), (Cx611_41.st p624 rfl)⟩
   exact sk (Kj619 _ _ _ ⟨s612, _, w4_0, rfl, (ue (ue (ue (ue (ue (ue (ue (ue (ue rfl rfl) rfl) rfl) rfl) rfl) rfl) rfl) rfl) rfl), Kx611, ((A4_0.kp Kx611).sub rfl), Bx611_p1, Bx611_b43, Bx611_b7, Ax611_0, Ax611_1, Cx611_40, Cx611_41⟩)
  rintro y619 _ _ ⟨s635, _, vy619_0, rfl, rfl, Ky619, Ay619_0, By619_p1, By619_b43, By619_b7, Cy619_613, Cy619_614, Cy619_40, Cy619_41⟩
  refine sq (sr (Xb rfl (Xs fa61_1 rfl (Yb By619_b43 u52 rfl (ln' Cy619_40 u52 rfl (Xb rfl (dn (jc (fun (y640 : (List Entry)) e w => ∃ (s : St) (e0 : Env) (vy640_0 : Value), w = s.w ∧ e = upd (upd (upd (upd (upd (upd (upd (upd (upd e0 1 (pB p1)) 3 (iI a3)) 4 w4_0) 5 w5_0) 6 (pB b7)) 12 (pB b43)) 15 (iI x611.1)) 16 vy619_0) 17 vy640_0 ∧ Kp s0 s ∧ RdF Yn s [vy640_0] y640 [52, 0] ∧ BlF s p1 84 [vx611_0, (iI x611.2.2.1), (.bool x611.2.2.2.1), vx611_1] 2 ∧ BlF s b43 61 [(.bool ((at_ a0.Nodes a2).Leaf)), v39_0, v39_1] 41 ∧ BlF s b7 33 [w0_0, (iI a0.Root)] 40 ∧ RdF Yn s [vy619_0] y619 [51, 0] ∧ OwF (Kd.sl 4 Kd.bool) s [vx611_0] x611.2.1 3 ∧ RwF 48 kd48 s vx611_1 x611.2.2.2.2 4 [0, 53, 51, 52] ∧ RdF Yn s [v39_0] ((at_ a0.Nodes a2).Entries) [0] ∧ RdF Yo s [v39_1] ((at_ a0.Nodes a2).Kids) [0]) (fun Gj640 Kj640 => ?_) ?_))))))))
  ·
   refine cd rfl (fun h641 => ?_) (fun h641 => ?_)
   ·
    refine rg (Xs fa61_1 rfl (Yb By619_b43 u52 rfl (Xb rfl (ix' Cy619_40 u52 z48 rfl (fun ad642 es642 h0_642 h1_642 he642 ce642 ia642 => ?_)))))
    obtain ⟨v642_0, v642_1, rfl, A642_0, A642_1⟩ := op48 he642
    refine lca ce642 u48 z48 rfl rfl rfl rfl rfl rfl rfl (ltR (K := kd48) (cells := [(iI (((at_ ((at_ a0.Nodes a2).Entries) x611.1).Key).Kind)), (iI (((at_ ((at_ a0.Nodes a2).Entries) x611.1).Key).N)), v642_0, v642_1, (iI ((at_ ((at_ a0.Nodes a2).Entries) x611.1).Id))]) [(Entry.mk ((at_ ((at_ a0.Nodes a2).Entries) x611.1).Key) ((at_ ((at_ a0.Nodes a2).Entries) x611.1).Id))] 52 [0] rfl u52 z48 o48 (el_cons (mk48 (x := (Entry.mk ((at_ ((at_ a0.Nodes a2).Entries) x611.1).Key) ((at_ ((at_ a0.Nodes a2).Entries) x611.1).Id))) A642_0 A642_1) el_nil) rfl rfl rfl rfl rfl rfl rfl rfl rfl rfl (fun v645 s645 p645 A645 => ?_))
    refine asg' v645 rfl (dn ?_)
    exact Kj640 _ _ _ ⟨s645, _, v645, rfl, (ue (ue (ue (ue (ue (ue (ue (ue (ue rfl rfl) rfl) rfl) rfl) rfl) rfl) rfl) rfl) rfl), (Ky619.st p645 rfl), A645.rd, (By619_p1.st p645 rfl), (By619_b43.st p645 rfl), (By619_b7.st p645 rfl), (Ay619_0.st p645 rfl), (Cy619_613.st p645 rfl), (Cy619_614.st p645 rfl rfl), (Cy619_40.st p645 rfl), (Cy619_41.st p645 rfl)⟩
   exact sk (Kj640 _ _ _ ⟨s635, _, w5_0, rfl, (ue (ue (ue (ue (ue (ue (ue (ue (ue rfl rfl) rfl) rfl) rfl) rfl) rfl) rfl) rfl) rfl), Ky619, ((A5_0.kp Ky619).sub rfl), By619_p1, By619_b43, By619_b7, Ay619_0, Cy619_613, Cy619_614, Cy619_40, Cy619_41⟩)
  rintro y640 _ _ ⟨s657, _, vy640_0, rfl, rfl, Ky640, Ay640_0, By640_p1, By640_b43, By640_b7, Cy640_636, Cy640_613, Cy640_614, Cy640_40, Cy640_41⟩
  refine Ya [[], [], [], [2], [], [3, 4], [5], [], [7], [], [], [0, 1, 6, 8, 9, 10]] [some 203, some 204, some 205, some 206, some 207, some 208, some 209, some 210, some 211, some 212, some 213, some 214] [[6], [1], [12], [205], [15], [206, 207], [208], [3], [210], [16], [17], [203, 204, 209, 211, 212, 213]] [0, 1, 2, 3, 4, 5, 6, 7, 8, 9, 10, 11] ⟨by kernel_rfl, by kernel_rfl, by kernel_rfl⟩ (by kernel_rfl) (fun s662 p662 l662 tb662 zd662 => ?_)
  have A670 := Cy640_41.st p662 rfl
  refine mg fun hg671 => ?_
  obtain ⟨ad671, es671, he671, ce671, ia671⟩ := ix_e A670 rfl hg671.1 hg671.2
  obtain rfl := he671
  refine Xu [11] tb662 (((((((((((zd662.add 0 203 (.agg #[w0_0, (iI a0.Root)]) rfl).add 1 204 (pB p1) rfl).add 2 205 (pO b43 2) rfl).add 3 206 v39_1 rfl).add 4 207 (iI x611.1) rfl).add 5 208 (.pointer (some ad671)) rfl).add 6 209 (iI (at_ ((at_ a0.Nodes a2).Kids) x611.1)) rfl).add 7 210 (iI a3) rfl).add 8 211 (iI (IntKind.wrap .i64 (a3 + (1 : Int)))) rfl).add 9 212 vy619_0 rfl).add 10 213 vy640_0 rfl) (Xa (Xq vy640_0 rfl) rfl (Xa (Xq vy619_0 rfl) rfl (Xa (Xc rfl) rfl (Xa (Xc rfl) rfl (Xa (lc0_q' ce671 u3 rfl) rfl (Xa (Yg A670 u59 z3 hg671.1 hg671.2 ia671 rfl) rfl (Xa (Xc rfl) rfl (Xa (Xl (By640_b43.st p662 rfl) u59 rfl) rfl (Xa (Xj fa61_2 rfl) rfl (Xa (Xc rfl) rfl (Xa (Xp (es := [w0_0, (iI a0.Root)]) (By640_b7.st p662 rfl) u33 z33 rfl) rfl Xe))))))))))) (by kernel_rfl) (by decide) ?_
  have K681 := Ky640.st p662 rfl
  refine cl' rfl func64 rfl (fun r688 m688 => hR a0 (l11walk.mk x611.2.1 x611.2.2.1 x611.2.2.2.1 x611.2.2.2.2) (at_ ((at_ a0.Nodes a2).Kids) x611.1) (IntKind.wrap .i64 (a3 + (1 : Int))) y619 y640 (vw [0, 53, 51, 52] [(3, 3), (4, 4), (2, 2)] s662) (vw_lt rfl) w0_0 p1 vx611_0 vx611_1 vy619_0 vy640_0 (RdF.vw (A0_0.kp K681) rfl) (OwF.vw (Cy640_613.st p662 rfl) rfl (by simp)) (RwF.vw (Cy640_614.st p662 rfl rfl) rfl (by simp) rfl) (BlF.vw (By640_p1.st p662 rfl) rfl (by simp)) (RdF.vw (Cy640_636.st p662 rfl) rfl) (RdF.vw (Ay640_0.st p662 rfl) rfl) r688 m688) ?_
  rintro r688 _ _ m688 ⟨u688_0, u688_1, t688, rfl, rfl, kp688, bw688, uf688_0, uf688_1⟩
  have hw689 : t688.w = (bk [(3, 3), (4, 4), (2, 2)] 53 s662 t688).w := rfl
  have p689 := bk_st (D := [0, 53, 51, 52]) (M := [(3, 3), (4, 4), (2, 2)]) (cn := 53) rfl kp688
  have B689 := BlF.bk (D := [0, 53, 51, 52]) (M := [(3, 3), (4, 4), (2, 2)]) (cn := 53) (c := 2) bw688 rfl (by simp) kp688
  have U689_0 := OwF.bk (D := [0, 53, 51, 52]) (M := [(3, 3), (4, 4), (2, 2)]) (cn := 53) (c := 3) uf688_0 rfl (by simp) kp688
  have U689_1 := RwF.bk (D := [0, 53, 51, 52]) (M := [(3, 3), (4, 4), (2, 2)]) (cn := 53) (c := 4) uf688_1 rfl (by simp) rfl kp688
  generalize bk [(3, 3), (4, 4), (2, 2)] 53 s662 t688 = s689 at hw689 p689 B689 U689_0 U689_1
  rw [hw689]
  refine dn (ib (rg (Xb rfl (Xb rfl (Xb rfl (dn ?_))))))
  exact lb ih611 ⟨s689, _, u688_0, u688_1, rfl, (ue (ue (ue (ue (ue (ue (ue rfl rfl) rfl) rfl) rfl) rfl) rfl) rfl), (K681.st p689 rfl), U689_0, (U689_1.sub rfl), B689, (By640_b43.st (Xo p662 p689) rfl), (By640_b7.st (Xo p662 p689) rfl), (Cy640_40.st (Xo p662 p689) rfl), (A670.st p689 rfl)⟩
 refine xt rfl (sgb ?_)
 obtain ⟨s698, hw698, p698, rc698⟩ := rc_all s612 [53, 51, 52] 899 rfl
 rw [hw698]
 exact reE rfl func64 rfl Xg rfl ⟨_, rfl, vx611_0, vx611_1, s698, rfl, rfl, (Kx611.st p698 rfl), (Bx611_p1.st p698 rfl), (Ax611_0.st p698 rfl), (Ax611_1.rce rc698 rfl rfl rfl)⟩
theorem spec_l11go.callsN : ∀ n : Nat, ∀ (a0 : Tree) (a1 : l11walk) (a2 : Int) (a3 : Int) (a4 : (List Entry)) (a5 : (List Entry)) (s0 : St) (z0 : ∀ b, s0.g b < 40) (w0_0 : Value) (p1 : Nat) (w1_0 : Value) (w1_1 : Value) (w4_0 : Value) (w5_0 : Value) (A0_0 : RdF Yp s0 [w0_0] a0.Nodes [0]) (A1_0 : OwF (Kd.sl 4 Kd.bool) s0 [w1_0] a1.seen 3) (A1_1 : RwF 48 kd48 s0 w1_1 a1.all 4 [0]) (B1 : BlF s0 p1 84 [w1_0, (iI a1.deep), (.bool a1.wrong), w1_1] 2) (A4_0 : RdF Yn s0 [w4_0] a4 [0]) (A5_0 : RdF Yn s0 [w5_0] a5 [0]) (r : l11walk) (m : spec_l11go.g n a0 a1 a2 a3 a4 a5 = some r), Calls prog 64 #[(.agg #[w0_0, (iI a0.Root)]), (pB p1), (iI a2), (iI a3), w4_0, w5_0] s0.w (RT (spec_l11go.Q s0 p1) r)
 | 0 => by intros; rename_i m; cases m
 | n + 1 => spec_l11go.callsR (spec_l11go.g n) (spec_l11go.callsN n)
theorem spec_l11go.calls : ∀ (a0 : Tree) (a1 : l11walk) (a2 : Int) (a3 : Int) (a4 : (List Entry)) (a5 : (List Entry)) (s0 : St) (z0 : ∀ b, s0.g b < 40) (w0_0 : Value) (p1 : Nat) (w1_0 : Value) (w1_1 : Value) (w4_0 : Value) (w5_0 : Value) (A0_0 : RdF Yp s0 [w0_0] a0.Nodes [0]) (A1_0 : OwF (Kd.sl 4 Kd.bool) s0 [w1_0] a1.seen 3) (A1_1 : RwF 48 kd48 s0 w1_1 a1.all 4 [0]) (B1 : BlF s0 p1 84 [w1_0, (iI a1.deep), (.bool a1.wrong), w1_1] 2) (A4_0 : RdF Yn s0 [w4_0] a4 [0]) (A5_0 : RdF Yn s0 [w5_0] a5 [0]) (r : l11walk) (m : spec_l11go.f a0 a1 a2 a3 a4 a5 = some r), Calls prog 64 #[(.agg #[w0_0, (iI a0.Root)]), (pB p1), (iI a2), (iI a3), w4_0, w5_0] s0.w (RT (spec_l11go.Q s0 p1) r) := spec_l11go.callsN 1000
def spec_l11look.b0 (r20 : l11walk) (x25 : Int) : Option (Int ⊕ (l11walk × Bool)) :=
 (if (decide (x25 < (r20.seen.length : Int))) = true then (if 0 ≤ x25 ∧ x25 < (r20.seen.length : Int) then (if (!(at_ r20.seen x25)) = true then (some (Sum.inr (r20, false))) else (some (Sum.inl (IntKind.wrap .i64 (x25 + (1 : Int)))))) else none) else ((some (r20, (!r20.wrong))).bind fun o => some (Sum.inr o)))
def spec_l11look.f (a0 : Tree) : Option (l11walk × Bool) :=
 (if ((decide ((a0.Nodes.length : Int) < (1 : Int))) || (decide ((a0.Nodes.length : Int) > (300 : Int)))) = true then (some ((l11walk.mk ([] : (List Bool)) (0 : Int) false ([] : (List Entry))), false)) else (if 0 ≤ (a0.Nodes.length : Int) ∧ (a0.Nodes.length : Int) ≤ (Lim : Int) then ((spec_l11go.f a0 (l11walk.mk (List.replicate ((a0.Nodes.length : Int)).toNat false) (0 : Int) false ([] : (List Entry))) a0.Root (1 : Int) ([] : (List Entry)) ([] : (List Entry))).bind fun r20 => (iter (spec_l11look.b0 r20) (0 : Int))) else none))
def spec_l11look.Q (w : World) (F : Nat → Prop) (r : l11walk × Bool) (v : Value) (w' : World) : Prop :=
 ∃ (v0 : Nat) (v1 : Value) (v2 : Value), v = .tuple #[(pB v0), (.bool r.2)] ∧ BlN w w' v0 84 [v1, (iI r.1.deep), (.bool r.1.wrong), v2] ∧ FO (Kd.sl 4 Kd.bool) w w' [v1] r.1.seen ∧ FR Yn F w w' [v2] r.1.all ∧ Ky [] w w'
theorem spec_l11look.calls (a0 : Tree) (w : World) (F : Nat → Prop) (w0_0 : Value) (h0_0 : Yp.rd w [w0_0] a0.Nodes F) (r : l11walk × Bool) (m : spec_l11look.f a0 = some r) :
  Calls prog 39 #[(.agg #[w0_0, (iI a0.Root)])] w (RT (spec_l11look.Q w F) r) := by
 obtain ⟨s0, rfl, kp0, z⟩ := Xn w F
 have A0_0 := z.rd h0_0
 refine Xf (args := [(.agg #[w0_0, (iI a0.Root)])]) func39 ntmps39 rfl rfl m ?_
 unfold spec_l11look.f
 refine sr (bx' (cs := [w0_0, (iI a0.Root)]) 40 rfl rfl (fun b2 s2 p2 B2 => ?_))
 refine Xb rfl (Xb rfl (dn (sr (bd (cells := [(.slice none 0 0), (iI 0), (.bool false), (.slice none 0 0)]) pl84 o84 rfl rfl rfl rfl rfl rfl (bx' (cs := [(.slice none 0 0), (iI 0), (.bool false), (.slice none 0 0)]) 41 rfl rfl (fun b4 s4 p4 B4 => ?_))))))
 refine Xb rfl (dn (sq (sr (Xs fa33_0 rfl ?_))))
 have A6 := B2.st p4 rfl
 refine Yb A6 u31 rfl ?_
 have K7 := kp0.st (Xo p2 p4) rfl
 have A8 := A0_0.kp K7
 refine ln' A8 u31 rfl (Xb rfl (Xb rfl (jy [12, 13, 14, 15, 16, 17] [] 17 (.bool ((decide ((a0.Nodes.length : Int) < (1 : Int))) || (decide ((a0.Nodes.length : Int) > (300 : Int))))) rfl (fun Kg9 => ?_) (fun j9 => ?_))))
 ·
  rcases bft (decide ((a0.Nodes.length : Int) < (1 : Int))) with hb9 | hb9
  ·
   exact sbT hb9 (Xr rfl (Xr rfl (Xr rfl (Xr rfl (Xb rfl (Kg9 _ (Ag.put ((Ag.put ((Ag.put ((Ag.put ((Ag.put (Ag.base rfl) rfl)) rfl)) rfl)) rfl)) rfl) (by rw [hb9]; rfl)))))))
  exact sbT hb9 (Xs fa33_0 rfl (Yb A6 u31 rfl (ln' A8 u31 rfl (Xb rfl (Xb rfl (Kg9 _ (Ag.put ((Ag.put ((Ag.put ((Ag.put ((Ag.put (Ag.base rfl) rfl)) rfl)) rfl)) rfl)) rfl) (by rw [hb9]; rfl)))))))
 refine dn (cd rfl (fun h10 => ?_) (fun h10 => ?_))
 ·
  exact sr (Xb rfl (Xb rfl (Xb rfl (dn (re rfl func39 rfl (Xv rfl (Xv rfl Xg)) rfl ⟨_, rfl, b4, (.slice none 0 0), (.slice none 0 0), rfl, BlF.fo B4 K7 rfl z.l, (ow_nil 4 Kd.bool s4 40).fo K7 rfl z.l, z.fr K7 (rd_nil 48 kd48 s4 []) rfl, z.ky K7⟩)))))
 refine sk (sr (Xb rfl (Xs fa33_0 rfl (Yb A6 u31 rfl (ln' A8 u31 rfl (mk (x0 := false) (K := Kd.bool) 42 sl82 o4 (fun _ => ⟨rfl, rfl⟩) rfl rfl rfl rfl rfl rfl rfl (fun v11 s11 p11 A11 => ?_)))))))
 refine Xb rfl (Xs fa84_0 rfl ?_)
 refine sv' (B4.st p11 rfl) z82 rfl A11.rd.one rfl (fun s14 p14 B14 => ?_)
 refine dn (sr ?_)
 have A16 := A6.st (Xo p11 p14) rfl
 refine Yl (es := [w0_0, (iI a0.Root)]) A16 u33 z33 rfl (Xb rfl (Xs fa33_1 rfl (Yb A16 u3 rfl ?_)))
 have K17 := K7.st (Xo p11 p14) rfl
 refine cl' rfl func64 rfl (spec_l11go.calls a0 (l11walk.mk (List.replicate ((a0.Nodes.length : Int)).toNat false) (0 : Int) false ([] : (List Entry))) a0.Root (1 : Int) ([] : (List Entry)) ([] : (List Entry)) (vw [0] [(42, 3), (43, 4), (41, 2)] s14) (vw_lt rfl) w0_0 b4 v11 (.slice none 0 0) (.slice none 0 0) (.slice none 0 0) (RdF.vw (A0_0.kp K17) rfl) (OwF.vw (A11.st p14 rfl) rfl (by simp)) (rw_nil 48 kd48 _ 4 [0]) (BlF.vw B14 rfl (by simp)) (RdF.vw (rd_nil 48 kd48 s14 []) rfl) (RdF.vw (rd_nil 48 kd48 s14 []) rfl)) ?_
 rintro r20 _ _ m20 ⟨u20_0, u20_1, t20, rfl, rfl, kp20, bw20, uf20_0, uf20_1⟩
 have hw21 : t20.w = (bk [(42, 3), (43, 4), (41, 2)] 44 s14 t20).w := rfl
 have p21 := bk_st (D := [0]) (M := [(42, 3), (43, 4), (41, 2)]) (cn := 44) rfl kp20
 have B21 := BlF.bk (D := [0]) (M := [(42, 3), (43, 4), (41, 2)]) (cn := 44) (c := 41) bw20 rfl (by simp) kp20
 have U21_0 := OwF.bk (D := [0]) (M := [(42, 3), (43, 4), (41, 2)]) (cn := 44) (c := 42) uf20_0 rfl (by simp) kp20
 have U21_1 := RwF.bk (D := [0]) (M := [(42, 3), (43, 4), (41, 2)]) (cn := 44) (c := 43) uf20_1 rfl (by simp) rfl kp20
 generalize bk [(42, 3), (43, 4), (41, 2)] 44 s14 t20 = s21 at hw21 p21 B21 U21_0 U21_1
 rw [hw21]
 refine dn (sq (sr (Xb rfl (dn (bl ?_)))))
 refine lpI (fun (x25 : Int) e w => ∃ (s : St) (e0 : Env), w = s.w ∧ e = upd (upd e0 4 (pB b4)) 5 (iI x25) ∧ Kp s0 s ∧ BlF s b4 84 [u20_0, (iI r20.deep), (.bool r20.wrong), u20_1] 41 ∧ OwF (Kd.sl 4 Kd.bool) s [u20_0] r20.seen 42 ∧ RwF 48 kd48 s u20_1 r20.all 43 [44, 0]) ⟨s21, _, rfl, (ue (ue rfl rfl) rfl), (K17.st p21 rfl), B21, U21_0, U21_1⟩ (fun g25 ih25 => ?_)
 rintro x25 _ _ ⟨s27, _, rfl, rfl, Kx25, Bx25_b4, Cx25_23, Cx25_24⟩
 unfold spec_l11look.b0
 refine sq (sr (Xb rfl (Xb rfl (Xb rfl (Xs fa84_0 rfl (Yb Bx25_b4 u82 rfl (ln' Cx25_23.rd u82 rfl (Xb rfl (dn (cd rfl (fun h29 => ?_) (fun h29 => ?_)))))))))))
 ·
  refine sk (sq (bl (sr (Xb rfl (Xb rfl (Xs fa84_0 rfl (Yb Bx25_b4 u82 rfl (Xb rfl (ix' Cx25_23.rd u82 z4 rfl (fun ad30 es30 h0_30 h1_30 he30 ce30 ia30 => ?_))))))))))
  obtain rfl := he30
  refine lc0 ce30 u4 rfl rfl rfl rfl rfl rfl rfl rfl (Xb rfl (dn (cd rfl (fun h32 => ?_) (fun h32 => ?_))))
  ·
   exact sr (Xb rfl (Xb rfl (Xb rfl (dn (sgi (re rfl func39 rfl (Xv rfl (Xv rfl Xg)) rfl ⟨_, rfl, b4, u20_0, u20_1, rfl, BlF.fo Bx25_b4 Kx25 rfl z.l, Cx25_23.fo Kx25 rfl z.l, z.fr Kx25 Cx25_24.rd rfl, z.ky Kx25⟩))))))
  exact sk (ib (rg (Xb rfl (Xb rfl (Xb rfl (dn (lb ih25 ⟨s27, _, rfl, (ue (ue rfl rfl) rfl), Kx25, Bx25_b4, Cx25_23, Cx25_24⟩)))))))
 refine xt rfl (sgb (sq (Ya [[], [], [1], [2], [3], [4], [0, 0], [5, 6, 0, 1, 2, 3, 4, 5, 6]] [some 49, some 50, some 51, some 52, some 53, some 54, some 2, some 3] [[4], [4], [50], [51], [52], [53], [49], [54]] [0, 2, 3, 4, 5, 6, 1, 7] ⟨by kernel_rfl, by kernel_rfl, by kernel_rfl⟩ (by kernel_rfl) (fun s33 p33 l33 tb33 zd33 => ?_))))
 refine Xu [7] tb33 (((((((zd33.add 0 49 (pB b4) rfl).add 1 50 (pB b4) rfl).add 2 51 (pB b4) rfl).add 3 52 (pO b4 2) rfl).add 4 53 (.bool r20.wrong) rfl).add 5 54 (.bool (!r20.wrong)) rfl).add 6 2 (pB b4) rfl) (Xa (Xc rfl) rfl (Xa (Xc rfl) rfl (Xa (Xl (Bx25_b4.st p33 rfl) u4 rfl) rfl (Xa (Xj fa84_2 rfl) rfl (Xa (Xc rfl) rfl (Xa (Xc rfl) rfl (Xa (Xc rfl) rfl Xe))))))) (by kernel_rfl) (by decide) (Xb rfl (dn ?_))
 have K44 := Kx25.st p33 rfl
 exact re rfl func39 rfl (Xv rfl (Xv rfl Xg)) rfl ⟨_, rfl, b4, u20_0, u20_1, rfl, BlF.fo (Bx25_b4.st p33 rfl) K44 rfl z.l, (Cx25_23.st p33 rfl).fo K44 rfl z.l, z.fr K44 (Cx25_24.st p33 rfl rfl).rd rfl, z.ky K44⟩
def spec_TreeOk.f (a0 : Tree) : Option (Bool) :=
 ((spec_l11look.f a0).bind fun r6 => (some r6.2))
def spec_TreeOk.Q (w : World) (F : Nat → Prop) (r : Bool) (v : Value) (w' : World) : Prop :=
 v = (.bool r) ∧ Ky [] w w'
theorem spec_TreeOk.calls (a0 : Tree) (w : World) (F : Nat → Prop) (w0_0 : Value) (h0_0 : Yp.rd w [w0_0] a0.Nodes F) (r : Bool) (m : spec_TreeOk.f a0 = some r) :
  Calls prog 18 #[(.agg #[w0_0, (iI a0.Root)])] w (RT (spec_TreeOk.Q w F) r) := by
 obtain ⟨s0, rfl, kp0, z⟩ := Xn w F
 refine Xf (args := [(.agg #[w0_0, (iI a0.Root)])]) func18 ntmps18 rfl rfl m ?_
 unfold spec_TreeOk.f
 refine sr (bx' (cs := [w0_0, (iI a0.Root)]) 40 rfl rfl (fun b2 s2 p2 B2 => ?_))
 refine Xb rfl (dn (sr (Yl (es := [w0_0, (iI a0.Root)]) B2 u33 z33 rfl ?_)))
 have K4 := kp0.st p2 rfl
 refine cl' rfl func39 rfl (spec_l11look.calls a0 s2.w (mm [0] s2) w0_0 ((z.rd h0_0).kp K4)) ?_
 rintro r6 _ w6 m6 ⟨v6_0, v6_1, v6_2, rfl, f6_0, f6_1, f6_2, ky6⟩
 obtain ⟨s7, rfl, p7, n7⟩ := nwx s2 w6 41 ky6
 refine Xb rfl (Xb (v := (pB v6_0)) rfl (Xb (v := (.bool r6.2)) rfl (Xb rfl (Xb rfl (dn (sr (Xb rfl (Xb rfl (dn ?_)))))))))
 exact re rfl func18 rfl (Xv rfl Xg) rfl ⟨_, rfl, rfl, z.ky (K4.st p7 rfl)⟩
def spec_l11entries.b0 (a0 : (List Entry)) (x2 : (List Entry) × Int) : Option (((List Entry) × Int) ⊕ (List Entry)) :=
 (if (decide (x2.2 < (a0.length : Int))) = true then (if 0 ≤ x2.2 ∧ x2.2 < (a0.length : Int) then (if 0 ≤ x2.2 ∧ x2.2 < (a0.length : Int) then ((spec_l3copy.f ((at_ a0 x2.2).Key)).bind fun r28 => (if x2.1.length + ([(Entry.mk r28 ((at_ a0 x2.2).Id))]).length ≤ Lim then (some (Sum.inl ((x2.1 ++ [(Entry.mk r28 ((at_ a0 x2.2).Id))]), (IntKind.wrap .i64 (x2.2 + (1 : Int)))))) else none)) else none) else none) else ((some x2.1).bind fun o => some (Sum.inr o)))
def spec_l11entries.f (a0 : (List Entry)) : Option ((List Entry)) :=
 (iter (spec_l11entries.b0 a0) (([] : (List Entry)), (0 : Int)))
def spec_l11entries.Q (w : World) (F : Nat → Prop) (r : (List Entry)) (v : Value) (w' : World) : Prop :=
 FO Yn w w' [v] r ∧ Ky [] w w'
theorem spec_l11entries.calls (a0 : (List Entry)) (w : World) (F : Nat → Prop) (w0_0 : Value) (h0_0 : Yn.rd w [w0_0] a0 F) (r : (List Entry)) (m : spec_l11entries.f a0 = some r) :
  Calls prog 24 #[w0_0] w (RT (spec_l11entries.Q w F) r) := by
 obtain ⟨s0, rfl, kp0, z⟩ := Xn w F
 have A0_0 := z.rd h0_0
 refine Xf (args := [w0_0]) func24 ntmps24 rfl rfl m ?_
 unfold spec_l11entries.f
 refine sr (Xb rfl (dn (sr (Xb rfl (dn (sq (sr (Xb rfl (dn (bl (lpI (fun (x2 : (List Entry) × Int) e w => ∃ (s : St) (e0 : Env) (vx2_0 : Value), w = s.w ∧ e = upd (upd (upd e0 0 w0_0) 3 vx2_0) 4 (iI x2.2) ∧ Kp s0 s ∧ OwF Yn s [vx2_0] x2.1 41) ⟨s0, _, (.slice none 0 0), rfl, (ue (ue (ue rfl rfl) rfl) rfl), kp0, (ow_nil 48 kd48 _ 41)⟩ (fun g2 ih2 => ?_))))))))))))
 rintro x2 _ _ ⟨s3, _, vx2_0, rfl, rfl, Kx2, Ax2_0⟩
 unfold spec_l11entries.b0
 refine sq (sr (Xb rfl (Xw w0_0 rfl ?_)))
 refine ln' (A0_0.kp Kx2) u52 rfl (Xb rfl (dn (cd rfl (fun h6 => ?_) (fun h6 => ?_))))
 ·
  refine sk (sq (bl (Ya [[], [], [], [1, 2], [3], [4], [5], [], [], [7, 8], [9], [10], [6, 11], [12], [0, 13, 6], [14, 14, 0, 1, 2, 3, 4, 5, 6, 7, 8, 9, 10, 11, 12, 13, 14]] [some 11, some 12, some 13, some 14, some 15, some 16, some 17, some 18, some 19, some 20, some 21, some 22, some 23, some 24, some 25, some 3] [[3], [0], [4], [12, 13], [14], [15], [16], [0], [4], [18, 19], [20], [21], [17, 22], [23], [11, 24], [25]] [0, 1, 2, 3, 4, 5, 6, 7, 8, 9, 10, 11, 12, 13, 14, 15] ⟨by kernel_rfl, by kernel_rfl, by kernel_rfl⟩ (by kernel_rfl) (fun s7 p7 l7 tb7 zd7 => ?_))))
  have K11 := Kx2.st p7 rfl
  have A12 := A0_0.kp K11
  refine mg fun hg13 => ?_
  obtain ⟨ad13, es13, he13, ce13, ia13⟩ := ix_e A12 rfl hg13.1 hg13.2
  obtain ⟨v13_0, v13_1, rfl, A13_0, A13_1⟩ := op48 he13
  refine mg fun hg21 => ?_
  obtain ⟨ad21, es21, he21, ce21, ia21⟩ := ix_e A12 rfl hg21.1 hg21.2
  obtain ⟨v21_0, v21_1, rfl, A21_0, A21_1⟩ := op48 he21
  refine Xm 6 [some 22, some 21, some 20, some 19, some 18, some 11] tb7 (((((((((((zd7.add 0 11 vx2_0 rfl).add 1 12 w0_0 rfl).add 2 13 (iI x2.2) rfl).add 3 14 (.pointer (some ad13)) rfl).add 4 15 (.pointer (some ad13)) rfl).add 5 16 (.agg #[(iI (((at_ a0 x2.2).Key).Kind)), (iI (((at_ a0 x2.2).Key).N)), v13_0, v13_1]) rfl).add 7 18 w0_0 rfl).add 8 19 (iI x2.2) rfl).add 9 20 (.pointer (some ad21)) rfl).add 10 21 (.pointer (some (ad21.add 4))) rfl).add 11 22 (iI ((at_ a0 x2.2).Id)) rfl) (Xa (lc_q ce21 u3 rfl rfl rfl rfl rfl rfl rfl rfl) rfl (Xa (Xj fa48_1 rfl) rfl (Xa (Yg A12 u52 z48 hg21.1 hg21.2 ia21 rfl) rfl (Xa (Xc rfl) rfl (Xa (Xq w0_0 rfl) rfl (Xa (lcq_q (q := 0) (es' := [(iI (((at_ a0 x2.2).Key).Kind)), (iI (((at_ a0 x2.2).Key).N)), v13_0, v13_1]) ce13 u37 z37 rfl rfl rfl rfl rfl rfl rfl rfl) rfl (Xa (Xj fa48_0 rfl) rfl (Xa (Yg A12 u52 z48 hg13.1 hg13.2 ia13 rfl) rfl (Xa (Xc rfl) rfl (Xa (Xq w0_0 rfl) rfl (Xa (Xq vx2_0 rfl) rfl Xe))))))))))) (by kernel_rfl) rfl (fun l27 e27 zd27 => ?_)
  refine cl' rfl func17 rfl (spec_l3copy.calls ((at_ a0 x2.2).Key) s7.w (mm [0] s7) v13_0 v13_1 ((Xk (s := s7) A13_0).sub (D := [0]) rfl) A13_1) ?_
  rintro r28 _ w28 m28 ⟨v28_0, v28_1, rfl, f28_0, ky28⟩
  obtain ⟨s29, rfl, p29, n29⟩ := nwx s7 w28 42 ky28
  obtain ⟨hu28_0_0, Au28_0_1⟩ := ap37 (f28_0.c n29)
  refine Xh (L' := [11, 10, 9, 8, 7, 0]) (D' := [1, 2, 3, 4, 5, 6]) zd27 rfl (fun zd31 => ?_)
  have K34 := K11.st p29 rfl
  refine Xm 13 [some 11] tb7 (zd31.add 12 23 (.agg #[(iI r28.Kind), (iI r28.N), v28_0, v28_1, (iI ((at_ a0 x2.2).Id))]) rfl) (Xa (bd_q' (cells := [(iI r28.Kind), (iI r28.N), v28_0, v28_1, (iI ((at_ a0 x2.2).Id))]) pl48 o48 rfl rfl) rfl (Xa (lc_q (ce21.st p29 rfl rfl) u3 rfl rfl rfl rfl rfl rfl rfl rfl) rfl (Xa (Xj fa48_1 rfl) rfl (Xa (Yg (A0_0.kp K34) u52 z48 hg21.1 hg21.2 ia21 rfl) rfl (Xa (Xc rfl) rfl (Xa (Xq w0_0 rfl) rfl (Xa (Xq vx2_0 rfl) rfl Xe))))))) (by kernel_rfl) rfl (fun l33 e33 zd33 => ?_)
  have A37 : OwF kd48 s29 [(iI r28.Kind), (iI r28.N), v28_0, v28_1, (iI ((at_ a0 x2.2).Id))] (Entry.mk r28 ((at_ a0 x2.2).Id)) 42 := (Xz (fun x : Entry => (x.Key, x.Id)) (Entry.mk r28 ((at_ a0 x2.2).Id)) (ow_r (Xz (fun x : Item => (x.Kind, x.N, x.F, x.T)) r28 (ow_l (Yc .i64 r28.Kind) (ow_l (Yc .i64 r28.N) (ow_l (fz_flt hu28_0_0) Au28_0_1)))) (Yc .i64 ((at_ a0 x2.2).Id))))
  refine ltO (K := kd48) (cells := [(iI r28.Kind), (iI r28.N), v28_0, v28_1, (iI ((at_ a0 x2.2).Id))]) [(Entry.mk r28 ((at_ a0 x2.2).Id))] 42 u52 z48 o48 (lo_one A37) rfl rfl rfl rfl rfl rfl rfl rfl rfl rfl (fun v40 s40 p40 A40 => ?_)
  refine Xh (L' := [0]) (D' := [7, 8, 9, 10, 11, 12, 13, 1, 2, 3, 4, 5, 6]) zd33 rfl (fun zd42 => ?_)
  refine Xu [14, 15] tb7 zd42 (Xa (Xq vx2_0 rfl) rfl Xe) (by kernel_rfl) (by decide) (apO sl52 (Ax2_0.st (Ye p7 p29 p40) rfl) A40 rfl rfl rfl rfl rfl rfl rfl rfl rfl (fun v44 s44 p44 A44 => ?_))
  refine asg' v44 rfl (dn (ib (rg (Xb rfl (Xb rfl (Xb rfl (dn ?_)))))))
  exact lb ih2 ⟨s44, _, v44, rfl, (ue (ue (ue rfl rfl) rfl) rfl), (K34.st (Xo p40 p44) rfl), A44⟩
 exact xt rfl (sgb (sr (Xw vx2_0 rfl (asg' vx2_0 rfl (dn (re rfl func24 rfl (Xv rfl Xg) rfl ⟨_, rfl, Ax2_0.fo Kx2 rfl z.l, z.ky Kx2⟩))))))
def spec_TreeAll.f (a0 : Tree) : Option ((List Entry)) :=
 ((spec_l11look.f a0).bind fun r6 => (if (!r6.2) = true then (some ([] : (List Entry))) else ((spec_l11entries.f r6.1.all).bind fun r13 => (some r13))))
def spec_TreeAll.Q (w : World) (F : Nat → Prop) (r : (List Entry)) (v : Value) (w' : World) : Prop :=
 FO Yn w w' [v] r ∧ Ky [] w w'
theorem spec_TreeAll.calls (a0 : Tree) (w : World) (F : Nat → Prop) (w0_0 : Value) (h0_0 : Yp.rd w [w0_0] a0.Nodes F) (r : (List Entry)) (m : spec_TreeAll.f a0 = some r) :
  Calls prog 21 #[(.agg #[w0_0, (iI a0.Root)])] w (RT (spec_TreeAll.Q w F) r) := by
 obtain ⟨s0, rfl, kp0, z⟩ := Xn w F
 refine Xf (args := [(.agg #[w0_0, (iI a0.Root)])]) func21 ntmps21 rfl rfl m ?_
 unfold spec_TreeAll.f
 refine sr (bx' (cs := [w0_0, (iI a0.Root)]) 40 rfl rfl (fun b2 s2 p2 B2 => ?_))
 refine Xb rfl (dn (sr (Yl (es := [w0_0, (iI a0.Root)]) B2 u33 z33 rfl ?_)))
 have K4 := kp0.st p2 rfl
 refine cl' rfl func39 rfl (spec_l11look.calls a0 s2.w (mm [0] s2) w0_0 ((z.rd h0_0).kp K4)) ?_
 rintro r6 _ w6 m6 ⟨v6_0, v6_1, v6_2, rfl, f6_0, f6_1, f6_2, ky6⟩
 obtain ⟨s7, rfl, p7, n7⟩ := nwx s2 w6 41 ky6
 refine Xb rfl (Xb (v := (pB v6_0)) rfl (Xb (v := (.bool r6.2)) rfl (Xb rfl (Xb rfl (dn (sq (sr (Xb rfl (Xb rfl (dn (cd rfl (fun h11 => ?_) (fun h11 => ?_))))))))))))
 ·
  refine sr (Xb rfl (dn ?_))
  have K12 := K4.st p7 rfl
  exact re rfl func21 rfl (Xv rfl Xg) rfl ⟨_, rfl, (ow_nil 48 kd48 s7 40).fo K12 rfl z.l, z.ky K12⟩
 refine sk (sr (Xb rfl (Xb rfl (Xs fa84_3 rfl (Yb (f6_0.c n7) u52 rfl (clO 42 rfl func24 rfl (spec_l11entries.calls r6.1.all s7.w (mm [41, 0] s7) v6_2 (f6_2.c n7)) (fun r13 v13_0 s14 p14 A13_0 => ?_)))))))
 refine asg' v13_0 rfl (dn ?_)
 have K16 := K4.st (Xo p7 p14) rfl
 exact re rfl func21 rfl (Xv rfl Xg) rfl ⟨_, rfl, A13_0.fo K16 rfl z.l, z.ky K16⟩
def spec_l11there.b0 (a0 : (List Entry)) (a1 : Entry) (x5 : Int) : Option (Int ⊕ Bool) :=
 (if (decide (x5 < (a0.length : Int))) = true then (if 0 ≤ x5 ∧ x5 < (a0.length : Int) then ((spec_l11less.f (Entry.mk ((at_ a0 x5).Key) ((at_ a0 x5).Id)) a1).bind fun r26 => ((if (!r26) = true then (if 0 ≤ x5 ∧ x5 < (a0.length : Int) then ((spec_l11less.f a1 (Entry.mk ((at_ a0 x5).Key) ((at_ a0 x5).Id))).bind fun r45 => (some (!r45))) else none) else (some false)).bind fun y31 => (if y31 = true then (some (Sum.inr true)) else (some (Sum.inl (IntKind.wrap .i64 (x5 + (1 : Int)))))))) else none) else ((some false).bind fun o => some (Sum.inr o)))
def spec_l11there.f (a0 : (List Entry)) (a1 : Entry) : Option (Bool) :=
 (iter (spec_l11there.b0 a0 a1) (0 : Int))
def spec_l11there.Q (w : World) (F : Nat → Prop) (r : Bool) (v : Value) (w' : World) : Prop :=
 v = (.bool r) ∧ Ky [] w w'
theorem spec_l11there.calls (a0 : (List Entry)) (a1 : Entry) (w : World) (F : Nat → Prop) (w0_0 : Value) (w1_0 : Value) (w1_1 : Value) (h0_0 : Yn.rd w [w0_0] a0 F) (h1_0 : Kd.flt.rd w [w1_0] a1.Key.F F) (h1_1 : Ym.rd w [w1_1] a1.Key.T F) (r : Bool) (m : spec_l11there.f a0 a1 = some r) :
  Calls prog 20 #[w0_0, (.agg #[(iI a1.Key.Kind), (iI a1.Key.N), w1_0, w1_1, (iI a1.Id)])] w (RT (spec_l11there.Q w F) r) := by
 obtain ⟨s0, rfl, kp0, z⟩ := Xn w F
 have A0_0 := z.rd h0_0
 have A1_0 := Yj h1_0
 have A1_1 := z.rd h1_1
 refine Xf (args := [w0_0, (.agg #[(iI a1.Key.Kind), (iI a1.Key.N), w1_0, w1_1, (iI a1.Id)])]) func20 ntmps20 rfl rfl m ?_
 unfold spec_l11there.f
 refine sr (bx' (cs := [(iI a1.Key.Kind), (iI a1.Key.N), w1_0, w1_1, (iI a1.Id)]) 40 rfl rfl (fun b3 s3 p3 B3 => ?_))
 refine Xb rfl (dn (sq (sr (Xb rfl (dn (bl ?_))))))
 refine lpI (fun (x5 : Int) e w => ∃ (s : St) (e0 : Env), w = s.w ∧ e = upd (upd (upd e0 0 w0_0) 3 (pB b3)) 5 (iI x5) ∧ Kp s0 s ∧ BlF s b3 48 [(iI a1.Key.Kind), (iI a1.Key.N), w1_0, w1_1, (iI a1.Id)] 40) ⟨s3, _, rfl, (ue (ue (ue rfl rfl) rfl) rfl), (kp0.st p3 rfl), B3⟩ (fun g5 ih5 => ?_)
 rintro x5 _ _ ⟨s7, _, rfl, rfl, Kx5, Bx5_b3⟩
 unfold spec_l11there.b0
 refine sq (sr (Xb rfl (Xw w0_0 rfl ?_)))
 refine ln' (A0_0.kp Kx5) u52 rfl (Xb rfl (dn (cd rfl (fun h10 => ?_) (fun h10 => ?_))))
 ·
  refine sk (sq (bl (sq (Ya [[], [], [0, 1], [2], [], [3, 4], [5], [6, 5], [7], [7], [7], [9, 10, 7], [11, 7], [8, 12, 7, 7], [13, 7], [7, 14]] [some 12, some 13, some 14, some 15, some 16, some 17, some 18, some 19, some 20, some 21, some 22, some 23, some 24, some 25, some 26, some 27] [[0], [5], [12, 13], [14], [3], [15, 16], [17], [18], [3, 19], [0, 19], [5, 19], [21, 22, 19], [23, 19], [20, 24, 19], [25, 19], [19, 26]] [0, 1, 2, 3, 4, 5, 6, 7, 8, 9, 10, 11, 12, 13, 14, 15] ⟨by kernel_rfl, by kernel_rfl, by kernel_rfl⟩ (by kernel_rfl) (fun s11 p11 l11 tb11 zd11 => ?_)))))
  have K14 := Kx5.st p11 rfl
  have A15 := A0_0.kp K14
  refine mg fun hg16 => ?_
  obtain ⟨ad16, es16, he16, ce16, ia16⟩ := ix_e A15 rfl hg16.1 hg16.2
  obtain ⟨v16_0, v16_1, rfl, A16_0, A16_1⟩ := op48 he16
  refine Xm 5 [] tb11 (((((zd11.add 0 12 w0_0 rfl).add 1 13 (iI x5) rfl).add 2 14 (.pointer (some ad16)) rfl).add 3 15 (.agg #[(iI (((at_ a0 x5).Key).Kind)), (iI (((at_ a0 x5).Key).N)), v16_0, v16_1, (iI ((at_ a0 x5).Id))]) rfl).add 4 16 (.agg #[(iI a1.Key.Kind), (iI a1.Key.N), w1_0, w1_1, (iI a1.Id)]) rfl) (Xa (Xp (es := [(iI a1.Key.Kind), (iI a1.Key.N), w1_0, w1_1, (iI a1.Id)]) (Bx5_b3.st p11 rfl) u48 z48 rfl) rfl (Xa (lca_q' ce16 u48 z48 rfl) rfl (Xa (Yg A15 u52 z48 hg16.1 hg16.2 ia16 rfl) rfl (Xa (Xc rfl) rfl (Xa (Xq w0_0 rfl) rfl Xe))))) (by kernel_rfl) rfl (fun l23 e23 zd23 => ?_)
  refine clV 41 rfl func42 rfl (spec_l11less.calls (Entry.mk ((at_ a0 x5).Key) ((at_ a0 x5).Id)) a1 s11.w (mm [0] s11) v16_0 v16_1 w1_0 w1_1 ((Xk (s := s11) A16_0).sub (D := [0]) rfl) A16_1 ((Xk (s := s11) A1_0).sub (D := [0]) rfl) (A1_1.kp K14)) (fun r26 s27 p27 n27 => ?_)
  refine Xh (L' := []) (D' := [0, 1, 2, 3, 4, 5]) zd23 rfl (fun zd28 => ?_)
  have zd30 := (zd28.add 6 18 (.bool (!r26)) rfl).add 7 19 (.bool (!r26)) rfl
  refine ji [] (fun (y31 : Bool) e w => ∃ (s : St) (e0 : Env), w = s.w ∧ e = upd (upd (upd (upd e0 0 w0_0) 3 (pB b3)) 5 (iI x5)) 27 (.bool y31) ∧ Kp s0 s ∧ BlF s b3 48 [(iI a1.Key.Kind), (iI a1.Key.N), w1_0, w1_1, (iI a1.Id)] 40) (fun Gj31 Kj31 => ?_) ?_
  ·
   rcases bft (!r26) with hb31 | hb31
   ·
    rw [if_pos hb31]
    rw [hb31] at zd30
    try rw [hb31]
    have K36 := K14.st p27 rfl
    have A37 := A0_0.kp K36
    refine mg fun hg38 => ?_
    obtain ⟨ad38, es38, he38, ce38, ia38⟩ := ix_e A37 rfl hg38.1 hg38.2
    obtain ⟨v38_0, v38_1, rfl, A38_0, A38_1⟩ := op48 he38
    refine Xu [13, 14, 15] tb11 (((((zd30.add 8 20 (.agg #[(iI a1.Key.Kind), (iI a1.Key.N), w1_0, w1_1, (iI a1.Id)]) rfl).add 9 21 w0_0 rfl).add 10 22 (iI x5) rfl).add 11 23 (.pointer (some ad38)) rfl).add 12 24 (.agg #[(iI (((at_ a0 x5).Key).Kind)), (iI (((at_ a0 x5).Key).N)), v38_0, v38_1, (iI ((at_ a0 x5).Id))]) rfl) (Xa (lca_q' ce38 u48 z48 rfl) rfl (Xa (Yg A37 u52 z48 hg38.1 hg38.2 ia38 rfl) rfl (Xa (Xc rfl) rfl (Xa (Xq w0_0 rfl) rfl (Xa (Xp (es := [(iI a1.Key.Kind), (iI a1.Key.N), w1_0, w1_1, (iI a1.Id)]) (Bx5_b3.st (Xo p11 p27) rfl) u48 z48 rfl) rfl (Xa (Xc rfl) rfl (Xa (qv_b (Xc rfl) hb31) rfl Xe))))))) (by kernel_rfl) (by decide) (clV 42 rfl func42 rfl (spec_l11less.calls a1 (Entry.mk ((at_ a0 x5).Key) ((at_ a0 x5).Id)) s27.w (mm [0] s27) w1_0 w1_1 v38_0 v38_1 ((Xk (s := s27) A1_0).sub (D := [0]) rfl) (A1_1.kp K36) ((Xk (s := s27) A38_0).sub (D := [0]) rfl) A38_1) (fun r45 s46 p46 n46 => ?_))
    refine Xb rfl (Xb rfl ?_)
    exact Kj31 _ _ _ ⟨s46, _, rfl, (ue (ue (ue (ue rfl rfl) rfl) rfl) rfl), (K36.st p46 rfl), (Bx5_b3.st (Ye p11 p27 p46) rfl)⟩
   rw [if_neg (by rw [hb31]; decide)]
   rw [hb31] at zd30
   try rw [hb31]
   refine Xu [13, 14, 15] tb11 (((((zd30.add 8 20 undef rfl).add 9 21 undef rfl).add 10 22 undef rfl).add 11 23 undef rfl).add 12 24 undef rfl) (Xa (Xi rfl) rfl (Xa (Xi rfl) rfl (Xa (Xi rfl) rfl (Xa (Xi rfl) rfl (Xa (Xi rfl) rfl (Xa (Xc rfl) rfl (Xa (qv_b (Xc rfl) hb31) rfl Xe))))))) (by kernel_rfl) (by decide) (Xr rfl (Xr rfl (Xb rfl ?_)))
   exact Kj31 _ _ _ ⟨s27, _, rfl, (ue (ue (ue (ue rfl rfl) rfl) rfl) rfl), (K14.st p27 rfl), (Bx5_b3.st (Xo p11 p27) rfl)⟩
  rintro y31 _ _ ⟨s56, _, rfl, rfl, Ky31, By31_b3⟩
  refine dn (cd rfl (fun h58 => ?_) (fun h58 => ?_))
  ·
   exact sr (Xb rfl (dn (sgi (re rfl func20 rfl (Xv rfl Xg) rfl ⟨_, rfl, rfl, z.ky Ky31⟩))))
  exact sk (ib (rg (Xb rfl (Xb rfl (Xb rfl (dn (lb ih5 ⟨s56, _, rfl, (ue (ue (ue rfl rfl) rfl) rfl), Ky31, By31_b3⟩)))))))
 exact xt rfl (sgb (sr (Xb rfl (dn (re rfl func20 rfl (Xv rfl Xg) rfl ⟨_, rfl, rfl, z.ky Kx5⟩)))))
def spec_l11copy.b0 (a0 : Tree) (x11 : Int × (List Node)) : Option ((Int × (List Node)) ⊕ Tree) :=
 (if (decide (x11.1 < (a0.Nodes.length : Int))) = true then (if 0 ≤ x11.1 ∧ x11.1 < (a0.Nodes.length : Int) then (((spec_l11entries.f ((at_ a0.Nodes x11.1).Entries)).bind fun r53 => (if ([] : (List Int)).length + ((at_ a0.Nodes x11.1).Kids).length ≤ Lim then (some ([(Node.mk ((at_ a0.Nodes x11.1).Leaf) r53 (([] : (List Int)) ++ (at_ a0.Nodes x11.1).Kids))])) else none)).bind fun y45 => (if x11.2.length + y45.length ≤ Lim then (some (Sum.inl ((IntKind.wrap .i64 (x11.1 + (1 : Int))), (x11.2 ++ y45)))) else none)) else none) else ((some (Tree.mk x11.2 a0.Root)).bind fun o => some (Sum.inr o)))
def spec_l11copy.f (a0 : Tree) : Option (Tree) :=
 (iter (spec_l11copy.b0 a0) ((0 : Int), ([] : (List Node))))
def spec_l11copy.Q (w : World) (F : Nat → Prop) (r : Tree) (v : Value) (w' : World) : Prop :=
 ∃ (v0 : Value), v = (.agg #[v0, (iI r.Root)]) ∧ FO kd33 w w' [v0, (iI r.Root)] r ∧ Ky [] w w'
theorem spec_l11copy.calls (a0 : Tree) (w : World) (F : Nat → Prop) (w0_0 : Value) (h0_0 : Yp.rd w [w0_0] a0.Nodes F) (r : Tree) (m : spec_l11copy.f a0 = some r) :
  Calls prog 22 #[(.agg #[w0_0, (iI a0.Root)])] w (RT (spec_l11copy.Q w F) r) := by
 obtain ⟨s0, rfl, kp0, z⟩ := Xn w F
 refine Xf (args := [(.agg #[w0_0, (iI a0.Root)])]) func22 ntmps22 rfl rfl m ?_
 unfold spec_l11copy.f
 refine sr (bx' (cs := [w0_0, (iI a0.Root)]) 40 rfl rfl (fun b2 s2 p2 B2 => ?_))
 refine al' (cs := [(.slice none 0 0), (iI 0)]) 41 rfl o33 rfl (fun b4 s4 p4 B4 => ?_)
 refine dn (sr (Xs fa33_1 rfl ?_))
 have A6 := B2.st p4 rfl
 refine Yb A6 u3 rfl (bd (cells := [(.slice none 0 0), (iI a0.Root)]) pl33 o33 rfl rfl rfl rfl rfl rfl (al' (cs := [(.slice none 0 0), (iI 0)]) 42 rfl o33 rfl (fun b7 s7 p7 B7 => ?_)))
 refine Yk (vs := [(.slice none 0 0), (iI a0.Root)]) B7 z33 rfl (Xd rfl (Xd rfl Xt)) rfl (fun s9 p9 B9 => ?_)
 refine dn (sq (sr (Xb rfl (dn (bl ?_)))))
 refine lpI (fun (x11 : Int × (List Node)) e w => ∃ (s : St) (e0 : Env) (vx11_0 : Value), w = s.w ∧ e = upd (upd (upd (upd e0 1 (pB b2)) 2 (pB b4)) 3 (pB b7)) 4 (iI x11.1) ∧ Kp s0 s ∧ OwF Yp s [vx11_0] x11.2 43 ∧ BlF s b7 33 [vx11_0, (iI a0.Root)] 42 ∧ BlF s b4 33 [(.slice none 0 0), (iI 0)] 41 ∧ BlF s b2 33 [w0_0, (iI a0.Root)] 40) ⟨s9, _, (.slice none 0 0), rfl, (ue (ue (ue (ue rfl rfl) rfl) rfl) rfl), (kp0.st (Yf p2 p4 p7 p9) rfl), (ow_nil 61 kd61 _ 43), B9, (B4.st (Xo p7 p9) rfl), (A6.st (Xo p7 p9) rfl)⟩ (fun g11 ih11 => ?_)
 rintro x11 _ _ ⟨s15, _, vx11_0, rfl, rfl, Kx11, Ax11_0, Bx11_b7, Bx11_b4, Bx11_b2⟩
 unfold spec_l11copy.b0
 refine sq (sr (Xb rfl (Xs fa33_0 rfl (Yb Bx11_b2 u31 rfl ?_))))
 have A20 := (z.rd h0_0).kp Kx11
 refine ln' A20 u31 rfl (Xb rfl (dn (cd rfl (fun h21 => ?_) (fun h21 => ?_))))
 ·
  refine sk (sq (bl (sr (Xs fa33_0 rfl (Yb Bx11_b2 u31 rfl (Xb rfl (ix' A20 u31 z61 rfl (fun ad22 es22 h0_22 h1_22 he22 ce22 ia22 => ?_))))))))
  obtain ⟨v22_0, v22_1, rfl, A22_0, A22_1⟩ := op61 he22
  refine lca ce22 u61 z61 rfl rfl rfl rfl rfl rfl rfl (al' (cs := [(.bool false), (.slice none 0 0), (.slice none 0 0)]) 44 rfl o61 rfl (fun b26 s26 p26 B26 => ?_))
  have A28 := A22_1.st p26 rfl
  have A29 := A22_0.st p26 rfl
  refine Yk (vs := [(.bool ((at_ a0.Nodes x11.1).Leaf)), v22_0, v22_1]) B26 z61 rfl (Xd rfl (Xd A29.one (Xd A28.one Xt))) rfl (fun s30 p30 B30 => ?_)
  refine dn (Ya [[], [0], [], [2], [], [4], [5], [], [], [8], [7, 9, 6], [3, 6, 10], [11], [1, 12, 10], [0, 1, 2, 3, 4, 5, 6, 7, 8, 9, 10, 11, 12, 13], [14, 13, 13, 0, 1, 2, 3, 4, 5, 6, 7, 8, 9, 10, 11, 12, 13]] [some 21, some 22, some 23, some 24, some 25, some 26, some 27, some 28, some 29, some 30, some 31, some 32, some 33, some 34, some 35, none] [[3], [21], [5], [23], [5], [25], [26], [], [5], [29], [28, 30], [24, 27, 31], [32], [22, 33], [3], [35, 34]] [0, 1, 2, 3, 4, 5, 6, 7, 8, 9, 10, 11, 12, 13, 14, 15] ⟨by kernel_rfl, by kernel_rfl, by kernel_rfl⟩ (by kernel_rfl) (fun s32 p32 l32 tb32 zd32 => ?_))
  refine ji [13, 14, 15] (fun (y45 : (List Node)) e w => ∃ (s : St) (e0 : Env) (vy45_0 : Value), w = s.w ∧ e = upd (upd (upd (upd (upd (upd e0 1 (pB b2)) 2 (pB b4)) 3 (pB b7)) 4 (iI x11.1)) 22 vx11_0) 33 vy45_0 ∧ Kp s0 s ∧ OwF Yp s [vy45_0] y45 45 ∧ BlF s b7 33 [vx11_0, (iI a0.Root)] 42 ∧ BlF s b4 33 [(.slice none 0 0), (iI 0)] 41 ∧ BlF s b2 33 [w0_0, (iI a0.Root)] 40 ∧ OwF Yp s [vx11_0] x11.2 43) (fun Gj45 Kj45 => ?_) ?_
  ·
   refine zstep2 6 7 [some 30, some 29, some 24, some 23, some 22, some 21] [some 30, some 29, some 26, some 25, some 24, some 23, some 22, some 21] tb32 ((((((((zd32.add 0 21 (pB b7) rfl).add 1 22 vx11_0 rfl).add 2 23 (pB b26) rfl).add 3 24 (.bool ((at_ a0.Nodes x11.1).Leaf)) rfl).add 4 25 (pO b26 1) rfl).add 5 26 v22_0 rfl).add 8 29 (pO b26 2) rfl).add 9 30 v22_1 rfl) (Xa (Xl (B30.st p32 rfl) u59 rfl) rfl (Xa (Xj fa61_2 rfl) rfl (Xa (Xl (B30.st p32 rfl) u52 rfl) rfl (Xa (Xj fa61_1 rfl) rfl (Xa (Xl (B30.st p32 rfl) u4 rfl) rfl (Xa (Xj fa61_0 rfl) rfl (Xa (Xl (Bx11_b7.st (Ye p26 p30 p32) rfl) u31 rfl) rfl (Xa (Xj fa33_0 rfl) rfl Xe)))))))) (by kernel_rfl) (by kernel_rfl) (fun l46 e46 zd46 => ?_) (fun l47 e47 zd47 => ?_)
   ·
    refine clO 46 rfl func24 rfl (spec_l11entries.calls ((at_ a0.Nodes x11.1).Entries) s32.w (mm [0] s32) v22_0 (A29.st (Xo p30 p32) rfl)) (fun r53 v53_0 s54 p54 A53_0 => ?_)
    refine Xh (L' := [9, 8, 3, 2, 1, 0]) (D' := [4, 5, 6]) zd46 rfl (fun zd56 => ?_)
    refine Xm 7 [some 30, some 29, some 24, some 23, some 22, some 21] tb32 zd56 (Xa (Xl (B30.st (Xo p32 p54) rfl) u59 rfl) rfl (Xa (Xj fa61_2 rfl) rfl (Xa (Xl (B30.st (Xo p32 p54) rfl) u4 rfl) rfl (Xa (Xj fa61_0 rfl) rfl (Xa (Xl (Bx11_b7.st (Yf p26 p30 p32 p54) rfl) u31 rfl) rfl (Xa (Xj fa33_0 rfl) rfl Xe)))))) (by kernel_rfl) rfl (fun l57 e57 zd57 => ?_)
    refine lt0 (K := (Kd.int .i64)) 47 u59 z3 rfl rfl rfl rfl rfl (fun v61 s61 p61 A61 => ?_)
    refine Xh (L' := [9, 8, 3, 2, 1, 0]) (D' := [7, 4, 5, 6]) zd57 rfl (fun zd63 => ?_)
    refine Xm 10 [some 24, some 23, some 22, some 21] tb32 zd63 (Xa (Xl (B30.st (Ye p32 p54 p61) rfl) u59 rfl) rfl (Xa (Xj fa61_2 rfl) rfl (Xa (Xl (B30.st (Ye p32 p54 p61) rfl) u4 rfl) rfl (Xa (Xj fa61_0 rfl) rfl (Xa (Xl (Bx11_b7.st (tr5 p26 p30 p32 p54 p61) rfl) u31 rfl) rfl (Xa (Xj fa33_0 rfl) rfl Xe)))))) (by kernel_rfl) rfl (fun l64 e64 zd64 => ?_)
    refine apF Yd sl59 A61 (A28.st (Yf p30 p32 p54 p61) rfl) rfl rfl rfl rfl rfl rfl rfl (fun v69 s69 p69 A69 => ?_)
    refine Xh (L' := [3, 2, 1, 0]) (D' := [8, 9, 10, 7, 4, 5, 6]) zd64 rfl (fun zd71 => ?_)
    refine Xm 12 [some 22, some 21] tb32 (zd71.add 11 32 (.agg #[(.bool ((at_ a0.Nodes x11.1).Leaf)), v53_0, v69]) rfl) (Xa (bd_q' (cells := [(.bool ((at_ a0.Nodes x11.1).Leaf)), v53_0, v69]) pl61 o61 rfl (Xx (Yh rfl (Yh (oc (A53_0.st (Xo p61 p69) rfl).rd.one) (Yh (oc A69.rd.one) pc_n))) rfl)) rfl (Xa (Xl (B30.st (Yf p32 p54 p61 p69) rfl) u4 rfl) rfl (Xa (Xj fa61_0 rfl) rfl (Xa (Xl (Bx11_b7.st (tr6 p26 p30 p32 p54 p61 p69) rfl) u31 rfl) rfl (Xa (Xj fa33_0 rfl) rfl Xe))))) (by kernel_rfl) rfl (fun l74 e74 zd74 => ?_)
    obtain ⟨s79, hw79, p79, A79⟩ := ow_2 (A53_0.st (Xo p61 p69) rfl) A69 rfl rfl
    rw [hw79]
    have A81 : OwF kd61 s79 [(.bool ((at_ a0.Nodes x11.1).Leaf)), v53_0, v69] (Node.mk ((at_ a0.Nodes x11.1).Leaf) r53 (([] : (List Int)) ++ (at_ a0.Nodes x11.1).Kids)) 46 := (Xz (fun x : Node => (x.Leaf, x.Entries, x.Kids)) (Node.mk ((at_ a0.Nodes x11.1).Leaf) r53 (([] : (List Int)) ++ (at_ a0.Nodes x11.1).Kids)) (ow_l (fz_bool ((at_ a0.Nodes x11.1).Leaf)) A79))
    refine ltO (K := kd61) (cells := [(.bool ((at_ a0.Nodes x11.1).Leaf)), v53_0, v69]) [(Node.mk ((at_ a0.Nodes x11.1).Leaf) r53 (([] : (List Int)) ++ (at_ a0.Nodes x11.1).Kids))] 46 u31 z61 o61 (lo_one A81) rfl rfl rfl rfl rfl rfl rfl rfl rfl rfl (fun v84 s84 p84 A84 => ?_)
    refine Xh (L' := [1, 0]) (D' := [2, 3, 11, 12, 8, 9, 10, 7, 4, 5, 6]) zd74 rfl (fun zd86 => ?_)
    refine Xu [13, 14, 15] tb32 zd86 (Xa (Xl (Bx11_b7.st (tr8 p26 p30 p32 p54 p61 p69 p79 p84) rfl) u31 rfl) rfl (Xa (Xj fa33_0 rfl) rfl Xe)) (by kernel_rfl) (by decide) ?_
    obtain ⟨s88, hw88, p88, A88⟩ := A84.rc 45 rfl
    rw [hw88]
    exact Kj45 _ _ _ ⟨s88, _, v84, rfl, (ue (ue (ue (ue (ue (ue rfl rfl) rfl) rfl) rfl) rfl) rfl), (Kx11.st (tr9 p26 p30 p32 p54 p61 p69 p79 p84 p88) rfl), A88, (Bx11_b7.st (tr9 p26 p30 p32 p54 p61 p69 p79 p84 p88) rfl), (Bx11_b4.st (tr9 p26 p30 p32 p54 p61 p69 p79 p84 p88) rfl), (Bx11_b2.st (tr9 p26 p30 p32 p54 p61 p69 p79 p84 p88) rfl), (Ax11_0.st (tr9 p26 p30 p32 p54 p61 p69 p79 p84 p88) rfl)⟩
   refine lt0 (K := (Kd.int .i64)) 49 u59 z3 rfl rfl rfl rfl rfl (fun v94 s94 p94 A94 => ?_)
   refine Xh (L' := [9, 8, 5, 4, 3, 2, 1, 0]) (D' := [7]) zd47 rfl (fun zd96 => ?_)
   refine Xm 6 [some 30, some 29, some 24, some 23, some 22, some 21] tb32 zd96 (Xa (Xl (B30.st (Xo p32 p94) rfl) u59 rfl) rfl (Xa (Xj fa61_2 rfl) rfl (Xa (Xl (B30.st (Xo p32 p94) rfl) u52 rfl) rfl (Xa (Xj fa61_1 rfl) rfl (Xa (Xl (B30.st (Xo p32 p94) rfl) u4 rfl) rfl (Xa (Xj fa61_0 rfl) rfl (Xa (Xl (Bx11_b7.st (Yf p26 p30 p32 p94) rfl) u31 rfl) rfl (Xa (Xj fa33_0 rfl) rfl Xe)))))))) (by kernel_rfl) rfl (fun l97 e97 zd97 => ?_)
   refine clO 50 rfl func24 rfl (spec_l11entries.calls ((at_ a0.Nodes x11.1).Entries) s94.w (mm [0] s94) v22_0 (A29.st (Ye p30 p32 p94) rfl)) (fun r103 v103_0 s104 p104 A103_0 => ?_)
   refine Xh (L' := [9, 8, 3, 2, 1, 0]) (D' := [4, 5, 6, 7]) zd97 rfl (fun zd106 => ?_)
   refine Xm 10 [some 24, some 23, some 22, some 21] tb32 zd106 (Xa (Xl (B30.st (Ye p32 p94 p104) rfl) u59 rfl) rfl (Xa (Xj fa61_2 rfl) rfl (Xa (Xl (B30.st (Ye p32 p94 p104) rfl) u4 rfl) rfl (Xa (Xj fa61_0 rfl) rfl (Xa (Xl (Bx11_b7.st (tr5 p26 p30 p32 p94 p104) rfl) u31 rfl) rfl (Xa (Xj fa33_0 rfl) rfl Xe)))))) (by kernel_rfl) rfl (fun l107 e107 zd107 => ?_)
   refine apF Yd sl59 (A94.st p104 rfl) (A28.st (Yf p30 p32 p94 p104) rfl) rfl rfl rfl rfl rfl rfl rfl (fun v113 s113 p113 A113 => ?_)
   refine Xh (L' := [3, 2, 1, 0]) (D' := [8, 9, 10, 4, 5, 6, 7]) zd107 rfl (fun zd115 => ?_)
   refine Xm 12 [some 22, some 21] tb32 (zd115.add 11 32 (.agg #[(.bool ((at_ a0.Nodes x11.1).Leaf)), v103_0, v113]) rfl) (Xa (bd_q' (cells := [(.bool ((at_ a0.Nodes x11.1).Leaf)), v103_0, v113]) pl61 o61 rfl (Xx (Yh rfl (Yh (oc (A103_0.st p113 rfl).rd.one) (Yh (oc A113.rd.one) pc_n))) rfl)) rfl (Xa (Xl (B30.st (Yf p32 p94 p104 p113) rfl) u4 rfl) rfl (Xa (Xj fa61_0 rfl) rfl (Xa (Xl (Bx11_b7.st (tr6 p26 p30 p32 p94 p104 p113) rfl) u31 rfl) rfl (Xa (Xj fa33_0 rfl) rfl Xe))))) (by kernel_rfl) rfl (fun l118 e118 zd118 => ?_)
   obtain ⟨s123, hw123, p123, A123⟩ := ow_2 (A103_0.st p113 rfl) A113 rfl rfl
   rw [hw123]
   have A125 : OwF kd61 s123 [(.bool ((at_ a0.Nodes x11.1).Leaf)), v103_0, v113] (Node.mk ((at_ a0.Nodes x11.1).Leaf) r103 (([] : (List Int)) ++ (at_ a0.Nodes x11.1).Kids)) 50 := (Xz (fun x : Node => (x.Leaf, x.Entries, x.Kids)) (Node.mk ((at_ a0.Nodes x11.1).Leaf) r103 (([] : (List Int)) ++ (at_ a0.Nodes x11.1).Kids)) (ow_l (fz_bool ((at_ a0.Nodes x11.1).Leaf)) A123))
   refine ltO (K := kd61) (cells := [(.bool ((at_ a0.Nodes x11.1).Leaf)), v103_0, v113]) [(Node.mk ((at_ a0.Nodes x11.1).Leaf) r103 (([] : (List Int)) ++ (at_ a0.Nodes x11.1).Kids))] 50 u31 z61 o61 (lo_one A125) rfl rfl rfl rfl rfl rfl rfl rfl rfl rfl (fun v128 s128 p128 A128 => ?_)
   refine Xh (L' := [1, 0]) (D' := [2, 3, 11, 12, 8, 9, 10, 4, 5, 6, 7]) zd118 rfl (fun zd130 => ?_)
   refine Xu [13, 14, 15] tb32 zd130 (Xa (Xl (Bx11_b7.st (tr8 p26 p30 p32 p94 p104 p113 p123 p128) rfl) u31 rfl) rfl (Xa (Xj fa33_0 rfl) rfl Xe)) (by kernel_rfl) (by decide) ?_
   obtain ⟨s132, hw132, p132, A132⟩ := A128.rc 45 rfl
   rw [hw132]
   exact Kj45 _ _ _ ⟨s132, _, v128, rfl, (ue (ue (ue (ue (ue (ue rfl rfl) rfl) rfl) rfl) rfl) rfl), (Kx11.st (tr9 p26 p30 p32 p94 p104 p113 p123 p128 p132) rfl), A132, (Bx11_b7.st (tr9 p26 p30 p32 p94 p104 p113 p123 p128 p132) rfl), (Bx11_b4.st (tr9 p26 p30 p32 p94 p104 p113 p123 p128 p132) rfl), (Bx11_b2.st (tr9 p26 p30 p32 p94 p104 p113 p123 p128 p132) rfl), (Ax11_0.st (tr9 p26 p30 p32 p94 p104 p113 p123 p128 p132) rfl)⟩
  rintro y45 _ _ ⟨s138, _, vy45_0, rfl, rfl, Ky45, Ay45_0, By45_b7, By45_b4, By45_b2, Cy45_16⟩
  refine apO sl31 Cy45_16 Ay45_0 rfl rfl rfl rfl rfl rfl rfl rfl rfl (fun v143 s143 p143 A143 => ?_)
  refine Xs fa33_0 rfl (sv' (By45_b7.st p143 rfl) z31 rfl A143.rd.one rfl (fun s146 p146 B146 => ?_))
  refine dn (ib (rg (Xb rfl (Xb rfl (Xb rfl (dn ?_))))))
  exact lb ih11 ⟨s146, _, v143, rfl, (ue (ue (ue (ue rfl rfl) rfl) rfl) rfl), (Ky45.st (Xo p143 p146) rfl), (A143.st p146 rfl), B146, (By45_b4.st (Xo p143 p146) rfl), (By45_b2.st (Xo p143 p146) rfl)⟩
 refine xt rfl (sgb (sr (Yl (es := [vx11_0, (iI a0.Root)]) Bx11_b7 u33 z33 rfl (Yk (vs := [vx11_0, (iI a0.Root)]) Bx11_b4 z33 rfl (Xd Ax11_0.rd.one (Xd rfl Xt)) rfl (fun s152 p152 B152 => ?_)))))
 refine dn ?_
 have A154 : OwF kd33 s152 [vx11_0, (iI a0.Root)] (Tree.mk x11.2 a0.Root) 43 := (Xz (fun x : Tree => (x.Nodes, x.Root)) (Tree.mk x11.2 a0.Root) (ow_r (Ax11_0.st p152 rfl) (Yc .i64 a0.Root)))
 have K157 := Kx11.st p152 rfl
 exact re rfl func22 rfl (r_b B152 u33 rfl z33 rfl Xg) rfl ⟨_, rfl, vx11_0, rfl, A154.fo K157 rfl z.l, z.ky K157⟩
def spec_l11ups.b0 (a0 : (List Entry)) (a1 : Entry) (x5 : Int × Int) : Option ((Int × Int) ⊕ Int) :=
 (if (decide (x5.2 < (a0.length : Int))) = true then (if 0 ≤ x5.2 ∧ x5.2 < (a0.length : Int) then ((spec_l11less.f a1 (Entry.mk ((at_ a0 x5.2).Key) ((at_ a0 x5.2).Id))).bind fun r25 => ((if (!r25) = true then (some (IntKind.wrap .i64 (x5.1 + (1 : Int)))) else (some x5.1)).bind fun y27 => (some (Sum.inl (y27, (IntKind.wrap .i64 (x5.2 + (1 : Int)))))))) else none) else ((some x5.1).bind fun o => some (Sum.inr o)))
def spec_l11ups.f (a0 : (List Entry)) (a1 : Entry) : Option (Int) :=
 (iter (spec_l11ups.b0 a0 a1) ((0 : Int), (0 : Int)))
def spec_l11ups.Q (w : World) (F : Nat → Prop) (r : Int) (v : Value) (w' : World) : Prop :=
 v = (iI r) ∧ Ky [] w w'
theorem spec_l11ups.calls (a0 : (List Entry)) (a1 : Entry) (w : World) (F : Nat → Prop) (w0_0 : Value) (w1_0 : Value) (w1_1 : Value) (h0_0 : Yn.rd w [w0_0] a0 F) (h1_0 : Kd.flt.rd w [w1_0] a1.Key.F F) (h1_1 : Ym.rd w [w1_1] a1.Key.T F) (r : Int) (m : spec_l11ups.f a0 a1 = some r) :
  Calls prog 43 #[w0_0, (.agg #[(iI a1.Key.Kind), (iI a1.Key.N), w1_0, w1_1, (iI a1.Id)])] w (RT (spec_l11ups.Q w F) r) := by
 obtain ⟨s0, rfl, kp0, z⟩ := Xn w F
 have A0_0 := z.rd h0_0
 refine Xf (args := [w0_0, (.agg #[(iI a1.Key.Kind), (iI a1.Key.N), w1_0, w1_1, (iI a1.Id)])]) func43 ntmps43 rfl rfl m ?_
 unfold spec_l11ups.f
 refine sr (bx' (cs := [(iI a1.Key.Kind), (iI a1.Key.N), w1_0, w1_1, (iI a1.Id)]) 40 rfl rfl (fun b3 s3 p3 B3 => ?_))
 refine Xb rfl (dn (sr (Xb rfl (dn (sq (sr (Xb rfl (dn (bl ?_)))))))))
 refine lpI (fun (x5 : Int × Int) e w => ∃ (s : St) (e0 : Env), w = s.w ∧ e = upd (upd (upd (upd e0 0 w0_0) 3 (pB b3)) 5 (iI x5.1)) 6 (iI x5.2) ∧ Kp s0 s ∧ BlF s b3 48 [(iI a1.Key.Kind), (iI a1.Key.N), w1_0, w1_1, (iI a1.Id)] 40) ⟨s3, _, rfl, (ue (ue (ue (ue rfl rfl) rfl) rfl) rfl), (kp0.st p3 rfl), B3⟩ (fun g5 ih5 => ?_)
 rintro x5 _ _ ⟨s7, _, rfl, rfl, Kx5, Bx5_b3⟩
 unfold spec_l11ups.b0
 refine sq (sr (Xb rfl (Xw w0_0 rfl ?_)))
 refine ln' (A0_0.kp Kx5) u52 rfl (Xb rfl (dn (cd rfl (fun h10 => ?_) (fun h10 => ?_))))
 ·
  refine sk (sq (bl (sq (Ya [[], [], [], [1, 2], [3], [0, 4], [5]] [some 13, some 14, some 15, some 16, some 17, some 18, some 19] [[3], [0], [6], [14, 15], [16], [13, 17], [18]] [0, 1, 2, 3, 4, 5, 6] ⟨by kernel_rfl, by kernel_rfl, by kernel_rfl⟩ (by kernel_rfl) (fun s11 p11 l11 tb11 zd11 => ?_)))))
  have K16 := Kx5.st p11 rfl
  have A17 := A0_0.kp K16
  refine mg fun hg18 => ?_
  obtain ⟨ad18, es18, he18, ce18, ia18⟩ := ix_e A17 rfl hg18.1 hg18.2
  obtain ⟨v18_0, v18_1, rfl, A18_0, A18_1⟩ := op48 he18
  refine Xu [5, 6] tb11 (((((zd11.add 0 13 (.agg #[(iI a1.Key.Kind), (iI a1.Key.N), w1_0, w1_1, (iI a1.Id)]) rfl).add 1 14 w0_0 rfl).add 2 15 (iI x5.2) rfl).add 3 16 (.pointer (some ad18)) rfl).add 4 17 (.agg #[(iI (((at_ a0 x5.2).Key).Kind)), (iI (((at_ a0 x5.2).Key).N)), v18_0, v18_1, (iI ((at_ a0 x5.2).Id))]) rfl) (Xa (lca_q' ce18 u48 z48 rfl) rfl (Xa (Yg A17 u52 z48 hg18.1 hg18.2 ia18 rfl) rfl (Xa (Xc rfl) rfl (Xa (Xq w0_0 rfl) rfl (Xa (Xp (es := [(iI a1.Key.Kind), (iI a1.Key.N), w1_0, w1_1, (iI a1.Id)]) (Bx5_b3.st p11 rfl) u48 z48 rfl) rfl Xe))))) (by kernel_rfl) (by decide) (clV 41 rfl func42 rfl (spec_l11less.calls a1 (Entry.mk ((at_ a0 x5.2).Key) ((at_ a0 x5.2).Id)) s11.w (mm [0] s11) w1_0 w1_1 v18_0 v18_1 ((Xk (s := s11) (Yj h1_0)).sub (D := [0]) rfl) ((z.rd h1_1).kp K16) ((Xk (s := s11) A18_0).sub (D := [0]) rfl) A18_1) (fun r25 s26 p26 n26 => ?_))
  refine Xb rfl (dn (jc (fun (y27 : Int) e w => ∃ (s : St) (e0 : Env), w = s.w ∧ e = upd (upd (upd (upd e0 0 w0_0) 3 (pB b3)) 5 (iI y27)) 6 (iI x5.2) ∧ Kp s0 s ∧ BlF s b3 48 [(iI a1.Key.Kind), (iI a1.Key.N), w1_0, w1_1, (iI a1.Id)] 40) (fun Gj27 Kj27 => ?_) ?_))
  ·
   refine cd rfl (fun h28 => ?_) (fun h28 => ?_)
   ·
    refine rg (Xb rfl (Xb rfl (Xb rfl (dn ?_))))
    exact Kj27 _ _ _ ⟨s26, _, rfl, (ue (ue (ue (ue rfl rfl) rfl) rfl) rfl), (K16.st p26 rfl), (Bx5_b3.st (Xo p11 p26) rfl)⟩
   exact sk (Kj27 _ _ _ ⟨s26, _, rfl, (ue (ue (ue (ue rfl rfl) rfl) rfl) rfl), (K16.st p26 rfl), (Bx5_b3.st (Xo p11 p26) rfl)⟩)
  rintro y27 _ _ ⟨s33, _, rfl, rfl, Ky27, By27_b3⟩
  exact ib (rg (Xb rfl (Xb rfl (Xb rfl (dn (lb ih5 ⟨s33, _, rfl, (ue (ue (ue (ue rfl rfl) rfl) rfl) rfl), Ky27, By27_b3⟩))))))
 exact xt rfl (sgb (sr (Xb rfl (Xb rfl (dn (re rfl func43 rfl (Xv rfl Xg) rfl ⟨_, rfl, rfl, z.ky Kx5⟩))))))
def spec_l11put.f (a0 : (List Entry)) (a1 : Int) (a2 : Entry) : Option ((List Entry)) :=
 (if 0 ≤ a1 ∧ a1 ≤ (a0.length : Int) then (if ([] : (List Entry)).length + (a0.take (a1).toNat).length ≤ Lim then (if (([] : (List Entry)) ++ (a0.take (a1).toNat)).length + ([a2]).length ≤ Lim then (if 0 ≤ a1 ∧ a1 ≤ (a0.length : Int) then (if ((([] : (List Entry)) ++ (a0.take (a1).toNat)) ++ [a2]).length + (a0.drop (a1).toNat).length ≤ Lim then (some (((([] : (List Entry)) ++ (a0.take (a1).toNat)) ++ [a2]) ++ (a0.drop (a1).toNat))) else none) else none) else none) else none) else none)
def spec_l11put.Q (w : World) (F : Nat → Prop) (r : (List Entry)) (v : Value) (w' : World) : Prop :=
 FR Yn F w w' [v] r ∧ Ky [] w w'
theorem spec_l11put.calls (a0 : (List Entry)) (a1 : Int) (a2 : Entry) (w : World) (F : Nat → Prop) (w0_0 : Value) (w2_0 : Value) (w2_1 : Value) (h0_0 : Yn.rd w [w0_0] a0 F) (h2_0 : Kd.flt.rd w [w2_0] a2.Key.F F) (h2_1 : Ym.rd w [w2_1] a2.Key.T F) (r : (List Entry)) (m : spec_l11put.f a0 a1 a2 = some r) :
  Calls prog 44 #[w0_0, (iI a1), (.agg #[(iI a2.Key.Kind), (iI a2.Key.N), w2_0, w2_1, (iI a2.Id)])] w (RT (spec_l11put.Q w F) r) := by
 obtain ⟨s0, rfl, kp0, z⟩ := Xn w F
 have A0_0 := z.rd h0_0
 refine Xf (args := [w0_0, (iI a1), (.agg #[(iI a2.Key.Kind), (iI a2.Key.N), w2_0, w2_1, (iI a2.Id)])]) func44 ntmps44 rfl rfl m ?_
 unfold spec_l11put.f
 refine sr (bx' (cs := [(iI a2.Key.Kind), (iI a2.Key.N), w2_0, w2_1, (iI a2.Id)]) 40 rfl rfl (fun b3 s3 p3 B3 => ?_))
 refine Xb rfl (dn (sr (Xb rfl (dn (sr (Xb rfl (Xw w0_0 rfl (Xb rfl ?_))))))))
 have K5 := kp0.st p3 rfl
 refine slh (A0_0.kp K5) u52 z48 rfl rfl rfl rfl rfl rfl rfl (fun v7 A7 => ?_)
 refine apRE sl52 (rw_nil 48 kd48 s3 41 [0]) (RdF.er A7) rfl rfl rfl rfl rfl rfl rfl rfl (fun v9 s9 p9 A9 => ?_)
 refine asg' v9 rfl (dn (sr (Xw v9 rfl ?_)))
 refine Yl (es := [(iI a2.Key.Kind), (iI a2.Key.N), w2_0, w2_1, (iI a2.Id)]) (B3.st p9 rfl) u48 z48 rfl ?_
 have K12 := K5.st p9 rfl
 refine ltR (K := kd48) (cells := [(iI a2.Key.Kind), (iI a2.Key.N), w2_0, w2_1, (iI a2.Id)]) [a2] 42 [0] rfl u52 z48 o48 (el_cons (mk48 (x := a2) (Yj h2_0) ((z.rd h2_1).kp K12)) el_nil) rfl rfl rfl rfl rfl rfl rfl rfl rfl rfl (fun v14 s14 p14 A14 => ?_)
 refine apRR sl52 ((A9.sub (D := [0]) rfl).st p14 rfl rfl) A14 rfl rfl rfl rfl rfl rfl rfl rfl (fun v17 s17 p17 A17 => ?_)
 refine asg' v17 rfl (dn (sr (Xw v17 rfl (Xw w0_0 rfl (Xb rfl ?_)))))
 have K19 := K12.st (Xo p14 p17) rfl
 refine sla (A0_0.kp K19) u52 z48 rfl rfl rfl rfl rfl rfl rfl (fun v21 A21 => ?_)
 refine apRE sl52 (A17.sub (D := [0]) rfl) (RdF.er A21) rfl rfl rfl rfl rfl rfl rfl rfl (fun v23 s23 p23 A23 => ?_)
 refine asg' v23 rfl (dn ?_)
 have K25 := K19.st p23 rfl
 exact re rfl func44 rfl (Xv rfl Xg) rfl ⟨_, rfl, z.fr K25 (A23.sub (D := [0]) rfl).rd rfl, z.ky K25⟩
end Go.Proofs.YtlpbggnpiogioaaGreat
