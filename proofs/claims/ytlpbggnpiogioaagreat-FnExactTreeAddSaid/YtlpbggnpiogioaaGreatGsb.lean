/- The functions as models, and that the calls come to what the models tell. -/
import Derived.Test.YtlpbggnpiogioaaGreatGsa
set_option linter.unusedVariables false
set_option linter.unusedSimpArgs false
set_option maxHeartbeats 4000000
set_option maxRecDepth 100000
noncomputable section
namespace Go.Proofs.YtlpbggnpiogioaaGreat
open Go V Tryz
def spec_l11down.h (R : (Tree → Int → Entry → Option (Entry × Int × Tree))) (a0 : Tree) (a1 : Int) (a2 : Entry) : Option (Entry × Int × Tree) :=
 (if 0 ≤ a1 ∧ a1 < (a0.Nodes.length : Int) then ((spec_l11ups.f ((at_ a0.Nodes a1).Entries) a2).bind fun r24 => (if (at_ a0.Nodes a1).Leaf = true then ((spec_l11put.f ((at_ a0.Nodes a1).Entries) r24 a2).bind fun r32 => (if 0 ≤ a1 ∧ a1 < (a0.Nodes.length : Int) then (if (decide ((r32.length : Int) ≤ (4 : Int))) = true then (some ((Entry.mk (Item.mk (0 : Int) (0 : Int) (0 : Nat) ([] : (List Int))) (0 : Int)), (-1 : Int), (Tree.mk (a0.Nodes.set (a1).toNat (Node.mk ((at_ a0.Nodes a1).Leaf) r32 ((at_ a0.Nodes a1).Kids))) a0.Root))) else (if 0 ≤ (2 : Int) ∧ (2 : Int) ≤ (r32.length : Int) then ((spec_l11entries.f (r32.drop ((2 : Int)).toNat)).bind fun r71 => (if 0 ≤ (2 : Int) ∧ (2 : Int) ≤ (r32.length : Int) then ((spec_l11entries.f (r32.take ((2 : Int)).toNat)).bind fun r83 => (if 0 ≤ a1 ∧ a1 < ((a0.Nodes.set (a1).toNat (Node.mk ((at_ a0.Nodes a1).Leaf) r32 ((at_ a0.Nodes a1).Kids))).length : Int) then ((some ((a0.Nodes.set (a1).toNat (Node.mk ((at_ a0.Nodes a1).Leaf) r32 ((at_ a0.Nodes a1).Kids))).set (a1).toNat (Node.mk ((at_ a0.Nodes a1).Leaf) r83 ((at_ a0.Nodes a1).Kids)))).bind fun y109 => (if y109.length + ([(Node.mk true r71 ([] : (List Int)))]).length ≤ Lim then (if 0 ≤ (0 : Int) ∧ (0 : Int) < (r71.length : Int) then (some ((Entry.mk ((at_ r71 (0 : Int)).Key) ((at_ r71 (0 : Int)).Id)), (IntKind.wrap .i64 (((y109 ++ [(Node.mk true r71 ([] : (List Int)))]).length : Int) - (1 : Int))), (Tree.mk (y109 ++ [(Node.mk true r71 ([] : (List Int)))]) a0.Root))) else none) else none)) else none)) else none)) else none)) else none)) else (if 0 ≤ r24 ∧ r24 < (((at_ a0.Nodes a1).Kids).length : Int) then (((R a0 (at_ ((at_ a0.Nodes a1).Kids) r24) a2).bind fun r191 => (some (r191.1.Key.Kind, r191.1.Key.N, r191.1.Key.F, r191.1.Key.T, r191.1.Id, r191.2.1, r191.2.2.Nodes, r191.2.2.Root))).bind fun y182 => (if (decide (y182.2.2.2.2.2.1 < (0 : Int))) = true then (some ((Entry.mk (Item.mk (0 : Int) (0 : Int) (0 : Nat) ([] : (List Int))) (0 : Int)), (-1 : Int), (Tree.mk y182.2.2.2.2.2.2.1 y182.2.2.2.2.2.2.2))) else (if 0 ≤ a1 ∧ a1 < (y182.2.2.2.2.2.2.1.length : Int) then ((spec_l11put.f ((at_ y182.2.2.2.2.2.2.1 a1).Entries) r24 (Entry.mk (Item.mk y182.1 y182.2.1 y182.2.2.1 y182.2.2.2.1) y182.2.2.2.2.1)).bind fun r283 => (if 0 ≤ (IntKind.wrap .i64 (r24 + (1 : Int))) ∧ (IntKind.wrap .i64 (r24 + (1 : Int))) ≤ (((at_ y182.2.2.2.2.2.2.1 a1).Kids).length : Int) then (if ([] : (List Int)).length + (((at_ y182.2.2.2.2.2.2.1 a1).Kids).take ((IntKind.wrap .i64 (r24 + (1 : Int)))).toNat).length ≤ Lim then (if (([] : (List Int)) ++ (((at_ y182.2.2.2.2.2.2.1 a1).Kids).take ((IntKind.wrap .i64 (r24 + (1 : Int)))).toNat)).length + ([y182.2.2.2.2.2.1]).length ≤ Lim then (if 0 ≤ (IntKind.wrap .i64 (r24 + (1 : Int))) ∧ (IntKind.wrap .i64 (r24 + (1 : Int))) ≤ (((at_ y182.2.2.2.2.2.2.1 a1).Kids).length : Int) then (if ((([] : (List Int)) ++ (((at_ y182.2.2.2.2.2.2.1 a1).Kids).take ((IntKind.wrap .i64 (r24 + (1 : Int)))).toNat)) ++ [y182.2.2.2.2.2.1]).length + (((at_ y182.2.2.2.2.2.2.1 a1).Kids).drop ((IntKind.wrap .i64 (r24 + (1 : Int)))).toNat).length ≤ Lim then (if 0 ≤ a1 ∧ a1 < (y182.2.2.2.2.2.2.1.length : Int) then ((some (y182.2.2.2.2.2.2.1.set (a1).toNat (Node.mk ((at_ y182.2.2.2.2.2.2.1 a1).Leaf) r283 (((([] : (List Int)) ++ (((at_ y182.2.2.2.2.2.2.1 a1).Kids).take ((IntKind.wrap .i64 (r24 + (1 : Int)))).toNat)) ++ [y182.2.2.2.2.2.1]) ++ (((at_ y182.2.2.2.2.2.2.1 a1).Kids).drop ((IntKind.wrap .i64 (r24 + (1 : Int)))).toNat))))).bind fun y328 => (if (decide ((r283.length : Int) ≤ (4 : Int))) = true then (some ((Entry.mk (Item.mk (0 : Int) (0 : Int) (0 : Nat) ([] : (List Int))) (0 : Int)), (-1 : Int), (Tree.mk y328 y182.2.2.2.2.2.2.2))) else (if 0 ≤ (3 : Int) ∧ (3 : Int) ≤ (r283.length : Int) then (if 0 ≤ (3 : Int) ∧ (3 : Int) ≤ ((((([] : (List Int)) ++ (((at_ y182.2.2.2.2.2.2.1 a1).Kids).take ((IntKind.wrap .i64 (r24 + (1 : Int)))).toNat)) ++ [y182.2.2.2.2.2.1]) ++ (((at_ y182.2.2.2.2.2.2.1 a1).Kids).drop ((IntKind.wrap .i64 (r24 + (1 : Int)))).toNat)).length : Int) then (((spec_l11entries.f (r283.drop ((3 : Int)).toNat)).bind fun r358 => (if ([] : (List Int)).length + ((((([] : (List Int)) ++ (((at_ y182.2.2.2.2.2.2.1 a1).Kids).take ((IntKind.wrap .i64 (r24 + (1 : Int)))).toNat)) ++ [y182.2.2.2.2.2.1]) ++ (((at_ y182.2.2.2.2.2.2.1 a1).Kids).drop ((IntKind.wrap .i64 (r24 + (1 : Int)))).toNat)).drop ((3 : Int)).toNat).length ≤ Lim then (some (r358, (([] : (List Int)) ++ ((((([] : (List Int)) ++ (((at_ y182.2.2.2.2.2.2.1 a1).Kids).take ((IntKind.wrap .i64 (r24 + (1 : Int)))).toNat)) ++ [y182.2.2.2.2.2.1]) ++ (((at_ y182.2.2.2.2.2.2.1 a1).Kids).drop ((IntKind.wrap .i64 (r24 + (1 : Int)))).toNat)).drop ((3 : Int)).toNat)))) else none)).bind fun y353 => (if 0 ≤ (2 : Int) ∧ (2 : Int) < (r283.length : Int) then (if 0 ≤ (2 : Int) ∧ (2 : Int) ≤ (r283.length : Int) then ((spec_l11entries.f (r283.take ((2 : Int)).toNat)).bind fun r658 => (if 0 ≤ (3 : Int) ∧ (3 : Int) ≤ ((((([] : (List Int)) ++ (((at_ y182.2.2.2.2.2.2.1 a1).Kids).take ((IntKind.wrap .i64 (r24 + (1 : Int)))).toNat)) ++ [y182.2.2.2.2.2.1]) ++ (((at_ y182.2.2.2.2.2.2.1 a1).Kids).drop ((IntKind.wrap .i64 (r24 + (1 : Int)))).toNat)).length : Int) then (if ([] : (List Int)).length + ((((([] : (List Int)) ++ (((at_ y182.2.2.2.2.2.2.1 a1).Kids).take ((IntKind.wrap .i64 (r24 + (1 : Int)))).toNat)) ++ [y182.2.2.2.2.2.1]) ++ (((at_ y182.2.2.2.2.2.2.1 a1).Kids).drop ((IntKind.wrap .i64 (r24 + (1 : Int)))).toNat)).take ((3 : Int)).toNat).length ≤ Lim then (if 0 ≤ a1 ∧ a1 < (y328.length : Int) then ((some (y328.set (a1).toNat (Node.mk ((at_ y182.2.2.2.2.2.2.1 a1).Leaf) r658 (([] : (List Int)) ++ ((((([] : (List Int)) ++ (((at_ y182.2.2.2.2.2.2.1 a1).Kids).take ((IntKind.wrap .i64 (r24 + (1 : Int)))).toNat)) ++ [y182.2.2.2.2.2.1]) ++ (((at_ y182.2.2.2.2.2.2.1 a1).Kids).drop ((IntKind.wrap .i64 (r24 + (1 : Int)))).toNat)).take ((3 : Int)).toNat))))).bind fun y694 => (if y694.length + ([(Node.mk false y353.1 y353.2)]).length ≤ Lim then (some ((Entry.mk ((at_ r283 (2 : Int)).Key) ((at_ r283 (2 : Int)).Id)), (IntKind.wrap .i64 (((y694 ++ [(Node.mk false y353.1 y353.2)]).length : Int) - (1 : Int))), (Tree.mk (y694 ++ [(Node.mk false y353.1 y353.2)]) y182.2.2.2.2.2.2.2))) else none)) else none) else none) else none)) else none) else none)) else none) else none))) else none) else none) else none) else none) else none) else none)) else none))) else none))) else none)
def spec_l11down.g : Nat → (Tree → Int → Entry → Option (Entry × Int × Tree))
 | 0 => fun _ _ _ => none
 | n + 1 => spec_l11down.h (spec_l11down.g n)
def spec_l11down.f (a0 : Tree) (a1 : Int) (a2 : Entry) : Option (Entry × Int × Tree) := spec_l11down.g 1000 a0 a1 a2
def spec_l11down.Q (s0 : St) (p0 : Nat) (r : Entry × Int × Tree) (v : Value) (w' : World) : Prop :=
 ∃ (v0 : Value) (v1 : Value) (u0_0 : Value) (s' : St), v = .tuple #[(.agg #[(iI r.1.Key.Kind), (iI r.1.Key.N), v0, v1, (iI r.1.Id)]), (iI r.2.1)] ∧ w' = s'.w ∧ Kp s0 s' ∧ FL v0 r.1.Key.F ∧ RdF Ym s' [v1] r.1.Key.T [0, 899] ∧ BlF s' p0 33 [u0_0, (iI r.2.2.Root)] 2 ∧ RwF 61 kd61 s' u0_0 r.2.2.Nodes 3 [0, 899]
theorem spec_l11down.callsR (R : (Tree → Int → Entry → Option (Entry × Int × Tree))) (hR : ∀ (a0 : Tree) (a1 : Int) (a2 : Entry) (s0 : St) (z0 : ∀ b, s0.g b < 40) (p0 : Nat) (w0_0 : Value) (w2_0 : Value) (w2_1 : Value) (A0_0 : RwF 61 kd61 s0 w0_0 a0.Nodes 3 [0]) (B0 : BlF s0 p0 33 [w0_0, (iI a0.Root)] 2) (A2_0 : FL w2_0 a2.Key.F) (A2_1 : RdF Ym s0 [w2_1] a2.Key.T [0]) (r : Entry × Int × Tree) (m : R a0 a1 a2 = some r), Calls prog 23 #[(pB p0), (iI a1), (.agg #[(iI a2.Key.Kind), (iI a2.Key.N), w2_0, w2_1, (iI a2.Id)])] s0.w (RT (spec_l11down.Q s0 p0) r)) (a0 : Tree) (a1 : Int) (a2 : Entry) (s0 : St) (z0 : ∀ b, s0.g b < 40) (p0 : Nat) (w0_0 : Value) (w2_0 : Value) (w2_1 : Value) (A0_0 : RwF 61 kd61 s0 w0_0 a0.Nodes 3 [0]) (B0 : BlF s0 p0 33 [w0_0, (iI a0.Root)] 2) (A2_0 : FL w2_0 a2.Key.F) (A2_1 : RdF Ym s0 [w2_1] a2.Key.T [0]) (r : Entry × Int × Tree) (m : spec_l11down.h R a0 a1 a2 = some r) :
  Calls prog 23 #[(pB p0), (iI a1), (.agg #[(iI a2.Key.Kind), (iI a2.Key.N), w2_0, w2_1, (iI a2.Id)])] s0.w (RT (spec_l11down.Q s0 p0) r) := by
 have kp0 : Kp s0 s0 := Kp.refl s0 fun b _ => z0 b
 refine Xf (args := [(pB p0), (iI a1), (.agg #[(iI a2.Key.Kind), (iI a2.Key.N), w2_0, w2_1, (iI a2.Id)])]) func23 ntmps23 rfl rfl m ?_
 unfold spec_l11down.h
 refine sr (bx' (cs := [(iI a2.Key.Kind), (iI a2.Key.N), w2_0, w2_1, (iI a2.Id)]) 40 rfl rfl (fun b4 s4 p4 B4 => ?_))
 refine al' (cs := [(iI 0), (iI 0), (.float .f64 0), (.slice none 0 0), (iI 0)]) 41 rfl o48 rfl (fun b6 s6 p6 B6 => ?_)
 refine Xb rfl (dn (sr (Xb rfl (Xb rfl (Xs fa33_0 rfl ?_)))))
 have A8 := B0.st (Xo p4 p6) rfl
 refine Yb A8 u31 rfl (Xb rfl ?_)
 have A9 := A0_0.st (Xo p4 p6) rfl rfl
 refine ix' A9.rd u31 z61 rfl (fun ad10 es10 h0_10 h1_10 he10 ce10 ia10 => ?_)
 replace he10 := rw_sharp A9 h0_10 h1_10 ia10 ce10 he10
 obtain ⟨v10_0, v10_1, rfl, A10_0, A10_1⟩ := op61 he10
 refine lca ce10 u61 z61 rfl rfl rfl rfl rfl rfl rfl (al' (cs := [(.bool false), (.slice none 0 0), (.slice none 0 0)]) 42 rfl o61 rfl (fun b14 s14 p14 B14 => ?_))
 have A16 := A10_1.st p14 rfl
 have A17 := A10_0.st p14 rfl
 refine Yk (vs := [(.bool ((at_ a0.Nodes a1).Leaf)), v10_0, v10_1]) B14 z61 rfl (Xd rfl (Xd A17.one (Xd A16.one Xt))) rfl (fun s18 p18 B18 => ?_)
 refine dn (sr (Xs fa61_1 rfl (Yb B18 u52 rfl ?_)))
 have A20 := B4.st (Ye p6 p14 p18) rfl
 refine Yl (es := [(iI a2.Key.Kind), (iI a2.Key.N), w2_0, w2_1, (iI a2.Id)]) A20 u48 z48 rfl ?_
 have A21 := A17.st p18 rfl
 have K22 := kp0.st (Yf p4 p6 p14 p18) rfl
 refine clV 43 rfl func43 rfl (spec_l11ups.calls ((at_ a0.Nodes a1).Entries) a2 s18.w (mm [0] s18) v10_0 w2_0 w2_1 A21 ((Xk (s := s18) A2_0).sub (D := [0]) rfl) (A2_1.kp K22)) (fun r24 s25 p25 n25 => ?_)
 refine Xb rfl (dn (sq (sr (Xs fa61_0 rfl ?_))))
 have A26 := B18.st p25 rfl
 refine Yb A26 u4 rfl (dn (cd rfl (fun h27 => ?_) (fun h27 => ?_)))
 ·
  refine sr (Xs fa61_1 rfl (Yb A26 u52 rfl (Xb rfl ?_)))
  refine Yl (es := [(iI a2.Key.Kind), (iI a2.Key.N), w2_0, w2_1, (iI a2.Id)]) (A20.st p25 rfl) u48 z48 rfl ?_
  have K30 := K22.st p25 rfl
  refine cl' rfl func44 rfl (spec_l11put.calls ((at_ a0.Nodes a1).Entries) r24 a2 s25.w (mm [0] s25) v10_0 w2_0 w2_1 (A21.st p25 rfl) ((Xk (s := s25) A2_0).sub (D := [0]) rfl) (A2_1.kp K30)) ?_
  rintro r32 v32_0 w32 m32 ⟨f32_0, ky32⟩
  obtain ⟨s33, rfl, p33, n33⟩ := nwx s25 w32 44 ky32
  have A32_0 := f32_0.c n33
  refine Xs fa61_1 rfl (sv' (A26.st p33 rfl) z52 rfl A32_0.one rfl (fun s36 p36 B36 => ?_))
  refine dn (sq (Ya [[], [0], [1], [2], [], [], [3, 4, 0, 1, 2, 3, 4, 5], [6, 5, 0, 1, 2, 3, 4, 5]] [some 35, some 36, some 37, some 38, some 39, some 40, some 41, none] [[0], [35], [36], [37], [1], [8], [38, 39], [41, 40]] [0, 1, 2, 3, 4, 5, 6, 7] ⟨by kernel_rfl, by kernel_rfl, by kernel_rfl⟩ (by kernel_rfl) (fun s38 p38 l38 tb38 zd38 => ?_)))
  refine Xu [6, 7] tb38 ((((((zd38.add 0 35 (pB p0) rfl).add 1 36 (pB p0) rfl).add 2 37 (pB p0) rfl).add 3 38 w0_0 rfl).add 4 39 (iI a1) rfl).add 5 40 (.agg #[(.bool ((at_ a0.Nodes a1).Leaf)), v32_0, v10_1]) rfl) (Xa (Xp (es := [(.bool ((at_ a0.Nodes a1).Leaf)), v32_0, v10_1]) (B36.st p38 rfl) u61 z61 rfl) rfl (Xa (Xc rfl) rfl (Xa (Xl (A8.st (tr6 p14 p18 p25 p33 p36 p38) rfl) u31 rfl) rfl (Xa (Xj fa33_0 rfl) rfl (Xa (Xc rfl) rfl (Xa (Xc rfl) rfl Xe)))))) (by kernel_rfl) (by decide) ?_
  have A49 := A9.st (tr6 p14 p18 p25 p33 p36 p38) rfl rfl
  refine ix' A49.rd u31 z61 rfl (fun ad50 es50 h0_50 h1_50 he50 ce50 ia50 => ?_)
  replace he50 := rw_sharp A49 h0_50 h1_50 ia50 ce50 he50
  obtain ⟨v50_0, v50_1, rfl, A50_0, A50_1⟩ := op61 he50
  have A54 := A32_0.st (Xo p36 p38) rfl
  have A55 := A16.st (tr5 p18 p25 p33 p36 p38) rfl
  refine sor (x' := (Node.mk ((at_ a0.Nodes a1).Leaf) r32 ((at_ a0.Nodes a1).Kids))) A49 ia50 h0_50 h1_50 (mk61 (x := (Node.mk ((at_ a0.Nodes a1).Leaf) r32 ((at_ a0.Nodes a1).Kids))) A54 (RdF.sub (D := [44, 0]) A55 rfl)) rfl z61 rfl rfl rfl rfl rfl rfl (fun s56 p56 A56 => ?_)
  have A56_ := A56.sub (D := [0, 44]) rfl
  refine dn (sq (sr (Xs fa61_1 rfl ?_)))
  have A58 := B36.st (Xo p38 p56) rfl
  refine Yb A58 u52 rfl ?_
  have A59 := A54.st p56 rfl
  refine ln' A59 u52 rfl (Xb rfl (dn (cd rfl (fun h60 => ?_) (fun h60 => ?_))))
  ·
   refine sr (bd (cells := [(iI 0), (iI 0), (.float .f64 0), (.slice none 0 0), (iI 0)]) pl48 o48 rfl rfl rfl rfl rfl rfl ?_)
   refine Yk (vs := [(iI 0), (iI 0), (.float .f64 0), (.slice none 0 0), (iI 0)]) (B6.st (tr7 p14 p18 p25 p33 p36 p38 p56) rfl) z48 rfl (Xd rfl (Xd rfl (Xd (FL.one (fl_c rfl)) (Xd rfl (Xd rfl Xt))))) rfl (fun s62 p62 B62 => ?_)
   refine Xb rfl (dn ?_)
   obtain ⟨s65, hw65, p65, rc65⟩ := rc_all s62 [44] 899 rfl
   rw [hw65]
   exact re rfl func23 rfl (r_b (B62.st p65 rfl) u48 rfl z48 rfl (Xv rfl Xg)) rfl ⟨_, rfl, (.float .f64 0), (.slice none 0 0), w0_0, s65, rfl, rfl, (K30.st (tr6 p33 p36 p38 p56 p62 p65) rfl), (fl_c rfl), (rd_nil 5 (Kd.int .u8) _ [0, 899]), (A8.st (tr9 p14 p18 p25 p33 p36 p38 p56 p62 p65) rfl), ((A56_.st p62 rfl rfl).rce rc65 rfl rfl rfl)⟩
  refine sk (sr (Xs fa61_1 rfl (Yb A58 u52 rfl (sla A59 u52 z48 rfl rfl rfl rfl rfl rfl rfl (fun v69 A69 => ?_)))))
  refine clO 45 rfl func24 rfl (spec_l11entries.calls (r32.drop ((2 : Int)).toNat) s56.w (mm [44, 0] s56) v69 A69) (fun r71 v71_0 s72 p72 A71_0 => ?_)
  refine bd (cells := [(.bool true), v71_0, (.slice none 0 0)]) pl61 o61 rfl rfl rfl rfl rfl (Xx (Yh rfl (Yh (oc A71_0.rd.one) pc_n)) rfl) (al' (cs := [(.bool false), (.slice none 0 0), (.slice none 0 0)]) 46 rfl o61 rfl (fun b74 s74 p74 B74 => ?_))
  have A76 := A71_0.st p74 rfl
  refine Yk (vs := [(.bool true), v71_0, (.slice none 0 0)]) B74 z61 rfl (Xd rfl (Xd A76.rd.one (Xd rfl Xt))) rfl (fun s77 p77 B77 => ?_)
  refine dn (sr (Xs fa61_1 rfl ?_))
  have A79 := A58.st (Ye p72 p74 p77) rfl
  refine Yb A79 u52 rfl (slh (A59.st (Ye p72 p74 p77) rfl) u52 z48 rfl rfl rfl rfl rfl rfl rfl (fun v81 A81 => ?_))
  refine clO 47 rfl func24 rfl (spec_l11entries.calls (r32.take ((2 : Int)).toNat) s77.w (mm [44, 0] s77) v81 A81) (fun r83 v83_0 s84 p84 A83_0 => ?_)
  refine Xs fa61_1 rfl (sv' (A79.st p84 rfl) z52 rfl A83_0.rd.one rfl (fun s87 p87 B87 => ?_))
  refine dn (sq (Ya [[], [0], [1], [2], [], [], [3, 4, 0, 1, 2, 3, 4, 5], [6, 5, 0, 1, 2, 3, 4, 5]] [some 57, some 58, some 59, some 60, some 61, some 62, some 63, none] [[0], [57], [58], [59], [1], [8], [60, 61], [63, 62]] [0, 1, 2, 3, 4, 5, 6, 7] ⟨by kernel_rfl, by kernel_rfl, by kernel_rfl⟩ (by kernel_rfl) (fun s89 p89 l89 tb89 zd89 => ?_)))
  refine Xu [6, 7] tb89 ((((((zd89.add 0 57 (pB p0) rfl).add 1 58 (pB p0) rfl).add 2 59 (pB p0) rfl).add 3 60 w0_0 rfl).add 4 61 (iI a1) rfl).add 5 62 (.agg #[(.bool ((at_ a0.Nodes a1).Leaf)), v83_0, v10_1]) rfl) (Xa (Xp (es := [(.bool ((at_ a0.Nodes a1).Leaf)), v83_0, v10_1]) (B87.st p89 rfl) u61 z61 rfl) rfl (Xa (Xc rfl) rfl (Xa (Xl (A8.st (Xo (Xy p14 p18 p25 p33 p36 p38 p56 p72 p74 p77 p84 p87) p89) rfl) u31 rfl) rfl (Xa (Xj fa33_0 rfl) rfl (Xa (Xc rfl) rfl (Xa (Xc rfl) rfl Xe)))))) (by kernel_rfl) (by decide) ?_
  have A100 := A56_.st (tr6 p72 p74 p77 p84 p87 p89) rfl rfl
  refine ix' A100.rd u31 z61 rfl (fun ad101 es101 h0_101 h1_101 he101 ce101 ia101 => ?_)
  replace he101 := rw_sharp A100 h0_101 h1_101 ia101 ce101 he101
  obtain ⟨v101_0, v101_1, rfl, A101_0, A101_1⟩ := op61 he101
  refine sor (x' := (Node.mk ((at_ a0.Nodes a1).Leaf) r83 ((at_ a0.Nodes a1).Kids))) A100 ia101 h0_101 h1_101 (mk61 (x := (Node.mk ((at_ a0.Nodes a1).Leaf) r83 ((at_ a0.Nodes a1).Kids))) (RdF.sub (D := [47, 0]) (A83_0.st (Xo p87 p89) rfl).rd rfl) (RdF.sub (D := [47, 0]) (A55.st (tr7 p56 p72 p74 p77 p84 p87 p89) rfl) rfl)) rfl z61 rfl rfl rfl rfl rfl rfl (fun s107 p107 A107 => ?_)
  refine nb (fun y109 h109 => ?_)
  have A109 : RwF 61 kd61 s107 w0_0 y109 3 [0, 44, 47] := by rw [h109]; exact A107.sub (D := [0, 44, 47]) rfl
  refine dn (sq (Ya [[], [], [1], [2], [3], [], [5], [4, 6], [0, 0, 1, 2, 3, 4, 5, 6, 7], [8, 0, 1, 2, 3, 4, 5, 6, 7], [9, 7, 7, 0, 1, 2, 3, 4, 5, 6, 7]] [some 64, some 65, some 66, some 67, some 68, some 69, some 70, some 71, some 72, some 73, none] [[0], [0], [65], [66], [67], [10], [69], [68, 70], [64], [72], [73, 71]] [0, 1, 2, 3, 4, 5, 6, 7, 8, 9, 10] ⟨by kernel_rfl, by kernel_rfl, by kernel_rfl⟩ (by kernel_rfl) (fun s110 p110 l110 tb110 zd110 => ?_)))
  refine Xm 6 [some 68, some 67, some 66, some 65, some 64] tb110 ((((((zd110.add 0 64 (pB p0) rfl).add 1 65 (pB p0) rfl).add 2 66 (pB p0) rfl).add 3 67 (pB p0) rfl).add 4 68 w0_0 rfl).add 5 69 (.agg #[(.bool true), v71_0, (.slice none 0 0)]) rfl) (Xa (Xp (es := [(.bool true), v71_0, (.slice none 0 0)]) (B77.st (tr5 p84 p87 p89 p107 p110) rfl) u61 z61 rfl) rfl (Xa (Xl (A8.st (Yf (Xy p14 p18 p25 p33 p36 p38 p56 p72 p74 p77 p84 p87) p89 p107 p110) rfl) u31 rfl) rfl (Xa (Xj fa33_0 rfl) rfl (Xa (Xc rfl) rfl (Xa (Xc rfl) rfl (Xa (Xc rfl) rfl Xe)))))) (by kernel_rfl) rfl (fun l119 e119 zd119 => ?_)
  have A122 := A76.st (tr6 p77 p84 p87 p89 p107 p110) rfl
  refine ltR (K := kd61) (cells := [(.bool true), v71_0, (.slice none 0 0)]) [(Node.mk true r71 ([] : (List Int)))] 48 [45] rfl u31 z61 o61 (el_cons (mk61 (x := (Node.mk true r71 ([] : (List Int)))) A122.rd (RdF.sub (D := [45]) (rd_nil 3 (Kd.int .i64) s110 []) rfl)) el_nil) rfl rfl rfl rfl rfl rfl rfl rfl rfl rfl (fun v123 s123 p123 A123 => ?_)
  refine Xh (L' := [4, 3, 2, 1, 0]) (D' := [5, 6]) zd119 rfl (fun zd125 => ?_)
  refine Xm 7 [some 64] tb110 zd125 (Xa (Xl (A8.st (tr5 (Xy p14 p18 p25 p33 p36 p38 p56 p72 p74 p77 p84 p87) p89 p107 p110 p123) rfl) u31 rfl) rfl (Xa (Xj fa33_0 rfl) rfl (Xa (Xc rfl) rfl (Xa (Xc rfl) rfl (Xa (Xc rfl) rfl Xe))))) (by kernel_rfl) rfl (fun l126 e126 zd126 => ?_)
  refine apRR sl31 (A109.st (Xo p110 p123) rfl rfl) A123 rfl rfl rfl rfl rfl rfl rfl rfl (fun v129 s129 p129 A129 => ?_)
  refine Xh (L' := [0]) (D' := [1, 2, 3, 4, 7, 5, 6]) zd126 rfl (fun zd131 => ?_)
  refine Xu [8, 9, 10] tb110 zd131 (Xa (Xc rfl) rfl Xe) (by kernel_rfl) (by decide) (Xb rfl (Xs fa33_0 rfl ?_))
  refine sv' (A8.st (tr6 (Xy p14 p18 p25 p33 p36 p38 p56 p72 p74 p77 p84 p87) p89 p107 p110 p123 p129) rfl) z31 rfl A129.rd.one rfl (fun s133 p133 B133 => ?_)
  refine dn (sq (Ya [[], [0], [1], [2], [], [4], [5], [6], [7], [8], [3, 0, 1, 2, 3], [9, 10, 0, 1, 2, 3, 4, 5, 6, 7, 8, 9, 10]] [some 74, some 75, some 76, some 77, some 78, some 79, some 80, some 81, some 82, some 83, none, some 7] [[10], [74], [75], [76], [0], [78], [79], [80], [81], [82], [6, 77], [83]] [0, 1, 2, 3, 4, 5, 6, 7, 8, 10, 9, 11] ⟨by kernel_rfl, by kernel_rfl, by kernel_rfl⟩ (by kernel_rfl) (fun s135 p135 l135 tb135 zd135 => ?_)))
  have A139 := A122.st (Yf p123 p129 p133 p135) rfl
  refine mg fun hg140 => ?_
  obtain ⟨ad140, es140, he140, ce140, ia140⟩ := ix_e A139.rd rfl hg140.1 hg140.2
  obtain ⟨v140_0, v140_1, rfl, A140_0, A140_1⟩ := op48 he140
  refine Xm 10 [some 83, some 82, some 81, some 80, some 79, some 78] tb135 ((((((((((zd135.add 0 74 (pO b74 1) rfl).add 1 75 v71_0 rfl).add 2 76 (.pointer (some ad140)) rfl).add 3 77 (.agg #[(iI (((at_ r71 (0 : Int)).Key).Kind)), (iI (((at_ r71 (0 : Int)).Key).N)), v140_0, v140_1, (iI ((at_ r71 (0 : Int)).Id))]) rfl).add 4 78 (pB p0) rfl).add 5 79 (pB p0) rfl).add 6 80 (pB p0) rfl).add 7 81 v129 rfl).add 8 82 (iI ((y109 ++ [(Node.mk true r71 ([] : (List Int)))]).length : Int)) rfl).add 9 83 (iI (IntKind.wrap .i64 (((y109 ++ [(Node.mk true r71 ([] : (List Int)))]).length : Int) - (1 : Int)))) rfl) (Xa (Xc rfl) rfl (Xa (ln_q' (A129.st (Xo p133 p135) rfl rfl).rd u31 rfl) rfl (Xa (Xl (B133.st p135 rfl) u31 rfl) rfl (Xa (Xj fa33_0 rfl) rfl (Xa (Xc rfl) rfl (Xa (Xc rfl) rfl (Xa (lca_q' ce140 u48 z48 rfl) rfl (Xa (Yg A139.rd u52 z48 hg140.1 hg140.2 ia140 rfl) rfl (Xa (Xl (B77.st (tr9 p84 p87 p89 p107 p110 p123 p129 p133 p135) rfl) u52 rfl) rfl (Xa (Xj fa61_1 rfl) rfl Xe)))))))))) (by kernel_rfl) rfl (fun l153 e153 zd153 => ?_)
  refine Yk (vs := [(iI (((at_ r71 (0 : Int)).Key).Kind)), (iI (((at_ r71 (0 : Int)).Key).N)), v140_0, v140_1, (iI ((at_ r71 (0 : Int)).Id))]) (B6.st (tr8 (Xy p14 p18 p25 p33 p36 p38 p56 p72 p74 p77 p84 p87) p89 p107 p110 p123 p129 p133 p135) rfl) z48 rfl (Xd rfl (Xd rfl (Xd (FL.one A140_0) (Xd A140_1.one (Xd rfl Xt))))) rfl (fun s158 p158 B158 => ?_)
  refine zdone0 (L' := [9, 8, 7, 6, 5, 4]) (D' := [3, 0, 1, 2, 3, 10]) zd153 rfl rfl rfl (fun zd160 => ?_)
  refine Xu [11] tb135 zd160 (Xa (Xc rfl) rfl (Xa (ln_q' (A129.st (Ye p133 p135 p158) rfl rfl).rd u31 rfl) rfl (Xa (Xl (B133.st (Xo p135 p158) rfl) u31 rfl) rfl (Xa (Xj fa33_0 rfl) rfl (Xa (Xc rfl) rfl (Xa (Xc rfl) rfl Xe)))))) (by kernel_rfl) (by decide) (Xb rfl (dn ?_))
  obtain ⟨s165, hw165, p165, rc165⟩ := rc_all s158 [45, 44, 47] 899 rfl
  rw [hw165]
  exact re rfl func23 rfl (r_b (B158.st p165 rfl) u48 rfl z48 rfl (Xv rfl Xg)) rfl ⟨_, rfl, v140_0, v140_1, v129, s165, rfl, rfl, (K30.st (tr7 (Xy p33 p36 p38 p56 p72 p74 p77 p84 p87 p89 p107 p110) p123 p129 p133 p135 p158 p165) rfl), A140_0, (RdF.rc (C := [0, 899]) (A140_1.st p158 rfl) rc165 rfl rfl), (B133.st (Ye p135 p158 p165) rfl), ((A129.st (Ye p133 p135 p158) rfl rfl).rce rc165 rfl rfl rfl)⟩
 refine sk (sq (Ya [[], [], [1], [], [2, 3], [4], [], [0, 5, 6], [7], [8], [8], [], [11, 9, 7, 0, 1, 2, 3, 4, 5, 6, 7, 8, 9, 11], [10, 12, 0, 1, 2, 3, 4, 5, 6, 7, 8, 9, 10, 11, 12]] [some 85, some 86, some 87, some 88, some 89, some 90, some 91, some 92, some 84, some 93, some 94, some 11, none, some 12] [[0], [8], [86], [9], [87, 88], [89], [5], [85, 90, 91], [92], [84], [84], [], [11, 93], [94]] [0, 1, 2, 3, 4, 5, 6, 7, 8, 9, 12, 10, 11, 13] ⟨by kernel_rfl, by kernel_rfl, by kernel_rfl⟩ (by kernel_rfl) (fun s169 p169 l169 tb169 zd169 => ?_)))
 have A175 := A16.st (Ye p18 p25 p169) rfl
 refine mg fun hg176 => ?_
 obtain ⟨ad176, es176, he176, ce176, ia176⟩ := ix_e A175 rfl hg176.1 hg176.2
 obtain rfl := he176
 refine ji [13] (fun (y182 : Int × Int × Nat × (List Int) × Int × Int × (List Node) × Int) e w => ∃ (s : St) (e0 : Env) (vy182_0 vy182_1 uy182_0 : Value) (by182_0 : Nat), w = s.w ∧ e = upd (upd (upd (upd (upd (upd (upd e0 0 (pB p0)) 1 (iI a1)) 6 (pB b6)) 8 (pB b14)) 9 (iI r24)) 11 (pB by182_0)) 94 (iI y182.2.2.2.2.2.1) ∧ Kp s0 s ∧ RdF Ym s [vy182_0] y182.2.2.2.1 [0, 49] ∧ RwF 61 kd61 s vy182_1 y182.2.2.2.2.2.2.1 3 [0, 49] ∧ FL uy182_0 y182.2.2.1 ∧ BlF s p0 33 [vy182_1, (iI y182.2.2.2.2.2.2.2)] 2 ∧ BlF s b14 61 [(.bool ((at_ a0.Nodes a1).Leaf)), v10_0, v10_1] 42 ∧ BlF s b6 48 [(iI 0), (iI 0), (.float .f64 0), (.slice none 0 0), (iI 0)] 41 ∧ BlF s by182_0 48 [(iI y182.1), (iI y182.2.1), uy182_0, vy182_0, (iI y182.2.2.2.2.1)] 50 ∧ RdF Yn s [v10_0] ((at_ a0.Nodes a1).Entries) [0] ∧ RdF Yo s [v10_1] ((at_ a0.Nodes a1).Kids) [0]) (fun Gj182 Kj182 => ?_) ?_
 ·
  refine zstep2 7 11 [] [some 91, some 90, some 89, some 88, some 87, some 86, some 85] tb169 (((((((zd169.add 0 85 (pB p0) rfl).add 1 86 (pO b14 2) rfl).add 2 87 v10_1 rfl).add 3 88 (iI r24) rfl).add 4 89 (.pointer (some ad176)) rfl).add 5 90 (iI (at_ ((at_ a0.Nodes a1).Kids) r24)) rfl).add 6 91 (.agg #[(iI a2.Key.Kind), (iI a2.Key.N), w2_0, w2_1, (iI a2.Id)]) rfl) (Xa (Xp (es := [(iI a2.Key.Kind), (iI a2.Key.N), w2_0, w2_1, (iI a2.Id)]) (A20.st (Xo p25 p169) rfl) u48 z48 rfl) rfl (Xa (lc0_q' ce176 u3 rfl) rfl (Xa (Yg A175 u59 z3 hg176.1 hg176.2 ia176 rfl) rfl (Xa (Xc rfl) rfl (Xa (Xl (A26.st p169 rfl) u59 rfl) rfl (Xa (Xj fa61_2 rfl) rfl (Xa (Xc rfl) rfl Xe))))))) (by kernel_rfl) (by kernel_rfl) (fun l183 e183 zd183 => ?_) (fun l184 e184 zd184 => ?_)
  ·
   have K187 := K22.st (Xo p25 p169) rfl
   refine cl' rfl func23 rfl (fun r191 m191 => hR a0 (at_ ((at_ a0.Nodes a1).Kids) r24) a2 (vw [0] [(3, 3), (2, 2)] s169) (vw_lt rfl) p0 w0_0 w2_0 w2_1 (RwF.vw (A9.st (Yf p14 p18 p25 p169) rfl rfl) rfl (by simp) rfl) (BlF.vw (A8.st (Yf p14 p18 p25 p169) rfl) rfl (by simp)) A2_0 (RdF.vw (A2_1.kp K187) rfl) r191 m191) ?_
   rintro r191 _ _ m191 ⟨v191_0, v191_1, u191_0, t191, rfl, rfl, kp191, f191_0, f191_1, bw191, uf191_0⟩
   have hw192 : t191.w = (bk [(3, 3), (2, 2)] 51 s169 t191).w := rfl
   have p192 := bk_st (D := [0]) (M := [(3, 3), (2, 2)]) (cn := 51) rfl kp191
   have B192 := BlF.bk (D := [0]) (M := [(3, 3), (2, 2)]) (cn := 51) (c := 2) bw191 rfl (by simp) kp191
   have U192_0 := RwF.bk (D := [0]) (M := [(3, 3), (2, 2)]) (cn := 51) (c := 3) uf191_0 rfl (by simp) rfl kp191
   have V192_1 := RdF.bk (D := [0]) (M := [(3, 3), (2, 2)]) (cn := 51) f191_1 rfl rfl kp191
   generalize bk [(3, 3), (2, 2)] 51 s169 t191 = s192 at hw192 p192 B192 U192_0 V192_1
   rw [hw192]
   refine Xh (L' := []) (D' := [1, 2, 3, 4, 0, 5, 6, 7]) zd183 rfl (fun zd196 => ?_)
   refine Xm 11 [some 94, some 93, some 84] tb169 (((zd196.add 8 84 (.tuple #[(.agg #[(iI r191.1.Key.Kind), (iI r191.1.Key.N), v191_0, v191_1, (iI r191.1.Id)]), (iI r191.2.1)]) rfl).add 9 93 (.agg #[(iI r191.1.Key.Kind), (iI r191.1.Key.N), v191_0, v191_1, (iI r191.1.Id)]) rfl).add 10 94 (iI r191.2.1) rfl) (Xa (Xc (v := (iI r191.2.1)) rfl) rfl (Xa (Xc (v := (.agg #[(iI r191.1.Key.Kind), (iI r191.1.Key.N), v191_0, v191_1, (iI r191.1.Id)])) rfl) rfl (Xa (Xc rfl) rfl Xe))) (by kernel_rfl) rfl (fun l200 e200 zd200 => ?_)
   refine al' (cs := [(iI 0), (iI 0), (.float .f64 0), (.slice none 0 0), (iI 0)]) 52 rfl o48 rfl (fun b201 s201 p201 B201 => ?_)
   refine Xh (L' := [10, 9, 8]) (D' := [11, 1, 2, 3, 4, 0, 5, 6, 7]) zd200 rfl (fun zd203 => ?_)
   refine Xm 12 [some 94] tb169 zd203 (Xa (Xc (v := (iI r191.2.1)) rfl) rfl (Xa (Xc (v := (.agg #[(iI r191.1.Key.Kind), (iI r191.1.Key.N), v191_0, v191_1, (iI r191.1.Id)])) rfl) rfl (Xa (Xc rfl) rfl Xe))) (by kernel_rfl) rfl (fun l204 e204 zd204 => ?_)
   have A205 := V192_1.st p201 rfl
   refine Yk (vs := [(iI r191.1.Key.Kind), (iI r191.1.Key.N), v191_0, v191_1, (iI r191.1.Id)]) B201 z48 rfl (Xd rfl (Xd rfl (Xd (FL.one f191_0) (Xd A205.one (Xd rfl Xt))))) rfl (fun s206 p206 B206 => ?_)
   refine zdone0 (L' := [10]) (D' := [9, 8, 9, 12, 11, 1, 2, 3, 4, 0, 5, 6, 7]) zd204 rfl rfl rfl (fun zd208 => ?_)
   refine Xu [13] tb169 zd208 (Xa (Xc (v := (iI r191.2.1)) rfl) rfl Xe) (by kernel_rfl) (by decide) ?_
   obtain ⟨s209, hw209, p209, D209⟩ := BlF.rc B206 50 rfl
   rw [hw209]
   obtain ⟨s213, hw213, p213, rc213⟩ := rc_all s209 [51] 49 rfl
   rw [hw213]
   exact Kj182 _ _ _ ⟨s213, _, v191_1, u191_0, v191_0, b201, rfl, (ue (ue (ue (ue (ue (ue (ue rfl rfl) rfl) rfl) rfl) rfl) rfl) rfl), (K187.st (tr5 p192 p201 p206 p209 p213) rfl), (RdF.rc (A205.st (Xo p206 p209) rfl) rc213 rfl rfl), (RwF.rce (U192_0.st (Ye p201 p206 p209) rfl rfl) rc213 rfl rfl rfl), f191_0, (B192.st (Yf p201 p206 p209 p213) rfl), (A26.st (tr6 p169 p192 p201 p206 p209 p213) rfl), (B6.st (tr9 p14 p18 p25 p169 p192 p201 p206 p209 p213) rfl), (D209.st p213 rfl), (A21.st (tr7 p25 p169 p192 p201 p206 p209 p213) rfl), (A175.st (tr5 p192 p201 p206 p209 p213) rfl)⟩
  refine al' (cs := [(iI 0), (iI 0), (.float .f64 0), (.slice none 0 0), (iI 0)]) 53 rfl o48 rfl (fun b221 s221 p221 B221 => ?_)
  refine Xh (L' := [6, 5, 4, 3, 2, 1, 0]) (D' := [11]) zd184 rfl (fun zd223 => ?_)
  have A226 := A175.st p221 rfl
  refine Xm 7 [] tb169 zd223 (Xa (Xp (es := [(iI a2.Key.Kind), (iI a2.Key.N), w2_0, w2_1, (iI a2.Id)]) (A20.st (Ye p25 p169 p221) rfl) u48 z48 rfl) rfl (Xa (lc0_q' (ce176.st p221 rfl rfl) u3 rfl) rfl (Xa (Yg A226 u59 z3 hg176.1 hg176.2 ia176 rfl) rfl (Xa (Xc rfl) rfl (Xa (Xl (A26.st (Xo p169 p221) rfl) u59 rfl) rfl (Xa (Xj fa61_2 rfl) rfl (Xa (Xc rfl) rfl Xe))))))) (by kernel_rfl) rfl (fun l224 e224 zd224 => ?_)
  have K229 := K22.st (Ye p25 p169 p221) rfl
  refine cl' rfl func23 rfl (fun r233 m233 => hR a0 (at_ ((at_ a0.Nodes a1).Kids) r24) a2 (vw [0] [(3, 3), (2, 2)] s221) (vw_lt rfl) p0 w0_0 w2_0 w2_1 (RwF.vw (A9.st (tr5 p14 p18 p25 p169 p221) rfl rfl) rfl (by simp) rfl) (BlF.vw (A8.st (tr5 p14 p18 p25 p169 p221) rfl) rfl (by simp)) A2_0 (RdF.vw (A2_1.kp K229) rfl) r233 m233) ?_
  rintro r233 _ _ m233 ⟨v233_0, v233_1, u233_0, t233, rfl, rfl, kp233, f233_0, f233_1, bw233, uf233_0⟩
  have hw234 : t233.w = (bk [(3, 3), (2, 2)] 54 s221 t233).w := rfl
  have p234 := bk_st (D := [0]) (M := [(3, 3), (2, 2)]) (cn := 54) rfl kp233
  have B234 := BlF.bk (D := [0]) (M := [(3, 3), (2, 2)]) (cn := 54) (c := 2) bw233 rfl (by simp) kp233
  have U234_0 := RwF.bk (D := [0]) (M := [(3, 3), (2, 2)]) (cn := 54) (c := 3) uf233_0 rfl (by simp) rfl kp233
  have V234_1 := RdF.bk (D := [0]) (M := [(3, 3), (2, 2)]) (cn := 54) f233_1 rfl rfl kp233
  generalize bk [(3, 3), (2, 2)] 54 s221 t233 = s234 at hw234 p234 B234 U234_0 V234_1
  rw [hw234]
  refine Xh (L' := []) (D' := [1, 2, 3, 4, 0, 5, 6, 7, 11]) zd224 rfl (fun zd238 => ?_)
  refine Xm 12 [some 94] tb169 (((zd238.add 8 84 (.tuple #[(.agg #[(iI r233.1.Key.Kind), (iI r233.1.Key.N), v233_0, v233_1, (iI r233.1.Id)]), (iI r233.2.1)]) rfl).add 9 93 (.agg #[(iI r233.1.Key.Kind), (iI r233.1.Key.N), v233_0, v233_1, (iI r233.1.Id)]) rfl).add 10 94 (iI r233.2.1) rfl) (Xa (Xc (v := (iI r233.2.1)) rfl) rfl (Xa (Xc (v := (.agg #[(iI r233.1.Key.Kind), (iI r233.1.Key.N), v233_0, v233_1, (iI r233.1.Id)])) rfl) rfl (Xa (Xc rfl) rfl Xe))) (by kernel_rfl) rfl (fun l242 e242 zd242 => ?_)
  refine Yk (vs := [(iI r233.1.Key.Kind), (iI r233.1.Key.N), v233_0, v233_1, (iI r233.1.Id)]) (B221.st p234 rfl) z48 rfl (Xd rfl (Xd rfl (Xd (FL.one f233_0) (Xd V234_1.one (Xd rfl Xt))))) rfl (fun s244 p244 B244 => ?_)
  refine zdone0 (L' := [10]) (D' := [9, 8, 9, 12, 1, 2, 3, 4, 0, 5, 6, 7, 11]) zd242 rfl rfl rfl (fun zd246 => ?_)
  refine Xu [13] tb169 zd246 (Xa (Xc (v := (iI r233.2.1)) rfl) rfl Xe) (by kernel_rfl) (by decide) ?_
  obtain ⟨s247, hw247, p247, D247⟩ := BlF.rc B244 50 rfl
  rw [hw247]
  obtain ⟨s251, hw251, p251, rc251⟩ := rc_all s247 [54] 49 rfl
  rw [hw251]
  exact Kj182 _ _ _ ⟨s251, _, v233_1, u233_0, v233_0, b221, rfl, (ue (ue (ue (ue (ue (ue (ue rfl rfl) rfl) rfl) rfl) rfl) rfl) rfl), (K229.st (Yf p234 p244 p247 p251) rfl), (RdF.rc (V234_1.st (Xo p244 p247) rfl) rc251 rfl rfl), (RwF.rce (U234_0.st (Xo p244 p247) rfl rfl) rc251 rfl rfl rfl), f233_0, (B234.st (Ye p244 p247 p251) rfl), (A26.st (tr6 p169 p221 p234 p244 p247 p251) rfl), (B6.st (tr9 p14 p18 p25 p169 p221 p234 p244 p247 p251) rfl), (D247.st p251 rfl), (A21.st (tr7 p25 p169 p221 p234 p244 p247 p251) rfl), (A226.st (Yf p234 p244 p247 p251) rfl)⟩
 rintro y182 _ _ ⟨s259, _, vy182_0, vy182_1, uy182_0, by182_0, rfl, rfl, Ky182, Ay182_0, Ay182_1, Fy182_0, By182_p0, By182_b14, By182_b6, Dy182_0, Cy182_11, Cy182_12⟩
 refine Xb rfl (dn (sq (sr (Xb rfl (Xb rfl (dn (cd rfl (fun h266 => ?_) (fun h266 => ?_))))))))
 ·
  refine sr (bd (cells := [(iI 0), (iI 0), (.float .f64 0), (.slice none 0 0), (iI 0)]) pl48 o48 rfl rfl rfl rfl rfl rfl (Yk (vs := [(iI 0), (iI 0), (.float .f64 0), (.slice none 0 0), (iI 0)]) By182_b6 z48 rfl (Xd rfl (Xd rfl (Xd (FL.one (fl_c rfl)) (Xd rfl (Xd rfl Xt))))) rfl (fun s267 p267 B267 => ?_)))
  refine Xb rfl (dn ?_)
  obtain ⟨s270, hw270, p270, rc270⟩ := rc_all s267 [49] 899 rfl
  rw [hw270]
  exact re rfl func23 rfl (r_b (B267.st p270 rfl) u48 rfl z48 rfl (Xv rfl Xg)) rfl ⟨_, rfl, (.float .f64 0), (.slice none 0 0), vy182_1, s270, rfl, rfl, (Ky182.st (Xo p267 p270) rfl), (fl_c rfl), (rd_nil 5 (Kd.int .u8) _ [0, 899]), (By182_p0.st (Xo p267 p270) rfl), ((Ay182_1.st p267 rfl rfl).rce rc270 rfl rfl rfl)⟩
 refine sk (sr (Xb rfl (Xb rfl (Xs fa33_0 rfl (Yb By182_p0 u31 rfl (Xb rfl (ix' Ay182_1.rd u31 z61 rfl (fun ad274 es274 h0_274 h1_274 he274 ce274 ia274 => ?_))))))))
 replace he274 := rw_sharp Ay182_1 h0_274 h1_274 ia274 ce274 he274
 obtain ⟨v274_0, v274_1, rfl, A274_0, A274_1⟩ := op61 he274
 refine lca ce274 u61 z61 rfl rfl rfl rfl rfl rfl rfl (Yk (vs := [(.bool ((at_ y182.2.2.2.2.2.2.1 a1).Leaf)), v274_0, v274_1]) By182_b14 z61 rfl (Xd rfl (Xd A274_0.one (Xd A274_1.one Xt))) rfl (fun s278 p278 B278 => ?_))
 refine dn (sr (Xs fa61_1 rfl (Yb B278 u52 rfl (Xb rfl ?_))))
 refine Yl (es := [(iI y182.1), (iI y182.2.1), uy182_0, vy182_0, (iI y182.2.2.2.2.1)]) (Dy182_0.st p278 rfl) u48 z48 rfl (cl' rfl func44 rfl (spec_l11put.calls ((at_ y182.2.2.2.2.2.2.1 a1).Entries) r24 (Entry.mk (Item.mk y182.1 y182.2.1 y182.2.2.1 y182.2.2.2.1) y182.2.2.2.2.1) s278.w (mm [0, 49] s278) v274_0 uy182_0 vy182_0 (A274_0.st p278 rfl) ((Xk (s := s278) Fy182_0).sub (D := [0, 49]) rfl) (Ay182_0.st p278 rfl)) ?_)
 rintro r283 v283_0 w283 m283 ⟨f283_0, ky283⟩
 obtain ⟨s284, rfl, p284, n284⟩ := nwx s278 w283 55 ky283
 have A283_0 := f283_0.c n284
 refine Xs fa61_1 rfl (sv' (B278.st p284 rfl) z52 rfl A283_0.one rfl (fun s287 p287 B287 => ?_))
 refine dn (sr (Xb rfl (dn (sr (Xb rfl (Xs fa61_2 rfl (Yb B287 u59 rfl (Xb rfl (Xb rfl ?_)))))))))
 have A289 := A274_1.st (Ye p278 p284 p287) rfl
 refine slh A289 u59 z3 rfl rfl rfl rfl rfl rfl rfl (fun v290 A290 => ?_)
 refine apF Yd sl59 (ow_nil 3 (Kd.int .i64) s287 56) A290 rfl rfl rfl rfl rfl rfl rfl (fun v292 s292 p292 A292 => ?_)
 refine asg' v292 rfl (dn (sr (Xw v292 rfl (Xb rfl (ltF' (K := (Kd.int .i64)) (cells := [(iI y182.2.2.2.2.2.1)]) [y182.2.2.2.2.2.1] 57 Yd u59 z3 o3 (fun w => (els_flat _ _ _)) rfl (fun v294 s294 p294 A294 => ?_))))))
 refine apF Yd sl59 (A292.st p294 rfl) A294.rd rfl rfl rfl rfl rfl rfl rfl (fun v297 s297 p297 A297 => ?_)
 refine asg' v297 rfl (dn (sr (Xw v297 rfl (Xs fa61_2 rfl ?_))))
 have A299 := B287.st (Ye p292 p294 p297) rfl
 refine Yb A299 u59 rfl (Xb rfl (Xb rfl ?_))
 refine sla (A289.st (Ye p292 p294 p297) rfl) u59 z3 rfl rfl rfl rfl rfl rfl rfl (fun v301 A301 => ?_)
 refine apF Yd sl59 A297 A301 rfl rfl rfl rfl rfl rfl rfl (fun v303 s303 p303 A303 => ?_)
 refine asg' v303 rfl (dn (sr (Xw v303 rfl (Xs fa61_2 rfl ?_))))
 refine sv' (A299.st p303 rfl) z59 rfl A303.rd.one rfl (fun s306 p306 B306 => ?_)
 refine dn (sq (Ya [[], [0], [1], [2], [], [], [3, 4, 0, 1, 2, 3, 4, 5], [6, 5, 0, 1, 2, 3, 4, 5]] [some 131, some 132, some 133, some 134, some 135, some 136, some 137, none] [[0], [131], [132], [133], [1], [8], [134, 135], [137, 136]] [0, 1, 2, 3, 4, 5, 6, 7] ⟨by kernel_rfl, by kernel_rfl, by kernel_rfl⟩ (by kernel_rfl) (fun s308 p308 l308 tb308 zd308 => ?_)))
 refine Xu [6, 7] tb308 ((((((zd308.add 0 131 (pB p0) rfl).add 1 132 (pB p0) rfl).add 2 133 (pB p0) rfl).add 3 134 vy182_1 rfl).add 4 135 (iI a1) rfl).add 5 136 (.agg #[(.bool ((at_ y182.2.2.2.2.2.2.1 a1).Leaf)), v283_0, v303]) rfl) (Xa (Xp (es := [(.bool ((at_ y182.2.2.2.2.2.2.1 a1).Leaf)), v283_0, v303]) (B306.st p308 rfl) u61 z61 rfl) rfl (Xa (Xc rfl) rfl (Xa (Xl (By182_p0.st (tr9 p278 p284 p287 p292 p294 p297 p303 p306 p308) rfl) u31 rfl) rfl (Xa (Xj fa33_0 rfl) rfl (Xa (Xc rfl) rfl (Xa (Xc rfl) rfl Xe)))))) (by kernel_rfl) (by decide) ?_
 have A319 := Ay182_1.st (tr9 p278 p284 p287 p292 p294 p297 p303 p306 p308) rfl rfl
 refine ix' A319.rd u31 z61 rfl (fun ad320 es320 h0_320 h1_320 he320 ce320 ia320 => ?_)
 replace he320 := rw_sharp A319 h0_320 h1_320 ia320 ce320 he320
 obtain ⟨v320_0, v320_1, rfl, A320_0, A320_1⟩ := op61 he320
 have A324 := A283_0.st (tr7 p287 p292 p294 p297 p303 p306 p308) rfl
 have A325 := A303.st (Xo p306 p308) rfl
 refine sor (x' := (Node.mk ((at_ y182.2.2.2.2.2.2.1 a1).Leaf) r283 (((([] : (List Int)) ++ (((at_ y182.2.2.2.2.2.2.1 a1).Kids).take ((IntKind.wrap .i64 (r24 + (1 : Int)))).toNat)) ++ [y182.2.2.2.2.2.1]) ++ (((at_ y182.2.2.2.2.2.2.1 a1).Kids).drop ((IntKind.wrap .i64 (r24 + (1 : Int)))).toNat)))) A319 ia320 h0_320 h1_320 (mk61 (x := (Node.mk ((at_ y182.2.2.2.2.2.2.1 a1).Leaf) r283 (((([] : (List Int)) ++ (((at_ y182.2.2.2.2.2.2.1 a1).Kids).take ((IntKind.wrap .i64 (r24 + (1 : Int)))).toNat)) ++ [y182.2.2.2.2.2.1]) ++ (((at_ y182.2.2.2.2.2.2.1 a1).Kids).drop ((IntKind.wrap .i64 (r24 + (1 : Int)))).toNat)))) (RdF.sub (D := [55, 0, 49, 56]) A324 rfl) (RdF.sub (D := [55, 0, 49, 56]) A325.rd rfl)) rfl z61 rfl rfl rfl rfl rfl rfl (fun s326 p326 A326 => ?_)
 refine nb (fun y328 h328 => ?_)
 have A328 : RwF 61 kd61 s326 vy182_1 y328 3 [0, 49, 55, 56] := by rw [h328]; exact A326.sub (D := [0, 49, 55, 56]) rfl
 refine dn (sq (sr (Xs fa61_1 rfl ?_)))
 have A329 := B306.st (Xo p308 p326) rfl
 refine Yb A329 u52 rfl ?_
 have A330 := A324.st p326 rfl
 refine ln' A330 u52 rfl (Xb rfl (dn (cd rfl (fun h331 => ?_) (fun h331 => ?_))))
 ·
  refine sr (bd (cells := [(iI 0), (iI 0), (.float .f64 0), (.slice none 0 0), (iI 0)]) pl48 o48 rfl rfl rfl rfl rfl rfl ?_)
  refine Yk (vs := [(iI 0), (iI 0), (.float .f64 0), (.slice none 0 0), (iI 0)]) (By182_b6.st (tr10 p278 p284 p287 p292 p294 p297 p303 p306 p308 p326) rfl) z48 rfl (Xd rfl (Xd rfl (Xd (FL.one (fl_c rfl)) (Xd rfl (Xd rfl Xt))))) rfl (fun s333 p333 B333 => ?_)
  refine Xb rfl (dn ?_)
  obtain ⟨s336, hw336, p336, rc336⟩ := rc_all s333 [49, 55, 56] 899 rfl
  rw [hw336]
  exact re rfl func23 rfl (r_b (B333.st p336 rfl) u48 rfl z48 rfl (Xv rfl Xg)) rfl ⟨_, rfl, (.float .f64 0), (.slice none 0 0), vy182_1, s336, rfl, rfl, (Ky182.st (Xy p278 p284 p287 p292 p294 p297 p303 p306 p308 p326 p333 p336) rfl), (fl_c rfl), (rd_nil 5 (Kd.int .u8) _ [0, 899]), (By182_p0.st (Xy p278 p284 p287 p292 p294 p297 p303 p306 p308 p326 p333 p336) rfl), ((A328.st p333 rfl rfl).rce rc336 rfl rfl rfl)⟩
 refine sk (sq (Ya [[], [0], [1], [2], [], [], [5], [4, 6, 3], [3, 7], [], [9, 8, 7, 0, 1, 2, 3, 4, 5, 6, 7, 8, 9]] [some 143, some 144, some 145, some 146, some 147, some 148, some 149, some 150, some 151, some 14, none] [[8], [143], [144], [145], [], [13], [148], [147, 149], [146, 150], [], [14, 151]] [0, 1, 2, 3, 4, 5, 6, 7, 8, 9, 10] ⟨by kernel_rfl, by kernel_rfl, by kernel_rfl⟩ (by kernel_rfl) (fun s340 p340 l340 tb340 zd340 => ?_)))
 have A344 := A330.st p340 rfl
 refine mg fun hg345 => ?_
 obtain ⟨v345, A345, cu345⟩ := cut_lo A344 hg345
 have A349 := A325.st (Xo p326 p340) rfl
 refine mg fun hg350 => ?_
 obtain ⟨v350, A350, cu350⟩ := cut_lo A349.rd hg350
 refine ji [10] (fun (y353 : (List Entry) × (List Int)) e w => ∃ (s : St) (e0 : Env) (vy353_0 vy353_1 : Value) (by353_0 : Nat), w = s.w ∧ e = upd (upd (upd (upd (upd (upd (upd e0 0 (pB p0)) 1 (iI a1)) 6 (pB b6)) 8 (pB b14)) 13 v303) 14 (pB by353_0)) 151 (.agg #[(.bool false), vy353_0, vy353_1]) ∧ Kp s0 s ∧ OwF Yn s [vy353_0] y353.1 59 ∧ OwF Yo s [vy353_1] y353.2 60 ∧ BlF s p0 33 [vy182_1, (iI y182.2.2.2.2.2.2.2)] 2 ∧ BlF s b14 61 [(.bool ((at_ y182.2.2.2.2.2.2.1 a1).Leaf)), v283_0, v303] 42 ∧ BlF s b6 48 [(iI 0), (iI 0), (.float .f64 0), (.slice none 0 0), (iI 0)] 41 ∧ BlF s by353_0 61 [(.bool false), (.slice none 0 0), (.slice none 0 0)] 58 ∧ OwF Yo s [v303] (((([] : (List Int)) ++ (((at_ y182.2.2.2.2.2.2.1 a1).Kids).take ((IntKind.wrap .i64 (r24 + (1 : Int)))).toNat)) ++ [y182.2.2.2.2.2.1]) ++ (((at_ y182.2.2.2.2.2.2.1 a1).Kids).drop ((IntKind.wrap .i64 (r24 + (1 : Int)))).toNat)) 56 ∧ RwF 61 kd61 s vy182_1 y328 3 [0, 49, 55, 56] ∧ RdF Yn s [v283_0] r283 [55, 0, 49]) (fun Gj353 Kj353 => ?_) ?_
 ·
  refine zstep3 3 4 9 [some 149, some 148] [some 149, some 148, some 145, some 144, some 143] [some 149, some 148, some 145, some 144, some 143] tb340 (((((zd340.add 0 143 (pO b14 1) rfl).add 1 144 v283_0 rfl).add 2 145 v345 rfl).add 5 148 v303 rfl).add 6 149 v350 rfl) (Xa (sla_q' cu350 hg350.1 u59 z3 rfl) rfl (Xa (Xq v303 rfl) rfl (Xa (sla_q' cu345 hg345.1 u52 z48 rfl) rfl (Xa (Xl (A329.st p340 rfl) u52 rfl) rfl (Xa (Xj fa61_1 rfl) rfl Xe))))) (by kernel_rfl) (by kernel_rfl) (fun l354 e354 zd354 => ?_) (fun l355 e355 zd355 => ?_) (fun l356 e356 zd356 => ?_)
  ·
   refine clO 61 rfl func24 rfl (spec_l11entries.calls (r283.drop ((3 : Int)).toNat) s340.w (mm [55, 0, 49] s340) v345 A345) (fun r358 v358_0 s359 p359 A358_0 => ?_)
   refine Xh (L' := [6, 5]) (D' := [0, 1, 2, 3]) zd354 rfl (fun zd361 => ?_)
   refine zstep2 4 9 [some 149, some 148] [some 149, some 148] tb340 zd361 (Xa (sla_q' cu350 hg350.1 u59 z3 rfl) rfl (Xa (Xq v303 rfl) rfl Xe)) (by kernel_rfl) (by kernel_rfl) (fun l362 e362 zd362 => ?_) (fun l363 e363 zd363 => ?_)
   ·
    refine lt0 (K := (Kd.int .i64)) 62 u59 z3 rfl rfl rfl rfl rfl (fun v364 s364 p364 A364 => ?_)
    refine Xh (L' := [6, 5]) (D' := [4, 0, 1, 2, 3]) zd362 rfl (fun zd366 => ?_)
    refine zstep2 7 9 [] [some 149, some 148] tb340 zd366 (Xa (sla_q' cu350 hg350.1 u59 z3 rfl) rfl (Xa (Xq v303 rfl) rfl Xe)) (by kernel_rfl) (by kernel_rfl) (fun l367 e367 zd367 => ?_) (fun l368 e368 zd368 => ?_)
    ·
     refine apF Yd sl59 A364 (A350.st (Xo p359 p364) rfl) rfl rfl rfl rfl rfl rfl rfl (fun v370 s370 p370 A370 => ?_)
     refine Xh (L' := []) (D' := [5, 6, 7, 4, 0, 1, 2, 3]) zd367 rfl (fun zd372 => ?_)
     refine Xm 9 [some 151] tb340 (zd372.add 8 151 (.agg #[(.bool false), v358_0, v370]) rfl) (Xa (bd_q' (cells := [(.bool false), v358_0, v370]) pl61 o61 rfl (Xx (Yh (oc (A358_0.st (Xo p364 p370) rfl).rd.one) (Yh (oc A370.rd.one) pc_n)) rfl)) rfl Xe) (by kernel_rfl) rfl (fun l375 e375 zd375 => ?_)
     refine al' (cs := [(.bool false), (.slice none 0 0), (.slice none 0 0)]) 63 rfl o61 rfl (fun b377 s377 p377 B377 => ?_)
     refine Xh (L' := [8]) (D' := [9, 5, 6, 7, 4, 0, 1, 2, 3]) zd375 rfl (fun zd379 => ?_)
     refine Xu [10] tb340 zd379 (Xa (bd_q' (cells := [(.bool false), v358_0, v370]) pl61 o61 rfl (Xx (Yh (oc (A358_0.st (Ye p364 p370 p377) rfl).rd.one) (Yh (oc (A370.st p377 rfl).rd.one) pc_n)) rfl)) rfl Xe) (by kernel_rfl) (by decide) ?_
     obtain ⟨s382, hw382, p382, D382⟩ := BlF.rc B377 58 rfl
     rw [hw382]
     obtain ⟨s385, hw385, p385, A385⟩ := (A358_0.st (Yf p364 p370 p377 p382) rfl).rc 59 rfl
     rw [hw385]
     obtain ⟨s387, hw387, p387, A387⟩ := (A370.st (Ye p377 p382 p385) rfl).rc 60 rfl
     rw [hw387]
     exact Kj353 _ _ _ ⟨s387, _, v358_0, v370, b377, rfl, (ue (ue (ue (ue (ue (ue (ue rfl rfl) rfl) rfl) rfl) rfl) rfl) rfl), (Ky182.st (tr7 (Xy p278 p284 p287 p292 p294 p297 p303 p306 p308 p326 p340 p359) p364 p370 p377 p382 p385 p387) rfl), (A385.st p387 rfl), A387, (By182_p0.st (tr7 (Xy p278 p284 p287 p292 p294 p297 p303 p306 p308 p326 p340 p359) p364 p370 p377 p382 p385 p387) rfl), (A329.st (tr8 p340 p359 p364 p370 p377 p382 p385 p387) rfl), (By182_b6.st (tr7 (Xy p278 p284 p287 p292 p294 p297 p303 p306 p308 p326 p340 p359) p364 p370 p377 p382 p385 p387) rfl), (D382.st (Xo p385 p387) rfl), (A349.st (tr7 p359 p364 p370 p377 p382 p385 p387) rfl), (A328.st (tr8 p340 p359 p364 p370 p377 p382 p385 p387) rfl rfl), (A344.st (tr7 p359 p364 p370 p377 p382 p385 p387) rfl)⟩
    refine al' (cs := [(.bool false), (.slice none 0 0), (.slice none 0 0)]) 64 rfl o61 rfl (fun b397 s397 p397 B397 => ?_)
    refine Xh (L' := [6, 5]) (D' := [9, 4, 0, 1, 2, 3]) zd368 rfl (fun zd399 => ?_)
    refine Xm 7 [] tb340 zd399 (Xa (sla_q' cu350 hg350.1 u59 z3 rfl) rfl (Xa (Xq v303 rfl) rfl Xe)) (by kernel_rfl) rfl (fun l400 e400 zd400 => ?_)
    refine apF Yd sl59 (A364.st p397 rfl) (A350.st (Ye p359 p364 p397) rfl) rfl rfl rfl rfl rfl rfl rfl (fun v403 s403 p403 A403 => ?_)
    refine Xh (L' := []) (D' := [5, 6, 7, 9, 4, 0, 1, 2, 3]) zd400 rfl (fun zd405 => ?_)
    refine Xu [10] tb340 (zd405.add 8 151 (.agg #[(.bool false), v358_0, v403]) rfl) (Xa (bd_q' (cells := [(.bool false), v358_0, v403]) pl61 o61 rfl (Xx (Yh (oc (A358_0.st (Ye p364 p397 p403) rfl).rd.one) (Yh (oc A403.rd.one) pc_n)) rfl)) rfl Xe) (by kernel_rfl) (by decide) ?_
    obtain ⟨s410, hw410, p410, D410⟩ := BlF.rc (B397.st p403 rfl) 58 rfl
    rw [hw410]
    obtain ⟨s413, hw413, p413, A413⟩ := (A358_0.st (Yf p364 p397 p403 p410) rfl).rc 59 rfl
    rw [hw413]
    obtain ⟨s415, hw415, p415, A415⟩ := (A403.st (Xo p410 p413) rfl).rc 60 rfl
    rw [hw415]
    exact Kj353 _ _ _ ⟨s415, _, v358_0, v403, b397, rfl, (ue (ue (ue (ue (ue (ue (ue rfl rfl) rfl) rfl) rfl) rfl) rfl) rfl), (Ky182.st (tr7 (Xy p278 p284 p287 p292 p294 p297 p303 p306 p308 p326 p340 p359) p364 p397 p403 p410 p413 p415) rfl), (A413.st p415 rfl), A415, (By182_p0.st (tr7 (Xy p278 p284 p287 p292 p294 p297 p303 p306 p308 p326 p340 p359) p364 p397 p403 p410 p413 p415) rfl), (A329.st (tr8 p340 p359 p364 p397 p403 p410 p413 p415) rfl), (By182_b6.st (tr7 (Xy p278 p284 p287 p292 p294 p297 p303 p306 p308 p326 p340 p359) p364 p397 p403 p410 p413 p415) rfl), (D410.st (Xo p413 p415) rfl), (A349.st (tr7 p359 p364 p397 p403 p410 p413 p415) rfl), (A328.st (tr8 p340 p359 p364 p397 p403 p410 p413 p415) rfl rfl), (A344.st (tr7 p359 p364 p397 p403 p410 p413 p415) rfl)⟩
   refine al' (cs := [(.bool false), (.slice none 0 0), (.slice none 0 0)]) 65 rfl o61 rfl (fun b425 s425 p425 B425 => ?_)
   refine Xh (L' := [6, 5]) (D' := [9, 0, 1, 2, 3]) zd363 rfl (fun zd427 => ?_)
   refine Xm 4 [some 149, some 148] tb340 zd427 (Xa (sla_q' cu350 hg350.1 u59 z3 rfl) rfl (Xa (Xq v303 rfl) rfl Xe)) (by kernel_rfl) rfl (fun l428 e428 zd428 => ?_)
   refine lt0 (K := (Kd.int .i64)) 66 u59 z3 rfl rfl rfl rfl rfl (fun v429 s429 p429 A429 => ?_)
   refine Xh (L' := [6, 5]) (D' := [4, 9, 0, 1, 2, 3]) zd428 rfl (fun zd431 => ?_)
   refine Xm 7 [] tb340 zd431 (Xa (sla_q' cu350 hg350.1 u59 z3 rfl) rfl (Xa (Xq v303 rfl) rfl Xe)) (by kernel_rfl) rfl (fun l432 e432 zd432 => ?_)
   refine apF Yd sl59 A429 (A350.st (Ye p359 p425 p429) rfl) rfl rfl rfl rfl rfl rfl rfl (fun v434 s434 p434 A434 => ?_)
   refine Xh (L' := []) (D' := [5, 6, 7, 4, 9, 0, 1, 2, 3]) zd432 rfl (fun zd436 => ?_)
   refine Xu [10] tb340 (zd436.add 8 151 (.agg #[(.bool false), v358_0, v434]) rfl) (Xa (bd_q' (cells := [(.bool false), v358_0, v434]) pl61 o61 rfl (Xx (Yh (oc (A358_0.st (Ye p425 p429 p434) rfl).rd.one) (Yh (oc A434.rd.one) pc_n)) rfl)) rfl Xe) (by kernel_rfl) (by decide) ?_
   obtain ⟨s441, hw441, p441, D441⟩ := BlF.rc (B425.st (Xo p429 p434) rfl) 58 rfl
   rw [hw441]
   obtain ⟨s444, hw444, p444, A444⟩ := (A358_0.st (Yf p425 p429 p434 p441) rfl).rc 59 rfl
   rw [hw444]
   obtain ⟨s446, hw446, p446, A446⟩ := (A434.st (Xo p441 p444) rfl).rc 60 rfl
   rw [hw446]
   exact Kj353 _ _ _ ⟨s446, _, v358_0, v434, b425, rfl, (ue (ue (ue (ue (ue (ue (ue rfl rfl) rfl) rfl) rfl) rfl) rfl) rfl), (Ky182.st (tr7 (Xy p278 p284 p287 p292 p294 p297 p303 p306 p308 p326 p340 p359) p425 p429 p434 p441 p444 p446) rfl), (A444.st p446 rfl), A446, (By182_p0.st (tr7 (Xy p278 p284 p287 p292 p294 p297 p303 p306 p308 p326 p340 p359) p425 p429 p434 p441 p444 p446) rfl), (A329.st (tr8 p340 p359 p425 p429 p434 p441 p444 p446) rfl), (By182_b6.st (tr7 (Xy p278 p284 p287 p292 p294 p297 p303 p306 p308 p326 p340 p359) p425 p429 p434 p441 p444 p446) rfl), (D441.st (Xo p444 p446) rfl), (A349.st (tr7 p359 p425 p429 p434 p441 p444 p446) rfl), (A328.st (tr8 p340 p359 p425 p429 p434 p441 p444 p446) rfl rfl), (A344.st (tr7 p359 p425 p429 p434 p441 p444 p446) rfl)⟩
  ·
   refine lt0 (K := (Kd.int .i64)) 67 u59 z3 rfl rfl rfl rfl rfl (fun v456 s456 p456 A456 => ?_)
   refine Xh (L' := [6, 5, 2, 1, 0]) (D' := [4]) zd355 rfl (fun zd458 => ?_)
   refine zstep2 3 9 [some 149, some 148] [some 149, some 148, some 145, some 144, some 143] tb340 zd458 (Xa (sla_q' cu350 hg350.1 u59 z3 rfl) rfl (Xa (Xq v303 rfl) rfl (Xa (sla_q' cu345 hg345.1 u52 z48 rfl) rfl (Xa (Xl (A329.st (Xo p340 p456) rfl) u52 rfl) rfl (Xa (Xj fa61_1 rfl) rfl Xe))))) (by kernel_rfl) (by kernel_rfl) (fun l459 e459 zd459 => ?_) (fun l460 e460 zd460 => ?_)
   ·
    refine clO 68 rfl func24 rfl (spec_l11entries.calls (r283.drop ((3 : Int)).toNat) s456.w (mm [55, 0, 49] s456) v345 (A345.st p456 rfl)) (fun r463 v463_0 s464 p464 A463_0 => ?_)
    refine Xh (L' := [6, 5]) (D' := [0, 1, 2, 3, 4]) zd459 rfl (fun zd466 => ?_)
    refine zstep2 7 9 [] [some 149, some 148] tb340 zd466 (Xa (sla_q' cu350 hg350.1 u59 z3 rfl) rfl (Xa (Xq v303 rfl) rfl Xe)) (by kernel_rfl) (by kernel_rfl) (fun l467 e467 zd467 => ?_) (fun l468 e468 zd468 => ?_)
    ·
     refine apF Yd sl59 (A456.st p464 rfl) (A350.st (Xo p456 p464) rfl) rfl rfl rfl rfl rfl rfl rfl (fun v471 s471 p471 A471 => ?_)
     refine Xh (L' := []) (D' := [5, 6, 7, 0, 1, 2, 3, 4]) zd467 rfl (fun zd473 => ?_)
     refine Xm 9 [some 151] tb340 (zd473.add 8 151 (.agg #[(.bool false), v463_0, v471]) rfl) (Xa (bd_q' (cells := [(.bool false), v463_0, v471]) pl61 o61 rfl (Xx (Yh (oc (A463_0.st p471 rfl).rd.one) (Yh (oc A471.rd.one) pc_n)) rfl)) rfl Xe) (by kernel_rfl) rfl (fun l476 e476 zd476 => ?_)
     refine al' (cs := [(.bool false), (.slice none 0 0), (.slice none 0 0)]) 69 rfl o61 rfl (fun b478 s478 p478 B478 => ?_)
     refine Xh (L' := [8]) (D' := [9, 5, 6, 7, 0, 1, 2, 3, 4]) zd476 rfl (fun zd480 => ?_)
     refine Xu [10] tb340 zd480 (Xa (bd_q' (cells := [(.bool false), v463_0, v471]) pl61 o61 rfl (Xx (Yh (oc (A463_0.st (Xo p471 p478) rfl).rd.one) (Yh (oc (A471.st p478 rfl).rd.one) pc_n)) rfl)) rfl Xe) (by kernel_rfl) (by decide) ?_
     obtain ⟨s483, hw483, p483, D483⟩ := BlF.rc B478 58 rfl
     rw [hw483]
     obtain ⟨s486, hw486, p486, A486⟩ := (A463_0.st (Ye p471 p478 p483) rfl).rc 59 rfl
     rw [hw486]
     obtain ⟨s488, hw488, p488, A488⟩ := (A471.st (Ye p478 p483 p486) rfl).rc 60 rfl
     rw [hw488]
     exact Kj353 _ _ _ ⟨s488, _, v463_0, v471, b478, rfl, (ue (ue (ue (ue (ue (ue (ue rfl rfl) rfl) rfl) rfl) rfl) rfl) rfl), (Ky182.st (tr7 (Xy p278 p284 p287 p292 p294 p297 p303 p306 p308 p326 p340 p456) p464 p471 p478 p483 p486 p488) rfl), (A486.st p488 rfl), A488, (By182_p0.st (tr7 (Xy p278 p284 p287 p292 p294 p297 p303 p306 p308 p326 p340 p456) p464 p471 p478 p483 p486 p488) rfl), (A329.st (tr8 p340 p456 p464 p471 p478 p483 p486 p488) rfl), (By182_b6.st (tr7 (Xy p278 p284 p287 p292 p294 p297 p303 p306 p308 p326 p340 p456) p464 p471 p478 p483 p486 p488) rfl), (D483.st (Xo p486 p488) rfl), (A349.st (tr7 p456 p464 p471 p478 p483 p486 p488) rfl), (A328.st (tr8 p340 p456 p464 p471 p478 p483 p486 p488) rfl rfl), (A344.st (tr7 p456 p464 p471 p478 p483 p486 p488) rfl)⟩
    refine al' (cs := [(.bool false), (.slice none 0 0), (.slice none 0 0)]) 70 rfl o61 rfl (fun b498 s498 p498 B498 => ?_)
    refine Xh (L' := [6, 5]) (D' := [9, 0, 1, 2, 3, 4]) zd468 rfl (fun zd500 => ?_)
    refine Xm 7 [] tb340 zd500 (Xa (sla_q' cu350 hg350.1 u59 z3 rfl) rfl (Xa (Xq v303 rfl) rfl Xe)) (by kernel_rfl) rfl (fun l501 e501 zd501 => ?_)
    refine apF Yd sl59 (A456.st (Xo p464 p498) rfl) (A350.st (Ye p456 p464 p498) rfl) rfl rfl rfl rfl rfl rfl rfl (fun v504 s504 p504 A504 => ?_)
    refine Xh (L' := []) (D' := [5, 6, 7, 9, 0, 1, 2, 3, 4]) zd501 rfl (fun zd506 => ?_)
    refine Xu [10] tb340 (zd506.add 8 151 (.agg #[(.bool false), v463_0, v504]) rfl) (Xa (bd_q' (cells := [(.bool false), v463_0, v504]) pl61 o61 rfl (Xx (Yh (oc (A463_0.st (Xo p498 p504) rfl).rd.one) (Yh (oc A504.rd.one) pc_n)) rfl)) rfl Xe) (by kernel_rfl) (by decide) ?_
    obtain ⟨s511, hw511, p511, D511⟩ := BlF.rc (B498.st p504 rfl) 58 rfl
    rw [hw511]
    obtain ⟨s514, hw514, p514, A514⟩ := (A463_0.st (Ye p498 p504 p511) rfl).rc 59 rfl
    rw [hw514]
    obtain ⟨s516, hw516, p516, A516⟩ := (A504.st (Xo p511 p514) rfl).rc 60 rfl
    rw [hw516]
    exact Kj353 _ _ _ ⟨s516, _, v463_0, v504, b498, rfl, (ue (ue (ue (ue (ue (ue (ue rfl rfl) rfl) rfl) rfl) rfl) rfl) rfl), (Ky182.st (tr7 (Xy p278 p284 p287 p292 p294 p297 p303 p306 p308 p326 p340 p456) p464 p498 p504 p511 p514 p516) rfl), (A514.st p516 rfl), A516, (By182_p0.st (tr7 (Xy p278 p284 p287 p292 p294 p297 p303 p306 p308 p326 p340 p456) p464 p498 p504 p511 p514 p516) rfl), (A329.st (tr8 p340 p456 p464 p498 p504 p511 p514 p516) rfl), (By182_b6.st (tr7 (Xy p278 p284 p287 p292 p294 p297 p303 p306 p308 p326 p340 p456) p464 p498 p504 p511 p514 p516) rfl), (D511.st (Xo p514 p516) rfl), (A349.st (tr7 p456 p464 p498 p504 p511 p514 p516) rfl), (A328.st (tr8 p340 p456 p464 p498 p504 p511 p514 p516) rfl rfl), (A344.st (tr7 p456 p464 p498 p504 p511 p514 p516) rfl)⟩
   refine al' (cs := [(.bool false), (.slice none 0 0), (.slice none 0 0)]) 71 rfl o61 rfl (fun b526 s526 p526 B526 => ?_)
   refine Xh (L' := [6, 5, 2, 1, 0]) (D' := [9, 4]) zd460 rfl (fun zd528 => ?_)
   refine Xm 3 [some 149, some 148] tb340 zd528 (Xa (sla_q' cu350 hg350.1 u59 z3 rfl) rfl (Xa (Xq v303 rfl) rfl (Xa (sla_q' cu345 hg345.1 u52 z48 rfl) rfl (Xa (Xl (A329.st (Ye p340 p456 p526) rfl) u52 rfl) rfl (Xa (Xj fa61_1 rfl) rfl Xe))))) (by kernel_rfl) rfl (fun l529 e529 zd529 => ?_)
   refine clO 72 rfl func24 rfl (spec_l11entries.calls (r283.drop ((3 : Int)).toNat) s526.w (mm [55, 0, 49] s526) v345 (A345.st (Xo p456 p526) rfl)) (fun r532 v532_0 s533 p533 A532_0 => ?_)
   refine Xh (L' := [6, 5]) (D' := [0, 1, 2, 3, 9, 4]) zd529 rfl (fun zd535 => ?_)
   refine Xm 7 [] tb340 zd535 (Xa (sla_q' cu350 hg350.1 u59 z3 rfl) rfl (Xa (Xq v303 rfl) rfl Xe)) (by kernel_rfl) rfl (fun l536 e536 zd536 => ?_)
   refine apF Yd sl59 (A456.st (Xo p526 p533) rfl) (A350.st (Ye p456 p526 p533) rfl) rfl rfl rfl rfl rfl rfl rfl (fun v539 s539 p539 A539 => ?_)
   refine Xh (L' := []) (D' := [5, 6, 7, 0, 1, 2, 3, 9, 4]) zd536 rfl (fun zd541 => ?_)
   refine Xu [10] tb340 (zd541.add 8 151 (.agg #[(.bool false), v532_0, v539]) rfl) (Xa (bd_q' (cells := [(.bool false), v532_0, v539]) pl61 o61 rfl (Xx (Yh (oc (A532_0.st p539 rfl).rd.one) (Yh (oc A539.rd.one) pc_n)) rfl)) rfl Xe) (by kernel_rfl) (by decide) ?_
   obtain ⟨s546, hw546, p546, D546⟩ := BlF.rc (B526.st (Xo p533 p539) rfl) 58 rfl
   rw [hw546]
   obtain ⟨s549, hw549, p549, A549⟩ := (A532_0.st (Xo p539 p546) rfl).rc 59 rfl
   rw [hw549]
   obtain ⟨s551, hw551, p551, A551⟩ := (A539.st (Xo p546 p549) rfl).rc 60 rfl
   rw [hw551]
   exact Kj353 _ _ _ ⟨s551, _, v532_0, v539, b526, rfl, (ue (ue (ue (ue (ue (ue (ue rfl rfl) rfl) rfl) rfl) rfl) rfl) rfl), (Ky182.st (tr7 (Xy p278 p284 p287 p292 p294 p297 p303 p306 p308 p326 p340 p456) p526 p533 p539 p546 p549 p551) rfl), (A549.st p551 rfl), A551, (By182_p0.st (tr7 (Xy p278 p284 p287 p292 p294 p297 p303 p306 p308 p326 p340 p456) p526 p533 p539 p546 p549 p551) rfl), (A329.st (tr8 p340 p456 p526 p533 p539 p546 p549 p551) rfl), (By182_b6.st (tr7 (Xy p278 p284 p287 p292 p294 p297 p303 p306 p308 p326 p340 p456) p526 p533 p539 p546 p549 p551) rfl), (D546.st (Xo p549 p551) rfl), (A349.st (tr7 p456 p526 p533 p539 p546 p549 p551) rfl), (A328.st (tr8 p340 p456 p526 p533 p539 p546 p549 p551) rfl rfl), (A344.st (tr7 p456 p526 p533 p539 p546 p549 p551) rfl)⟩
  refine al' (cs := [(.bool false), (.slice none 0 0), (.slice none 0 0)]) 73 rfl o61 rfl (fun b561 s561 p561 B561 => ?_)
  refine Xh (L' := [6, 5, 2, 1, 0]) (D' := [9]) zd356 rfl (fun zd563 => ?_)
  refine zstep2 3 4 [some 149, some 148] [some 149, some 148, some 145, some 144, some 143] tb340 zd563 (Xa (sla_q' cu350 hg350.1 u59 z3 rfl) rfl (Xa (Xq v303 rfl) rfl (Xa (sla_q' cu345 hg345.1 u52 z48 rfl) rfl (Xa (Xl (A329.st (Xo p340 p561) rfl) u52 rfl) rfl (Xa (Xj fa61_1 rfl) rfl Xe))))) (by kernel_rfl) (by kernel_rfl) (fun l564 e564 zd564 => ?_) (fun l565 e565 zd565 => ?_)
  ·
   refine clO 74 rfl func24 rfl (spec_l11entries.calls (r283.drop ((3 : Int)).toNat) s561.w (mm [55, 0, 49] s561) v345 (A345.st p561 rfl)) (fun r568 v568_0 s569 p569 A568_0 => ?_)
   refine Xh (L' := [6, 5]) (D' := [0, 1, 2, 3, 9]) zd564 rfl (fun zd571 => ?_)
   refine Xm 4 [some 149, some 148] tb340 zd571 (Xa (sla_q' cu350 hg350.1 u59 z3 rfl) rfl (Xa (Xq v303 rfl) rfl Xe)) (by kernel_rfl) rfl (fun l572 e572 zd572 => ?_)
   refine lt0 (K := (Kd.int .i64)) 75 u59 z3 rfl rfl rfl rfl rfl (fun v573 s573 p573 A573 => ?_)
   refine Xh (L' := [6, 5]) (D' := [4, 0, 1, 2, 3, 9]) zd572 rfl (fun zd575 => ?_)
   refine Xm 7 [] tb340 zd575 (Xa (sla_q' cu350 hg350.1 u59 z3 rfl) rfl (Xa (Xq v303 rfl) rfl Xe)) (by kernel_rfl) rfl (fun l576 e576 zd576 => ?_)
   refine apF Yd sl59 A573 (A350.st (Ye p561 p569 p573) rfl) rfl rfl rfl rfl rfl rfl rfl (fun v578 s578 p578 A578 => ?_)
   refine Xh (L' := []) (D' := [5, 6, 7, 4, 0, 1, 2, 3, 9]) zd576 rfl (fun zd580 => ?_)
   refine Xu [10] tb340 (zd580.add 8 151 (.agg #[(.bool false), v568_0, v578]) rfl) (Xa (bd_q' (cells := [(.bool false), v568_0, v578]) pl61 o61 rfl (Xx (Yh (oc (A568_0.st (Xo p573 p578) rfl).rd.one) (Yh (oc A578.rd.one) pc_n)) rfl)) rfl Xe) (by kernel_rfl) (by decide) ?_
   obtain ⟨s585, hw585, p585, D585⟩ := BlF.rc (B561.st (Ye p569 p573 p578) rfl) 58 rfl
   rw [hw585]
   obtain ⟨s588, hw588, p588, A588⟩ := (A568_0.st (Ye p573 p578 p585) rfl).rc 59 rfl
   rw [hw588]
   obtain ⟨s590, hw590, p590, A590⟩ := (A578.st (Xo p585 p588) rfl).rc 60 rfl
   rw [hw590]
   exact Kj353 _ _ _ ⟨s590, _, v568_0, v578, b561, rfl, (ue (ue (ue (ue (ue (ue (ue rfl rfl) rfl) rfl) rfl) rfl) rfl) rfl), (Ky182.st (tr7 (Xy p278 p284 p287 p292 p294 p297 p303 p306 p308 p326 p340 p561) p569 p573 p578 p585 p588 p590) rfl), (A588.st p590 rfl), A590, (By182_p0.st (tr7 (Xy p278 p284 p287 p292 p294 p297 p303 p306 p308 p326 p340 p561) p569 p573 p578 p585 p588 p590) rfl), (A329.st (tr8 p340 p561 p569 p573 p578 p585 p588 p590) rfl), (By182_b6.st (tr7 (Xy p278 p284 p287 p292 p294 p297 p303 p306 p308 p326 p340 p561) p569 p573 p578 p585 p588 p590) rfl), (D585.st (Xo p588 p590) rfl), (A349.st (tr7 p561 p569 p573 p578 p585 p588 p590) rfl), (A328.st (tr8 p340 p561 p569 p573 p578 p585 p588 p590) rfl rfl), (A344.st (tr7 p561 p569 p573 p578 p585 p588 p590) rfl)⟩
  refine lt0 (K := (Kd.int .i64)) 76 u59 z3 rfl rfl rfl rfl rfl (fun v600 s600 p600 A600 => ?_)
  refine Xh (L' := [6, 5, 2, 1, 0]) (D' := [4, 9]) zd565 rfl (fun zd602 => ?_)
  refine Xm 3 [some 149, some 148] tb340 zd602 (Xa (sla_q' cu350 hg350.1 u59 z3 rfl) rfl (Xa (Xq v303 rfl) rfl (Xa (sla_q' cu345 hg345.1 u52 z48 rfl) rfl (Xa (Xl (A329.st (Ye p340 p561 p600) rfl) u52 rfl) rfl (Xa (Xj fa61_1 rfl) rfl Xe))))) (by kernel_rfl) rfl (fun l603 e603 zd603 => ?_)
  refine clO 77 rfl func24 rfl (spec_l11entries.calls (r283.drop ((3 : Int)).toNat) s600.w (mm [55, 0, 49] s600) v345 (A345.st (Xo p561 p600) rfl)) (fun r606 v606_0 s607 p607 A606_0 => ?_)
  refine Xh (L' := [6, 5]) (D' := [0, 1, 2, 3, 4, 9]) zd603 rfl (fun zd609 => ?_)
  refine Xm 7 [] tb340 zd609 (Xa (sla_q' cu350 hg350.1 u59 z3 rfl) rfl (Xa (Xq v303 rfl) rfl Xe)) (by kernel_rfl) rfl (fun l610 e610 zd610 => ?_)
  refine apF Yd sl59 (A600.st p607 rfl) (A350.st (Ye p561 p600 p607) rfl) rfl rfl rfl rfl rfl rfl rfl (fun v613 s613 p613 A613 => ?_)
  refine Xh (L' := []) (D' := [5, 6, 7, 0, 1, 2, 3, 4, 9]) zd610 rfl (fun zd615 => ?_)
  refine Xu [10] tb340 (zd615.add 8 151 (.agg #[(.bool false), v606_0, v613]) rfl) (Xa (bd_q' (cells := [(.bool false), v606_0, v613]) pl61 o61 rfl (Xx (Yh (oc (A606_0.st p613 rfl).rd.one) (Yh (oc A613.rd.one) pc_n)) rfl)) rfl Xe) (by kernel_rfl) (by decide) ?_
  obtain ⟨s620, hw620, p620, D620⟩ := BlF.rc (B561.st (Ye p600 p607 p613) rfl) 58 rfl
  rw [hw620]
  obtain ⟨s623, hw623, p623, A623⟩ := (A606_0.st (Xo p613 p620) rfl).rc 59 rfl
  rw [hw623]
  obtain ⟨s625, hw625, p625, A625⟩ := (A613.st (Xo p620 p623) rfl).rc 60 rfl
  rw [hw625]
  exact Kj353 _ _ _ ⟨s625, _, v606_0, v613, b561, rfl, (ue (ue (ue (ue (ue (ue (ue rfl rfl) rfl) rfl) rfl) rfl) rfl) rfl), (Ky182.st (tr7 (Xy p278 p284 p287 p292 p294 p297 p303 p306 p308 p326 p340 p561) p600 p607 p613 p620 p623 p625) rfl), (A623.st p625 rfl), A625, (By182_p0.st (tr7 (Xy p278 p284 p287 p292 p294 p297 p303 p306 p308 p326 p340 p561) p600 p607 p613 p620 p623 p625) rfl), (A329.st (tr8 p340 p561 p600 p607 p613 p620 p623 p625) rfl), (By182_b6.st (tr7 (Xy p278 p284 p287 p292 p294 p297 p303 p306 p308 p326 p340 p561) p600 p607 p613 p620 p623 p625) rfl), (D620.st (Xo p623 p625) rfl), (A349.st (tr7 p561 p600 p607 p613 p620 p623 p625) rfl), (A328.st (tr8 p340 p561 p600 p607 p613 p620 p623 p625) rfl rfl), (A344.st (tr7 p561 p600 p607 p613 p620 p623 p625) rfl)⟩
 rintro y353 _ _ ⟨s635, _, vy353_0, vy353_1, by353_0, rfl, rfl, Ky353, Ay353_0, Ay353_1, By353_p0, By353_b14, By353_b6, Dy353_0, Cy353_304, Cy353_327, Cy353_285⟩
 refine Yk (vs := [(.bool false), vy353_0, vy353_1]) Dy353_0 z61 rfl (Xd rfl (Xd Ay353_0.rd.one (Xd Ay353_1.rd.one Xt))) rfl (fun s642 p642 B642 => ?_)
 refine dn (sr (Xs fa61_1 rfl ?_))
 have A644 := By353_b14.st p642 rfl
 refine Yb A644 u52 rfl ?_
 have A645 := Cy353_285.st p642 rfl
 refine ix' A645 u52 z48 rfl (fun ad646 es646 h0_646 h1_646 he646 ce646 ia646 => ?_)
 obtain ⟨v646_0, v646_1, rfl, A646_0, A646_1⟩ := op48 he646
 refine lca ce646 u48 z48 rfl rfl rfl rfl rfl rfl rfl (al' (cs := [(iI 0), (iI 0), (.float .f64 0), (.slice none 0 0), (iI 0)]) 78 rfl o48 rfl (fun b649 s649 p649 B649 => ?_))
 have A651 := A646_1.st p649 rfl
 refine Yk (vs := [(iI (((at_ r283 (2 : Int)).Key).Kind)), (iI (((at_ r283 (2 : Int)).Key).N)), v646_0, v646_1, (iI ((at_ r283 (2 : Int)).Id))]) B649 z48 rfl (Xd rfl (Xd rfl (Xd (FL.one A646_0) (Xd A651.one (Xd rfl Xt))))) rfl (fun s652 p652 B652 => ?_)
 refine dn (sr (Xs fa61_1 rfl ?_))
 have A654 := A644.st (Xo p649 p652) rfl
 refine Yb A654 u52 rfl (slh (A645.st (Xo p649 p652) rfl) u52 z48 rfl rfl rfl rfl rfl rfl rfl (fun v656 A656 => ?_))
 refine clO 79 rfl func24 rfl (spec_l11entries.calls (r283.take ((2 : Int)).toNat) s652.w (mm [55, 0, 49] s652) v656 A656) (fun r658 v658_0 s659 p659 A658_0 => ?_)
 refine Xs fa61_1 rfl (sv' (A654.st p659 rfl) z52 rfl A658_0.rd.one rfl (fun s662 p662 B662 => ?_))
 refine dn (sr (lt0 (K := (Kd.int .i64)) 80 u59 z3 rfl rfl rfl rfl rfl (fun v664 s664 p664 A664 => ?_)))
 refine Xw v303 rfl (slo Yd (Cy353_304.st (tr6 p642 p649 p652 p659 p662 p664) rfl) u59 z3 rfl rfl rfl rfl rfl rfl rfl (fun v667 A667 => ?_))
 refine apF Yd sl59 A664 A667.rd rfl rfl rfl rfl rfl rfl rfl (fun v669 s669 p669 A669 => ?_)
 refine Xs fa61_2 rfl (sv' (B662.st (Xo p664 p669) rfl) z59 rfl A669.rd.one rfl (fun s672 p672 B672 => ?_))
 refine dn (sq (Ya [[], [0], [1], [2], [], [], [3, 4, 0, 1, 2, 3, 4, 5], [6, 5, 0, 1, 2, 3, 4, 5]] [some 166, some 167, some 168, some 169, some 170, some 171, some 172, none] [[0], [166], [167], [168], [1], [8], [169, 170], [172, 171]] [0, 1, 2, 3, 4, 5, 6, 7] ⟨by kernel_rfl, by kernel_rfl, by kernel_rfl⟩ (by kernel_rfl) (fun s674 p674 l674 tb674 zd674 => ?_)))
 refine Xu [6, 7] tb674 ((((((zd674.add 0 166 (pB p0) rfl).add 1 167 (pB p0) rfl).add 2 168 (pB p0) rfl).add 3 169 vy182_1 rfl).add 4 170 (iI a1) rfl).add 5 171 (.agg #[(.bool ((at_ y182.2.2.2.2.2.2.1 a1).Leaf)), v658_0, v669]) rfl) (Xa (Xp (es := [(.bool ((at_ y182.2.2.2.2.2.2.1 a1).Leaf)), v658_0, v669]) (B672.st p674 rfl) u61 z61 rfl) rfl (Xa (Xc rfl) rfl (Xa (Xl (By353_p0.st (tr9 p642 p649 p652 p659 p662 p664 p669 p672 p674) rfl) u31 rfl) rfl (Xa (Xj fa33_0 rfl) rfl (Xa (Xc rfl) rfl (Xa (Xc rfl) rfl Xe)))))) (by kernel_rfl) (by decide) ?_
 have A685 := Cy353_327.st (tr9 p642 p649 p652 p659 p662 p664 p669 p672 p674) rfl rfl
 refine ix' A685.rd u31 z61 rfl (fun ad686 es686 h0_686 h1_686 he686 ce686 ia686 => ?_)
 replace he686 := rw_sharp A685 h0_686 h1_686 ia686 ce686 he686
 obtain ⟨v686_0, v686_1, rfl, A686_0, A686_1⟩ := op61 he686
 refine sor (x' := (Node.mk ((at_ y182.2.2.2.2.2.2.1 a1).Leaf) r658 (([] : (List Int)) ++ ((((([] : (List Int)) ++ (((at_ y182.2.2.2.2.2.2.1 a1).Kids).take ((IntKind.wrap .i64 (r24 + (1 : Int)))).toNat)) ++ [y182.2.2.2.2.2.1]) ++ (((at_ y182.2.2.2.2.2.2.1 a1).Kids).drop ((IntKind.wrap .i64 (r24 + (1 : Int)))).toNat)).take ((3 : Int)).toNat)))) A685 ia686 h0_686 h1_686 (mk61 (x := (Node.mk ((at_ y182.2.2.2.2.2.2.1 a1).Leaf) r658 (([] : (List Int)) ++ ((((([] : (List Int)) ++ (((at_ y182.2.2.2.2.2.2.1 a1).Kids).take ((IntKind.wrap .i64 (r24 + (1 : Int)))).toNat)) ++ [y182.2.2.2.2.2.1]) ++ (((at_ y182.2.2.2.2.2.2.1 a1).Kids).drop ((IntKind.wrap .i64 (r24 + (1 : Int)))).toNat)).take ((3 : Int)).toNat)))) (RdF.sub (D := [79, 80]) (A658_0.st (tr5 p662 p664 p669 p672 p674) rfl).rd rfl) (RdF.sub (D := [79, 80]) (A669.st (Xo p672 p674) rfl).rd rfl)) rfl z61 rfl rfl rfl rfl rfl rfl (fun s692 p692 A692 => ?_)
 refine nb (fun y694 h694 => ?_)
 have A694 : RwF 61 kd61 s692 vy182_1 y694 3 [0, 49, 55, 56, 79, 80] := by rw [h694]; exact A692
 refine dn (sq (Ya [[], [], [1], [2], [3], [], [5], [4, 6], [0, 0, 1, 2, 3, 4, 5, 6, 7], [8, 0, 1, 2, 3, 4, 5, 6, 7], [9, 7, 7, 0, 1, 2, 3, 4, 5, 6, 7]] [some 173, some 174, some 175, some 176, some 177, some 178, some 179, some 180, some 181, some 182, none] [[0], [0], [174], [175], [176], [14], [178], [177, 179], [173], [181], [182, 180]] [0, 1, 2, 3, 4, 5, 6, 7, 8, 9, 10] ⟨by kernel_rfl, by kernel_rfl, by kernel_rfl⟩ (by kernel_rfl) (fun s695 p695 l695 tb695 zd695 => ?_)))
 refine Xm 6 [some 177, some 176, some 175, some 174, some 173] tb695 ((((((zd695.add 0 173 (pB p0) rfl).add 1 174 (pB p0) rfl).add 2 175 (pB p0) rfl).add 3 176 (pB p0) rfl).add 4 177 vy182_1 rfl).add 5 178 (.agg #[(.bool false), vy353_0, vy353_1]) rfl) (Xa (Xp (es := [(.bool false), vy353_0, vy353_1]) (B642.st (tr10 p649 p652 p659 p662 p664 p669 p672 p674 p692 p695) rfl) u61 z61 rfl) rfl (Xa (Xl (By353_p0.st (tr11 p642 p649 p652 p659 p662 p664 p669 p672 p674 p692 p695) rfl) u31 rfl) rfl (Xa (Xj fa33_0 rfl) rfl (Xa (Xc rfl) rfl (Xa (Xc rfl) rfl (Xa (Xc rfl) rfl Xe)))))) (by kernel_rfl) rfl (fun l704 e704 zd704 => ?_)
 refine ltR (K := kd61) (cells := [(.bool false), vy353_0, vy353_1]) [(Node.mk false y353.1 y353.2)] 81 [59, 60] rfl u31 z61 o61 (el_cons (mk61 (x := (Node.mk false y353.1 y353.2)) (RdF.sub (D := [59, 60]) (Ay353_0.st (tr11 p642 p649 p652 p659 p662 p664 p669 p672 p674 p692 p695) rfl).rd rfl) (RdF.sub (D := [59, 60]) (Ay353_1.st (tr11 p642 p649 p652 p659 p662 p664 p669 p672 p674 p692 p695) rfl).rd rfl)) el_nil) rfl rfl rfl rfl rfl rfl rfl rfl rfl rfl (fun v709 s709 p709 A709 => ?_)
 refine Xh (L' := [4, 3, 2, 1, 0]) (D' := [5, 6]) zd704 rfl (fun zd711 => ?_)
 refine Xm 7 [some 173] tb695 zd711 (Xa (Xl (By353_p0.st (Xy p642 p649 p652 p659 p662 p664 p669 p672 p674 p692 p695 p709) rfl) u31 rfl) rfl (Xa (Xj fa33_0 rfl) rfl (Xa (Xc rfl) rfl (Xa (Xc rfl) rfl (Xa (Xc rfl) rfl Xe))))) (by kernel_rfl) rfl (fun l712 e712 zd712 => ?_)
 refine apRR sl31 (A694.st (Xo p695 p709) rfl rfl) A709 rfl rfl rfl rfl rfl rfl rfl rfl (fun v715 s715 p715 A715 => ?_)
 refine Xh (L' := [0]) (D' := [1, 2, 3, 4, 7, 5, 6]) zd712 rfl (fun zd717 => ?_)
 refine Xu [8, 9, 10] tb695 zd717 (Xa (Xc rfl) rfl Xe) (by kernel_rfl) (by decide) (Xb rfl (Xs fa33_0 rfl ?_))
 refine sv' (By353_p0.st (Xo (Xy p642 p649 p652 p659 p662 p664 p669 p672 p674 p692 p695 p709) p715) rfl) z31 rfl A715.rd.one rfl (fun s719 p719 B719 => ?_)
 refine dn (sq (Ya [[], [], [1], [2], [3], [4], [5], [0, 0], [6, 7, 0, 1, 2, 3, 4, 5, 6, 7]] [some 183, some 184, some 185, some 186, some 187, some 188, some 189, none, some 7] [[15], [0], [184], [185], [186], [187], [188], [6, 183], [189]] [0, 1, 2, 3, 4, 5, 7, 6, 8] ⟨by kernel_rfl, by kernel_rfl, by kernel_rfl⟩ (by kernel_rfl) (fun s721 p721 l721 tb721 zd721 => ?_)))
 refine Xm 7 [some 189, some 188, some 187, some 186, some 185, some 184] tb721 (((((((zd721.add 0 183 (.agg #[(iI (((at_ r283 (2 : Int)).Key).Kind)), (iI (((at_ r283 (2 : Int)).Key).N)), v646_0, v646_1, (iI ((at_ r283 (2 : Int)).Id))]) rfl).add 1 184 (pB p0) rfl).add 2 185 (pB p0) rfl).add 3 186 (pB p0) rfl).add 4 187 v715 rfl).add 5 188 (iI ((y694 ++ [(Node.mk false y353.1 y353.2)]).length : Int)) rfl).add 6 189 (iI (IntKind.wrap .i64 (((y694 ++ [(Node.mk false y353.1 y353.2)]).length : Int) - (1 : Int)))) rfl) (Xa (Xc rfl) rfl (Xa (ln_q' (A715.st (Xo p719 p721) rfl rfl).rd u31 rfl) rfl (Xa (Xl (B719.st p721 rfl) u31 rfl) rfl (Xa (Xj fa33_0 rfl) rfl (Xa (Xc rfl) rfl (Xa (Xc rfl) rfl (Xa (Xp (es := [(iI (((at_ r283 (2 : Int)).Key).Kind)), (iI (((at_ r283 (2 : Int)).Key).N)), v646_0, v646_1, (iI ((at_ r283 (2 : Int)).Id))]) (B652.st (Xy p659 p662 p664 p669 p672 p674 p692 p695 p709 p715 p719 p721) rfl) u48 z48 rfl) rfl Xe))))))) (by kernel_rfl) rfl (fun l732 e732 zd732 => ?_)
 have A737 := A651.st (Xo (Xy p652 p659 p662 p664 p669 p672 p674 p692 p695 p709 p715 p719) p721) rfl
 refine Yk (vs := [(iI (((at_ r283 (2 : Int)).Key).Kind)), (iI (((at_ r283 (2 : Int)).Key).N)), v646_0, v646_1, (iI ((at_ r283 (2 : Int)).Id))]) (By353_b6.st (Yf (Xy p642 p649 p652 p659 p662 p664 p669 p672 p674 p692 p695 p709) p715 p719 p721) rfl) z48 rfl (Xd rfl (Xd rfl (Xd (FL.one A646_0) (Xd A737.one (Xd rfl Xt))))) rfl (fun s738 p738 B738 => ?_)
 refine zdone0 (L' := [6, 5, 4, 3, 2, 1]) (D' := [0, 0, 7]) zd732 rfl rfl rfl (fun zd740 => ?_)
 refine Xu [8] tb721 zd740 (Xa (Xc rfl) rfl (Xa (ln_q' (A715.st (Ye p719 p721 p738) rfl rfl).rd u31 rfl) rfl (Xa (Xl (B719.st (Xo p721 p738) rfl) u31 rfl) rfl (Xa (Xj fa33_0 rfl) rfl (Xa (Xc rfl) rfl (Xa (Xc rfl) rfl Xe)))))) (by kernel_rfl) (by decide) (Xb rfl (dn ?_))
 obtain ⟨s745, hw745, p745, rc745⟩ := rc_all s738 [55, 49, 56, 79, 80, 59, 60] 899 rfl
 rw [hw745]
 exact re rfl func23 rfl (r_b (B738.st p745 rfl) u48 rfl z48 rfl (Xv rfl Xg)) rfl ⟨_, rfl, v646_0, v646_1, v715, s745, rfl, rfl, (Ky353.st (tr6 (Xy p642 p649 p652 p659 p662 p664 p669 p672 p674 p692 p695 p709) p715 p719 p721 p738 p745) rfl), A646_0, (RdF.rc (C := [0, 899]) (A737.st p738 rfl) rc745 rfl rfl), (B719.st (Ye p721 p738 p745) rfl), ((A715.st (Ye p719 p721 p738) rfl rfl).rce rc745 rfl rfl rfl)⟩
theorem spec_l11down.callsN : ∀ n : Nat, ∀ (a0 : Tree) (a1 : Int) (a2 : Entry) (s0 : St) (z0 : ∀ b, s0.g b < 40) (p0 : Nat) (w0_0 : Value) (w2_0 : Value) (w2_1 : Value) (A0_0 : RwF 61 kd61 s0 w0_0 a0.Nodes 3 [0]) (B0 : BlF s0 p0 33 [w0_0, (iI a0.Root)] 2) (A2_0 : FL w2_0 a2.Key.F) (A2_1 : RdF Ym s0 [w2_1] a2.Key.T [0]) (r : Entry × Int × Tree) (m : spec_l11down.g n a0 a1 a2 = some r), Calls prog 23 #[(pB p0), (iI a1), (.agg #[(iI a2.Key.Kind), (iI a2.Key.N), w2_0, w2_1, (iI a2.Id)])] s0.w (RT (spec_l11down.Q s0 p0) r)
 | 0 => by intros; rename_i m; cases m
 | n + 1 => spec_l11down.callsR (spec_l11down.g n) (spec_l11down.callsN n)
theorem spec_l11down.calls : ∀ (a0 : Tree) (a1 : Int) (a2 : Entry) (s0 : St) (z0 : ∀ b, s0.g b < 40) (p0 : Nat) (w0_0 : Value) (w2_0 : Value) (w2_1 : Value) (A0_0 : RwF 61 kd61 s0 w0_0 a0.Nodes 3 [0]) (B0 : BlF s0 p0 33 [w0_0, (iI a0.Root)] 2) (A2_0 : FL w2_0 a2.Key.F) (A2_1 : RdF Ym s0 [w2_1] a2.Key.T [0]) (r : Entry × Int × Tree) (m : spec_l11down.f a0 a1 a2 = some r), Calls prog 23 #[(pB p0), (iI a1), (.agg #[(iI a2.Key.Kind), (iI a2.Key.N), w2_0, w2_1, (iI a2.Id)])] s0.w (RT (spec_l11down.Q s0 p0) r) := spec_l11down.callsN 1000
def spec_TreeAdd.f (a0 : Tree) (a1 : Item) (a2 : Int) : Option (Tree × Bool) :=
 ((spec_l3copy.f a1).bind fun r12 => ((spec_TreeOk.f a0).bind fun r27 => ((if (!r27) = true then (some true) else ((spec_l11entry.f (Entry.mk r12 a2)).bind fun r51 => ((if (!r51) = true then (some true) else ((spec_TreeAll.f a0).bind fun r75 => ((spec_l11there.f r75 (Entry.mk r12 a2)).bind fun r81 => (some r81)))).bind fun y57 => (some y57)))).bind fun y32 => (if y32 = true then (some ((Tree.mk ([] : (List Node)) (0 : Int)), false)) else ((spec_l11copy.f a0).bind fun r103 => ((spec_l11down.f r103 r103.Root (Entry.mk r12 a2)).bind fun r117 => ((if (decide (r117.2.1 ≥ (0 : Int))) = true then (((spec_l11entries.f ([r117.1])).bind fun r150 => (some (r150, [r117.2.2.Root, r117.2.1]))).bind fun y136 => (if r117.2.2.Nodes.length + ([(Node.mk false y136.1 y136.2)]).length ≤ Lim then (some ((r117.2.2.Nodes ++ [(Node.mk false y136.1 y136.2)]), (IntKind.wrap .i64 (((r117.2.2.Nodes ++ [(Node.mk false y136.1 y136.2)]).length : Int) - (1 : Int))))) else none)) else (some (r117.2.2.Nodes, r117.2.2.Root))).bind fun y127 => (if (decide ((y127.1.length : Int) > (300 : Int))) = true then (some ((Tree.mk ([] : (List Node)) (0 : Int)), false)) else ((spec_l11copy.f (Tree.mk y127.1 y127.2)).bind fun r550 => (some (r550, true)))))))))))
def spec_TreeAdd.Q (w : World) (F : Nat → Prop) (r : Tree × Bool) (v : Value) (w' : World) : Prop :=
 ∃ (v0 : Value), v = .tuple #[(.agg #[v0, (iI r.1.Root)]), (.bool r.2)] ∧ FO kd33 w w' [v0, (iI r.1.Root)] r.1 ∧ Ky [] w w'
theorem spec_TreeAdd.calls (a0 : Tree) (a1 : Item) (a2 : Int) (w : World) (F : Nat → Prop) (w0_0 : Value) (w1_0 : Value) (w1_1 : Value) (h0_0 : Yp.rd w [w0_0] a0.Nodes F) (h1_0 : Kd.flt.rd w [w1_0] a1.F F) (h1_1 : Ym.rd w [w1_1] a1.T F) (r : Tree × Bool) (m : spec_TreeAdd.f a0 a1 a2 = some r) :
  Calls prog 6 #[(.agg #[w0_0, (iI a0.Root)]), (.agg #[(iI a1.Kind), (iI a1.N), w1_0, w1_1]), (iI a2)] w (RT (spec_TreeAdd.Q w F) r) := by
 obtain ⟨s0, rfl, kp0, z⟩ := Xn w F
 have A0_0 := z.rd h0_0
 refine Xf (args := [(.agg #[w0_0, (iI a0.Root)]), (.agg #[(iI a1.Kind), (iI a1.N), w1_0, w1_1]), (iI a2)]) func6 ntmps6 rfl rfl m ?_
 unfold spec_TreeAdd.f
 refine sr (bx' (cs := [w0_0, (iI a0.Root)]) 40 rfl rfl (fun b3 s3 p3 B3 => ?_))
 refine bx' (cs := [(iI a1.Kind), (iI a1.N), w1_0, w1_1]) 41 rfl rfl (fun b5 s5 p5 B5 => ?_)
 refine al' (cs := [(.slice none 0 0), (iI 0)]) 42 rfl o33 rfl (fun b7 s7 p7 B7 => ?_)
 refine Xb rfl (dn (sr ?_))
 refine Yl (es := [(iI a1.Kind), (iI a1.N), w1_0, w1_1]) (B5.st p7 rfl) u37 z37 rfl ?_
 have K10 := kp0.st (Ye p3 p5 p7) rfl
 refine cl' rfl func17 rfl (spec_l3copy.calls a1 s7.w (mm [0] s7) w1_0 w1_1 ((Xk (s := s7) (Yj h1_0)).sub (D := [0]) rfl) ((z.rd h1_1).kp K10)) ?_
 rintro r12 _ w12 m12 ⟨v12_0, v12_1, rfl, f12_0, ky12⟩
 obtain ⟨s13, rfl, p13, n13⟩ := nwx s7 w12 43 ky12
 obtain ⟨hu12_0_0, Au12_0_1⟩ := ap37 (f12_0.c n13)
 refine Xb rfl (bd (cells := [(iI r12.Kind), (iI r12.N), v12_0, v12_1, (iI a2)]) pl48 o48 rfl rfl rfl rfl rfl rfl (al' (cs := [(iI 0), (iI 0), (.float .f64 0), (.slice none 0 0), (iI 0)]) 44 rfl o48 rfl (fun b15 s15 p15 B15 => ?_)))
 have A17 := Au12_0_1.st p15 rfl
 refine Yk (vs := [(iI r12.Kind), (iI r12.N), v12_0, v12_1, (iI a2)]) B15 z48 rfl (Xd rfl (Xd rfl (Xd (FL.one hu12_0_0) (Xd A17.rd.one (Xd rfl Xt))))) rfl (fun s18 p18 B18 => ?_)
 refine dn (sq (sq (Ya [[], [0], [1], [2, 1], [3], [4, 3, 3], [5, 3], [3, 6], [7, 5], [8], [9, 8, 8], [8], [10, 11, 10, 8], [8, 12]] [some 17, some 18, some 19, some 20, some 21, some 22, some 23, some 24, some 25, some 26, some 27, some 28, some 29, some 30] [[3], [17], [18], [19], [8, 20], [21, 20], [22, 20], [20, 23], [24], [3, 25], [26, 25], [8, 25], [27, 28, 25], [25, 29]] [0, 1, 2, 3, 4, 5, 6, 7, 8, 9, 10, 11, 12, 13] ⟨by kernel_rfl, by kernel_rfl, by kernel_rfl⟩ (by kernel_rfl) (fun s20 p20 l20 tb20 zd20 => ?_))))
 refine Xm 1 [] tb20 (zd20.add 0 17 (.agg #[w0_0, (iI a0.Root)]) rfl) (Xa (Xp (es := [w0_0, (iI a0.Root)]) (B3.st (tr6 p5 p7 p13 p15 p18 p20) rfl) u33 z33 rfl) rfl Xe) (by kernel_rfl) rfl (fun l23 e23 zd23 => ?_)
 have K25 := K10.st (Yf p13 p15 p18 p20) rfl
 refine clV 45 rfl func18 rfl (spec_TreeOk.calls a0 s20.w (mm [0] s20) w0_0 (A0_0.kp K25)) (fun r27 s28 p28 n28 => ?_)
 refine Xh (L' := []) (D' := [0, 1]) zd23 rfl (fun zd29 => ?_)
 have zd31 := (zd29.add 2 19 (.bool (!r27)) rfl).add 3 20 (.bool (!r27)) rfl
 refine ji [] (fun (y32 : Bool) e w => ∃ (s : St) (e0 : Env), w = s.w ∧ e = upd (upd (upd (upd e0 3 (pB b3)) 6 (pB b7)) 8 (pB b15)) 30 (.bool y32) ∧ Kp s0 s ∧ BlF s b15 48 [(iI r12.Kind), (iI r12.N), v12_0, v12_1, (iI a2)] 44 ∧ BlF s b7 33 [(.slice none 0 0), (iI 0)] 42 ∧ BlF s b3 33 [w0_0, (iI a0.Root)] 40 ∧ OwF Ym s [v12_1] r12.T 43) (fun Gj32 Kj32 => ?_) ?_
 ·
  rcases bft (!r27) with hb32 | hb32
  ·
   rw [if_pos hb32]
   rw [hb32] at zd31
   try rw [hb32]
   refine Xu [12, 13] tb20 ((((((((zd31.add 4 21 undef rfl).add 5 22 undef rfl).add 6 23 undef rfl).add 7 24 (.bool true) rfl).add 8 25 (.bool true) rfl).add 9 26 undef rfl).add 10 27 undef rfl).add 11 28 undef rfl) (Xa (Xi rfl) rfl (Xa (Xi rfl) rfl (Xa (Xi rfl) rfl (Xa (Xc rfl) rfl (Xa (Xc rfl) rfl (Xa (Xi rfl) rfl (Xa (Xi rfl) rfl (Xa (Xi rfl) rfl (Xa (Xc rfl) rfl (Xa (qv_b (Xc rfl) hb32) rfl Xe)))))))))) (by kernel_rfl) (by decide) (Xr rfl (Xb rfl ?_))
   exact Kj32 _ _ _ ⟨s28, _, rfl, (ue (ue (ue (ue rfl rfl) rfl) rfl) rfl), (K25.st p28 rfl), (B18.st (Xo p20 p28) rfl), (B7.st (tr5 p13 p15 p18 p20 p28) rfl), (B3.st (tr7 p5 p7 p13 p15 p18 p20 p28) rfl), (A17.st (Ye p18 p20 p28) rfl)⟩
  rw [if_neg (by rw [hb32]; decide)]
  rw [hb32] at zd31
  try rw [hb32]
  refine Xm 5 [] tb20 (zd31.add 4 21 (.agg #[(iI r12.Kind), (iI r12.N), v12_0, v12_1, (iI a2)]) rfl) (Xa (Xp (es := [(iI r12.Kind), (iI r12.N), v12_0, v12_1, (iI a2)]) (B18.st (Xo p20 p28) rfl) u48 z48 rfl) rfl (Xa (Xc rfl) rfl (Xa (qv_b (Xc rfl) hb32) rfl Xe))) (by kernel_rfl) rfl (fun l48 e48 zd48 => ?_)
  have A50 := A17.st (Ye p18 p20 p28) rfl
  refine clV 46 rfl func19 rfl (spec_l11entry.calls (Entry.mk r12 a2) s28.w (mm [43] s28) v12_0 v12_1 ((Xk (s := s28) hu12_0_0).sub (D := [43]) rfl) A50.rd) (fun r51 s52 p52 n52 => ?_)
  refine Xh (L' := []) (D' := [2, 4, 3, 3, 5, 0, 1]) zd48 rfl (fun zd53 => ?_)
  have zd56 := ((zd53.add 6 23 (.bool (!r51)) rfl).add 7 24 (.bool (!r51)) rfl).add 8 25 (.bool (!r51)) rfl
  refine ji [] (fun (y57 : Bool) e w => ∃ (s : St) (e0 : Env), w = s.w ∧ e = upd (upd (upd (upd e0 3 (pB b3)) 6 (pB b7)) 8 (pB b15)) 30 (.bool y57) ∧ Kp s0 s ∧ BlF s b15 48 [(iI r12.Kind), (iI r12.N), v12_0, v12_1, (iI a2)] 44 ∧ BlF s b7 33 [(.slice none 0 0), (iI 0)] 42 ∧ BlF s b3 33 [w0_0, (iI a0.Root)] 40 ∧ OwF Ym s [v12_1] r12.T 43) (fun Gj57 Kj57 => ?_) ?_
  ·
   rcases bft (!r51) with hb57 | hb57
   ·
    rw [if_pos hb57]
    rw [hb57] at zd56
    try rw [hb57]
    refine Xu [12, 13] tb20 (((zd56.add 9 26 undef rfl).add 10 27 undef rfl).add 11 28 undef rfl) (Xa (Xi rfl) rfl (Xa (Xi rfl) rfl (Xa (Xi rfl) rfl (Xa (Xc rfl) rfl (Xa (Xc rfl) rfl (Xa (qv_b (Xc rfl) hb57) rfl Xe)))))) (by kernel_rfl) (by decide) (Xr rfl (Xb rfl ?_))
    exact Kj57 _ _ _ ⟨s52, _, rfl, (ue (ue (ue (ue rfl rfl) rfl) rfl) rfl), (K25.st (Xo p28 p52) rfl), (B18.st (Ye p20 p28 p52) rfl), (B7.st (tr6 p13 p15 p18 p20 p28 p52) rfl), (B3.st (tr8 p5 p7 p13 p15 p18 p20 p28 p52) rfl), (A50.st p52 rfl)⟩
   rw [if_neg (by rw [hb57]; decide)]
   rw [hb57] at zd56
   try rw [hb57]
   refine Xm 10 [some 28] tb20 ((zd56.add 9 26 (.agg #[w0_0, (iI a0.Root)]) rfl).add 11 28 (.agg #[(iI r12.Kind), (iI r12.N), v12_0, v12_1, (iI a2)]) rfl) (Xa (Xp (es := [(iI r12.Kind), (iI r12.N), v12_0, v12_1, (iI a2)]) (B18.st (Ye p20 p28 p52) rfl) u48 z48 rfl) rfl (Xa (Xp (es := [w0_0, (iI a0.Root)]) (B3.st (tr8 p5 p7 p13 p15 p18 p20 p28 p52) rfl) u33 z33 rfl) rfl (Xa (Xc rfl) rfl (Xa (Xc rfl) rfl (Xa (qv_b (Xc rfl) hb57) rfl Xe))))) (by kernel_rfl) rfl (fun l70 e70 zd70 => ?_)
   have K73 := K25.st (Xo p28 p52) rfl
   refine clO 47 rfl func21 rfl (spec_TreeAll.calls a0 s52.w (mm [0] s52) w0_0 (A0_0.kp K73)) (fun r75 v75_0 s76 p76 A75_0 => ?_)
   refine Xh (L' := [11]) (D' := [6, 7, 9, 8, 8, 10, 2, 4, 3, 3, 5, 0, 1]) zd70 rfl (fun zd78 => ?_)
   refine Xu [12, 13] tb20 zd78 (Xa (Xp (es := [(iI r12.Kind), (iI r12.N), v12_0, v12_1, (iI a2)]) (B18.st (Yf p20 p28 p52 p76) rfl) u48 z48 rfl) rfl Xe) (by kernel_rfl) (by decide) ?_
   have A80 := A50.st (Xo p52 p76) rfl
   refine clV 48 rfl func20 rfl (spec_l11there.calls r75 (Entry.mk r12 a2) s76.w (mm [47, 43] s76) v75_0 v12_0 v12_1 (A75_0.rd.sub (D := [47, 43]) rfl) ((Xk (s := s76) hu12_0_0).sub (D := [47, 43]) rfl) (A80.rd.sub (D := [47, 43]) rfl)) (fun r81 s82 p82 n82 => ?_)
   exact Xb rfl (Kj57 _ _ _ ⟨s82, _, rfl, (ue (ue (ue (ue rfl rfl) rfl) rfl) rfl), (K73.st (Xo p76 p82) rfl), (B18.st (tr5 p20 p28 p52 p76 p82) rfl), (B7.st (tr8 p13 p15 p18 p20 p28 p52 p76 p82) rfl), (B3.st (tr10 p5 p7 p13 p15 p18 p20 p28 p52 p76 p82) rfl), (A80.st p82 rfl)⟩)
  rintro y57 _ _ ⟨s88, _, rfl, rfl, Ky57, By57_b15, By57_b7, By57_b3, Cy57_14⟩
  exact Kj32 _ _ _ ⟨s88, _, rfl, (ue (ue (ue (ue rfl rfl) rfl) rfl) rfl), Ky57, By57_b15, By57_b7, By57_b3, Cy57_14⟩
 rintro y32 _ _ ⟨s92, _, rfl, rfl, Ky32, By32_b15, By32_b7, By32_b3, Cy32_14⟩
 refine dn (cd rfl (fun h96 => ?_) (fun h96 => ?_))
 ·
  refine sr (bd (cells := [(.slice none 0 0), (iI 0)]) pl33 o33 rfl rfl rfl rfl rfl rfl (Yk (vs := [(.slice none 0 0), (iI 0)]) By32_b7 z33 rfl (Xd rfl (Xd rfl Xt)) rfl (fun s97 p97 B97 => ?_)))
  refine Xb rfl (dn ?_)
  have A99 : OwF kd33 s97 [(.slice none 0 0), (iI 0)] (Tree.mk ([] : (List Node)) (0 : Int)) 49 := ow_z _ _ (fz_iso (fun x : Tree => (x.Nodes, x.Root)) (Tree.mk ([] : (List Node)) (0 : Int)) (fz_pair (fz_nil 61 kd61) (Yc .i64 (0 : Int))))
  have K101 := Ky32.st p97 rfl
  exact re rfl func6 rfl (r_b B97 u33 rfl z33 rfl (Xv rfl Xg)) rfl ⟨_, rfl, (.slice none 0 0), rfl, A99.fo K101 rfl z.l, z.ky K101⟩
 refine sk (sr (Yl (es := [w0_0, (iI a0.Root)]) By32_b3 u33 z33 rfl ?_))
 refine cl' rfl func22 rfl (spec_l11copy.calls a0 s92.w (mm [0] s92) w0_0 (A0_0.kp Ky32)) ?_
 rintro r103 _ w103 m103 ⟨v103_0, rfl, f103_0, ky103⟩
 obtain ⟨s104, rfl, p104, n104⟩ := nwx s92 w103 50 ky103
 refine al' (cs := [(.slice none 0 0), (iI 0)]) 51 rfl o33 rfl (fun b106 s106 p106 B106 => ?_)
 have A108 := (ap33 (f103_0.c n104)).st p106 rfl
 refine Yk (vs := [v103_0, (iI r103.Root)]) B106 z33 rfl (Xd A108.rd.one (Xd rfl Xt)) rfl (fun s109 p109 B109 => ?_)
 refine dn (sr (Xs fa33_1 rfl (Yb B109 u3 rfl ?_)))
 refine Yl (es := [(iI r12.Kind), (iI r12.N), v12_0, v12_1, (iI a2)]) (By32_b15.st (Ye p104 p106 p109) rfl) u48 z48 rfl ?_
 obtain ⟨s113, hw113, p113, A113, L113⟩ := lsn 52 (A108.st p109 rfl) rfl
 rw [hw113]
 refine cl' rfl func23 rfl (spec_l11down.calls r103 r103.Root (Entry.mk r12 a2) (vw [52, 43] [(50, 3), (51, 2)] s113) (vw_lt rfl) b106 v103_0 v12_0 v12_1 (RwF.vw A113 rfl (by simp) rfl) (BlF.vw (B109.st p113 rfl) rfl (by simp)) hu12_0_0 (RdF.vw (Cy32_14.st (Yf p104 p106 p109 p113) rfl).rd rfl)) ?_
 rintro r117 _ _ m117 ⟨v117_0, v117_1, u117_0, t117, rfl, rfl, kp117, f117_0, f117_1, bw117, uf117_0⟩
 have hw118 : t117.w = (bk [(50, 3), (51, 2)] 53 s113 t117).w := rfl
 have p118 := bk_st (D := [52, 43]) (M := [(50, 3), (51, 2)]) (cn := 53) rfl kp117
 have B118 := BlF.bk (D := [52, 43]) (M := [(50, 3), (51, 2)]) (cn := 53) (c := 51) bw117 rfl (by simp) kp117
 have U118_0 := RwF.bk (D := [52, 43]) (M := [(50, 3), (51, 2)]) (cn := 53) (c := 50) uf117_0 rfl (by simp) rfl kp117
 have V118_1 := RdF.bk (D := [52, 43]) (M := [(50, 3), (51, 2)]) (cn := 53) f117_1 rfl rfl kp117
 generalize bk [(50, 3), (51, 2)] 53 s113 t117 = s118 at hw118 p118 B118 U118_0 V118_1
 rw [hw118]
 refine Xb rfl (Xb (v := (.agg #[(iI r117.1.Key.Kind), (iI r117.1.Key.N), v117_0, v117_1, (iI r117.1.Id)])) rfl (Xb (v := (iI r117.2.1)) rfl (al' (cs := [(iI 0), (iI 0), (.float .f64 0), (.slice none 0 0), (iI 0)]) 54 rfl o48 rfl (fun b122 s122 p122 B122 => ?_))))
 have A124 := V118_1.st p122 rfl
 refine Yk (vs := [(iI r117.1.Key.Kind), (iI r117.1.Key.N), v117_0, v117_1, (iI r117.1.Id)]) B122 z48 rfl (Xd rfl (Xd rfl (Xd (FL.one f117_0) (Xd A124.one (Xd rfl Xt))))) rfl (fun s125 p125 B125 => ?_)
 refine Xb rfl (dn (sq (sr (Xb rfl (Xb rfl (dn (jc (fun (y127 : (List Node) × Int) e w => ∃ (s : St) (e0 : Env) (vy127_0 : Value), w = s.w ∧ e = upd (upd e0 6 (pB b7)) 9 (pB b106) ∧ Kp s0 s ∧ RwF 61 kd61 s vy127_0 y127.1 50 [53, 52, 43, 93] ∧ BlF s b106 33 [vy127_0, (iI y127.2)] 51 ∧ BlF s b7 33 [(.slice none 0 0), (iI 0)] 42) (fun Gj127 Kj127 => ?_) ?_)))))))
 ·
  refine cd rfl (fun h128 => ?_) (fun h128 => ?_)
  ·
   refine sq (Ya [[], [0], [1], [], [3], [], [4, 5], [2, 6], [], [8, 7, 2, 0, 1, 2, 3, 4, 5, 6, 7, 8]] [some 43, some 44, some 45, some 46, some 47, some 48, some 49, some 50, some 12, none] [[10], [43], [44], [9], [46], [11], [47, 48], [45, 49], [], [12, 50]] [0, 1, 2, 3, 4, 5, 6, 7, 8, 9] ⟨by kernel_rfl, by kernel_rfl, by kernel_rfl⟩ (by kernel_rfl) (fun s129 p129 l129 tb129 zd129 => ?_))
   refine ji [9] (fun (y136 : (List Entry) × (List Int)) e w => ∃ (s : St) (e0 : Env) (vy136_0 vy136_1 : Value) (by136_0 : Nat), w = s.w ∧ e = upd (upd (upd (upd e0 6 (pB b7)) 9 (pB b106)) 12 (pB by136_0)) 50 (.agg #[(.bool false), vy136_0, vy136_1]) ∧ Kp s0 s ∧ OwF Yn s [vy136_0] y136.1 56 ∧ OwF Yo s [vy136_1] y136.2 57 ∧ BlF s b106 33 [u117_0, (iI r117.2.2.Root)] 51 ∧ BlF s b7 33 [(.slice none 0 0), (iI 0)] 42 ∧ BlF s by136_0 61 [(.bool false), (.slice none 0 0), (.slice none 0 0)] 55 ∧ RwF 61 kd61 s u117_0 r117.2.2.Nodes 50 [53, 52, 43]) (fun Gj136 Kj136 => ?_) ?_
   ·
    refine zstep3 1 6 8 [some 48, some 47, some 46] [some 43] [some 48, some 47, some 46, some 43] tb129 ((((zd129.add 0 43 (.agg #[(iI r117.1.Key.Kind), (iI r117.1.Key.N), v117_0, v117_1, (iI r117.1.Id)]) rfl).add 3 46 (pO b106 1) rfl).add 4 47 (iI r117.2.2.Root) rfl).add 5 48 (iI r117.2.1) rfl) (Xa (Xc rfl) rfl (Xa (Xl (B118.st (Ye p122 p125 p129) rfl) u3 rfl) rfl (Xa (Xj fa33_1 rfl) rfl (Xa (Xp (es := [(iI r117.1.Key.Kind), (iI r117.1.Key.N), v117_0, v117_1, (iI r117.1.Id)]) (B125.st p129 rfl) u48 z48 rfl) rfl Xe)))) (by kernel_rfl) (by kernel_rfl) (fun l137 e137 zd137 => ?_) (fun l138 e138 zd138 => ?_) (fun l139 e139 zd139 => ?_)
    ·
     refine ltR (K := kd48) (cells := [(iI r117.1.Key.Kind), (iI r117.1.Key.N), v117_0, v117_1, (iI r117.1.Id)]) [r117.1] 58 [53, 52, 43] rfl u52 z48 o48 (el_cons (mk48 (x := r117.1) f117_0 (A124.st (Xo p125 p129) rfl)) el_nil) rfl rfl rfl rfl rfl rfl rfl rfl rfl rfl (fun v143 s143 p143 A143 => ?_)
     refine Xh (L' := [5, 4, 3]) (D' := [0, 1]) zd137 rfl (fun zd145 => ?_)
     refine zstep3 2 6 8 [some 48, some 47, some 46] [] [some 48, some 47, some 46] tb129 zd145 (Xa (Xc rfl) rfl (Xa (Xl (B118.st (Yf p122 p125 p129 p143) rfl) u3 rfl) rfl (Xa (Xj fa33_1 rfl) rfl Xe))) (by kernel_rfl) (by kernel_rfl) (fun l146 e146 zd146 => ?_) (fun l147 e147 zd147 => ?_) (fun l148 e148 zd148 => ?_)
     ·
      refine clO 59 rfl func24 rfl (spec_l11entries.calls ([r117.1]) s143.w (mm [58, 53, 52, 43] s143) v143 A143.rd) (fun r150 v150_0 s151 p151 A150_0 => ?_)
      refine Xh (L' := [5, 4, 3]) (D' := [2, 0, 1]) zd146 rfl (fun zd153 => ?_)
      refine zstep2 6 8 [] [some 48, some 47, some 46] tb129 zd153 (Xa (Xc rfl) rfl (Xa (Xl (B118.st (tr5 p122 p125 p129 p143 p151) rfl) u3 rfl) rfl (Xa (Xj fa33_1 rfl) rfl Xe))) (by kernel_rfl) (by kernel_rfl) (fun l154 e154 zd154 => ?_) (fun l155 e155 zd155 => ?_)
      ·
       refine ltF' (K := (Kd.int .i64)) (cells := [(iI r117.2.2.Root), (iI r117.2.1)]) [r117.2.2.Root, r117.2.1] 60 Yd u59 z3 o3 (fun w => (els_flat _ _ _)) rfl (fun v157 s157 p157 A157 => ?_)
       refine Xh (L' := []) (D' := [3, 4, 5, 6, 2, 0, 1]) zd154 rfl (fun zd159 => ?_)
       refine Xm 8 [some 50] tb129 (zd159.add 7 50 (.agg #[(.bool false), v150_0, v157]) rfl) (Xa (bd_q' (cells := [(.bool false), v150_0, v157]) pl61 o61 rfl (Xx (Yh (oc (A150_0.st p157 rfl).rd.one) (Yh (oc A157.rd.one) pc_n)) rfl)) rfl Xe) (by kernel_rfl) rfl (fun l162 e162 zd162 => ?_)
       refine al' (cs := [(.bool false), (.slice none 0 0), (.slice none 0 0)]) 61 rfl o61 rfl (fun b164 s164 p164 B164 => ?_)
       refine Xh (L' := [7]) (D' := [8, 3, 4, 5, 6, 2, 0, 1]) zd162 rfl (fun zd166 => ?_)
       refine Xu [9] tb129 zd166 (Xa (bd_q' (cells := [(.bool false), v150_0, v157]) pl61 o61 rfl (Xx (Yh (oc (A150_0.st (Xo p157 p164) rfl).rd.one) (Yh (oc (A157.st p164 rfl).rd.one) pc_n)) rfl)) rfl Xe) (by kernel_rfl) (by decide) ?_
       obtain ⟨s169, hw169, p169, D169⟩ := BlF.rc B164 55 rfl
       rw [hw169]
       obtain ⟨s172, hw172, p172, A172⟩ := (A150_0.st (Ye p157 p164 p169) rfl).rc 56 rfl
       rw [hw172]
       obtain ⟨s174, hw174, p174, A174⟩ := (A157.st (Ye p164 p169 p172) rfl).rc 57 rfl
       rw [hw174]
       exact Kj136 _ _ _ ⟨s174, _, v150_0, v157, b164, rfl, (ue (ue (ue (ue rfl rfl) rfl) rfl) rfl), (Ky32.st (Yf (Xy p104 p106 p109 p113 p118 p122 p125 p129 p143 p151 p157 p164) p169 p172 p174) rfl), (A172.st p174 rfl), A174, (B118.st (tr10 p122 p125 p129 p143 p151 p157 p164 p169 p172 p174) rfl), (By32_b7.st (Yf (Xy p104 p106 p109 p113 p118 p122 p125 p129 p143 p151 p157 p164) p169 p172 p174) rfl), (D169.st (Xo p172 p174) rfl), (U118_0.st (tr10 p122 p125 p129 p143 p151 p157 p164 p169 p172 p174) rfl rfl)⟩
      refine al' (cs := [(.bool false), (.slice none 0 0), (.slice none 0 0)]) 62 rfl o61 rfl (fun b181 s181 p181 B181 => ?_)
      refine Xh (L' := [5, 4, 3]) (D' := [8, 2, 0, 1]) zd155 rfl (fun zd183 => ?_)
      refine Xm 6 [] tb129 zd183 (Xa (Xc rfl) rfl (Xa (Xl (B118.st (tr6 p122 p125 p129 p143 p151 p181) rfl) u3 rfl) rfl (Xa (Xj fa33_1 rfl) rfl Xe))) (by kernel_rfl) rfl (fun l184 e184 zd184 => ?_)
      refine ltF' (K := (Kd.int .i64)) (cells := [(iI r117.2.2.Root), (iI r117.2.1)]) [r117.2.2.Root, r117.2.1] 63 Yd u59 z3 o3 (fun w => (els_flat _ _ _)) rfl (fun v186 s186 p186 A186 => ?_)
      refine Xh (L' := []) (D' := [3, 4, 5, 6, 8, 2, 0, 1]) zd184 rfl (fun zd188 => ?_)
      refine Xu [9] tb129 (zd188.add 7 50 (.agg #[(.bool false), v150_0, v186]) rfl) (Xa (bd_q' (cells := [(.bool false), v150_0, v186]) pl61 o61 rfl (Xx (Yh (oc (A150_0.st (Xo p181 p186) rfl).rd.one) (Yh (oc A186.rd.one) pc_n)) rfl)) rfl Xe) (by kernel_rfl) (by decide) ?_
      obtain ⟨s193, hw193, p193, D193⟩ := BlF.rc (B181.st p186 rfl) 55 rfl
      rw [hw193]
      obtain ⟨s196, hw196, p196, A196⟩ := (A150_0.st (Ye p181 p186 p193) rfl).rc 56 rfl
      rw [hw196]
      obtain ⟨s198, hw198, p198, A198⟩ := (A186.st (Xo p193 p196) rfl).rc 57 rfl
      rw [hw198]
      exact Kj136 _ _ _ ⟨s198, _, v150_0, v186, b181, rfl, (ue (ue (ue (ue rfl rfl) rfl) rfl) rfl), (Ky32.st (Yf (Xy p104 p106 p109 p113 p118 p122 p125 p129 p143 p151 p181 p186) p193 p196 p198) rfl), (A196.st p198 rfl), A198, (B118.st (tr10 p122 p125 p129 p143 p151 p181 p186 p193 p196 p198) rfl), (By32_b7.st (Yf (Xy p104 p106 p109 p113 p118 p122 p125 p129 p143 p151 p181 p186) p193 p196 p198) rfl), (D193.st (Xo p196 p198) rfl), (U118_0.st (tr10 p122 p125 p129 p143 p151 p181 p186 p193 p196 p198) rfl rfl)⟩
     ·
      refine ltF' (K := (Kd.int .i64)) (cells := [(iI r117.2.2.Root), (iI r117.2.1)]) [r117.2.2.Root, r117.2.1] 64 Yd u59 z3 o3 (fun w => (els_flat _ _ _)) rfl (fun v205 s205 p205 A205 => ?_)
      refine Xh (L' := []) (D' := [3, 4, 5, 6, 0, 1]) zd147 rfl (fun zd207 => ?_)
      refine zstep2 2 8 [] [] tb129 zd207 Xe (by kernel_rfl) (by kernel_rfl) (fun l208 e208 zd208 => ?_) (fun l209 e209 zd209 => ?_)
      ·
       refine clO 65 rfl func24 rfl (spec_l11entries.calls ([r117.1]) s205.w (mm [58, 53, 52, 43] s205) v143 (A143.st p205 rfl rfl).rd) (fun r211 v211_0 s212 p212 A211_0 => ?_)
       refine Xh (L' := []) (D' := [2, 3, 4, 5, 6, 0, 1]) zd208 rfl (fun zd214 => ?_)
       refine Xm 8 [some 50] tb129 (zd214.add 7 50 (.agg #[(.bool false), v211_0, v205]) rfl) (Xa (bd_q' (cells := [(.bool false), v211_0, v205]) pl61 o61 rfl (Xx (Yh (oc A211_0.rd.one) (Yh (oc (A205.st p212 rfl).rd.one) pc_n)) rfl)) rfl Xe) (by kernel_rfl) rfl (fun l217 e217 zd217 => ?_)
       refine al' (cs := [(.bool false), (.slice none 0 0), (.slice none 0 0)]) 66 rfl o61 rfl (fun b219 s219 p219 B219 => ?_)
       refine Xh (L' := [7]) (D' := [8, 2, 3, 4, 5, 6, 0, 1]) zd217 rfl (fun zd221 => ?_)
       refine Xu [9] tb129 zd221 (Xa (bd_q' (cells := [(.bool false), v211_0, v205]) pl61 o61 rfl (Xx (Yh (oc (A211_0.st p219 rfl).rd.one) (Yh (oc (A205.st (Xo p212 p219) rfl).rd.one) pc_n)) rfl)) rfl Xe) (by kernel_rfl) (by decide) ?_
       obtain ⟨s224, hw224, p224, D224⟩ := BlF.rc B219 55 rfl
       rw [hw224]
       obtain ⟨s227, hw227, p227, A227⟩ := (A211_0.st (Xo p219 p224) rfl).rc 56 rfl
       rw [hw227]
       obtain ⟨s229, hw229, p229, A229⟩ := (A205.st (Yf p212 p219 p224 p227) rfl).rc 57 rfl
       rw [hw229]
       exact Kj136 _ _ _ ⟨s229, _, v211_0, v205, b219, rfl, (ue (ue (ue (ue rfl rfl) rfl) rfl) rfl), (Ky32.st (Yf (Xy p104 p106 p109 p113 p118 p122 p125 p129 p143 p205 p212 p219) p224 p227 p229) rfl), (A227.st p229 rfl), A229, (B118.st (tr10 p122 p125 p129 p143 p205 p212 p219 p224 p227 p229) rfl), (By32_b7.st (Yf (Xy p104 p106 p109 p113 p118 p122 p125 p129 p143 p205 p212 p219) p224 p227 p229) rfl), (D224.st (Xo p227 p229) rfl), (U118_0.st (tr10 p122 p125 p129 p143 p205 p212 p219 p224 p227 p229) rfl rfl)⟩
      refine al' (cs := [(.bool false), (.slice none 0 0), (.slice none 0 0)]) 67 rfl o61 rfl (fun b236 s236 p236 B236 => ?_)
      refine Xh (L' := []) (D' := [8, 3, 4, 5, 6, 0, 1]) zd209 rfl (fun zd238 => ?_)
      refine Xm 2 [] tb129 zd238 Xe (by kernel_rfl) rfl (fun l239 e239 zd239 => ?_)
      refine clO 68 rfl func24 rfl (spec_l11entries.calls ([r117.1]) s236.w (mm [58, 53, 52, 43] s236) v143 (A143.st (Xo p205 p236) rfl rfl).rd) (fun r241 v241_0 s242 p242 A241_0 => ?_)
      refine Xh (L' := []) (D' := [2, 8, 3, 4, 5, 6, 0, 1]) zd239 rfl (fun zd244 => ?_)
      refine Xu [9] tb129 (zd244.add 7 50 (.agg #[(.bool false), v241_0, v205]) rfl) (Xa (bd_q' (cells := [(.bool false), v241_0, v205]) pl61 o61 rfl (Xx (Yh (oc A241_0.rd.one) (Yh (oc (A205.st (Xo p236 p242) rfl).rd.one) pc_n)) rfl)) rfl Xe) (by kernel_rfl) (by decide) ?_
      obtain ⟨s249, hw249, p249, D249⟩ := BlF.rc (B236.st p242 rfl) 55 rfl
      rw [hw249]
      obtain ⟨s252, hw252, p252, A252⟩ := (A241_0.st p249 rfl).rc 56 rfl
      rw [hw252]
      obtain ⟨s254, hw254, p254, A254⟩ := (A205.st (Yf p236 p242 p249 p252) rfl).rc 57 rfl
      rw [hw254]
      exact Kj136 _ _ _ ⟨s254, _, v241_0, v205, b236, rfl, (ue (ue (ue (ue rfl rfl) rfl) rfl) rfl), (Ky32.st (Yf (Xy p104 p106 p109 p113 p118 p122 p125 p129 p143 p205 p236 p242) p249 p252 p254) rfl), (A252.st p254 rfl), A254, (B118.st (tr10 p122 p125 p129 p143 p205 p236 p242 p249 p252 p254) rfl), (By32_b7.st (Yf (Xy p104 p106 p109 p113 p118 p122 p125 p129 p143 p205 p236 p242) p249 p252 p254) rfl), (D249.st (Xo p252 p254) rfl), (U118_0.st (tr10 p122 p125 p129 p143 p205 p236 p242 p249 p252 p254) rfl rfl)⟩
     refine al' (cs := [(.bool false), (.slice none 0 0), (.slice none 0 0)]) 69 rfl o61 rfl (fun b261 s261 p261 B261 => ?_)
     refine Xh (L' := [5, 4, 3]) (D' := [8, 0, 1]) zd148 rfl (fun zd263 => ?_)
     refine zstep2 2 6 [some 48, some 47, some 46] [] tb129 zd263 (Xa (Xc rfl) rfl (Xa (Xl (B118.st (tr5 p122 p125 p129 p143 p261) rfl) u3 rfl) rfl (Xa (Xj fa33_1 rfl) rfl Xe))) (by kernel_rfl) (by kernel_rfl) (fun l264 e264 zd264 => ?_) (fun l265 e265 zd265 => ?_)
     ·
      refine clO 70 rfl func24 rfl (spec_l11entries.calls ([r117.1]) s261.w (mm [58, 53, 52, 43] s261) v143 (A143.st p261 rfl rfl).rd) (fun r268 v268_0 s269 p269 A268_0 => ?_)
      refine Xh (L' := [5, 4, 3]) (D' := [2, 8, 0, 1]) zd264 rfl (fun zd271 => ?_)
      refine Xm 6 [] tb129 zd271 (Xa (Xc rfl) rfl (Xa (Xl (B118.st (tr6 p122 p125 p129 p143 p261 p269) rfl) u3 rfl) rfl (Xa (Xj fa33_1 rfl) rfl Xe))) (by kernel_rfl) rfl (fun l272 e272 zd272 => ?_)
      refine ltF' (K := (Kd.int .i64)) (cells := [(iI r117.2.2.Root), (iI r117.2.1)]) [r117.2.2.Root, r117.2.1] 71 Yd u59 z3 o3 (fun w => (els_flat _ _ _)) rfl (fun v274 s274 p274 A274 => ?_)
      refine Xh (L' := []) (D' := [3, 4, 5, 6, 2, 8, 0, 1]) zd272 rfl (fun zd276 => ?_)
      refine Xu [9] tb129 (zd276.add 7 50 (.agg #[(.bool false), v268_0, v274]) rfl) (Xa (bd_q' (cells := [(.bool false), v268_0, v274]) pl61 o61 rfl (Xx (Yh (oc (A268_0.st p274 rfl).rd.one) (Yh (oc A274.rd.one) pc_n)) rfl)) rfl Xe) (by kernel_rfl) (by decide) ?_
      obtain ⟨s281, hw281, p281, D281⟩ := BlF.rc (B261.st (Xo p269 p274) rfl) 55 rfl
      rw [hw281]
      obtain ⟨s284, hw284, p284, A284⟩ := (A268_0.st (Xo p274 p281) rfl).rc 56 rfl
      rw [hw284]
      obtain ⟨s286, hw286, p286, A286⟩ := (A274.st (Xo p281 p284) rfl).rc 57 rfl
      rw [hw286]
      exact Kj136 _ _ _ ⟨s286, _, v268_0, v274, b261, rfl, (ue (ue (ue (ue rfl rfl) rfl) rfl) rfl), (Ky32.st (Yf (Xy p104 p106 p109 p113 p118 p122 p125 p129 p143 p261 p269 p274) p281 p284 p286) rfl), (A284.st p286 rfl), A286, (B118.st (tr10 p122 p125 p129 p143 p261 p269 p274 p281 p284 p286) rfl), (By32_b7.st (Yf (Xy p104 p106 p109 p113 p118 p122 p125 p129 p143 p261 p269 p274) p281 p284 p286) rfl), (D281.st (Xo p284 p286) rfl), (U118_0.st (tr10 p122 p125 p129 p143 p261 p269 p274 p281 p284 p286) rfl rfl)⟩
     refine ltF' (K := (Kd.int .i64)) (cells := [(iI r117.2.2.Root), (iI r117.2.1)]) [r117.2.2.Root, r117.2.1] 72 Yd u59 z3 o3 (fun w => (els_flat _ _ _)) rfl (fun v293 s293 p293 A293 => ?_)
     refine Xh (L' := []) (D' := [3, 4, 5, 6, 8, 0, 1]) zd265 rfl (fun zd295 => ?_)
     refine Xm 2 [] tb129 zd295 Xe (by kernel_rfl) rfl (fun l296 e296 zd296 => ?_)
     refine clO 73 rfl func24 rfl (spec_l11entries.calls ([r117.1]) s293.w (mm [58, 53, 52, 43] s293) v143 (A143.st (Xo p261 p293) rfl rfl).rd) (fun r298 v298_0 s299 p299 A298_0 => ?_)
     refine Xh (L' := []) (D' := [2, 3, 4, 5, 6, 8, 0, 1]) zd296 rfl (fun zd301 => ?_)
     refine Xu [9] tb129 (zd301.add 7 50 (.agg #[(.bool false), v298_0, v293]) rfl) (Xa (bd_q' (cells := [(.bool false), v298_0, v293]) pl61 o61 rfl (Xx (Yh (oc A298_0.rd.one) (Yh (oc (A293.st p299 rfl).rd.one) pc_n)) rfl)) rfl Xe) (by kernel_rfl) (by decide) ?_
     obtain ⟨s306, hw306, p306, D306⟩ := BlF.rc (B261.st (Xo p293 p299) rfl) 55 rfl
     rw [hw306]
     obtain ⟨s309, hw309, p309, A309⟩ := (A298_0.st p306 rfl).rc 56 rfl
     rw [hw309]
     obtain ⟨s311, hw311, p311, A311⟩ := (A293.st (Ye p299 p306 p309) rfl).rc 57 rfl
     rw [hw311]
     exact Kj136 _ _ _ ⟨s311, _, v298_0, v293, b261, rfl, (ue (ue (ue (ue rfl rfl) rfl) rfl) rfl), (Ky32.st (Yf (Xy p104 p106 p109 p113 p118 p122 p125 p129 p143 p261 p293 p299) p306 p309 p311) rfl), (A309.st p311 rfl), A311, (B118.st (tr10 p122 p125 p129 p143 p261 p293 p299 p306 p309 p311) rfl), (By32_b7.st (Yf (Xy p104 p106 p109 p113 p118 p122 p125 p129 p143 p261 p293 p299) p306 p309 p311) rfl), (D306.st (Xo p309 p311) rfl), (U118_0.st (tr10 p122 p125 p129 p143 p261 p293 p299 p306 p309 p311) rfl rfl)⟩
    ·
     refine ltF' (K := (Kd.int .i64)) (cells := [(iI r117.2.2.Root), (iI r117.2.1)]) [r117.2.2.Root, r117.2.1] 74 Yd u59 z3 o3 (fun w => (els_flat _ _ _)) rfl (fun v318 s318 p318 A318 => ?_)
     refine Xh (L' := [0]) (D' := [3, 4, 5, 6]) zd138 rfl (fun zd320 => ?_)
     refine zstep2 1 8 [] [some 43] tb129 zd320 (Xa (Xp (es := [(iI r117.1.Key.Kind), (iI r117.1.Key.N), v117_0, v117_1, (iI r117.1.Id)]) (B125.st (Xo p129 p318) rfl) u48 z48 rfl) rfl Xe) (by kernel_rfl) (by kernel_rfl) (fun l321 e321 zd321 => ?_) (fun l322 e322 zd322 => ?_)
     ·
      refine ltR (K := kd48) (cells := [(iI r117.1.Key.Kind), (iI r117.1.Key.N), v117_0, v117_1, (iI r117.1.Id)]) [r117.1] 75 [53, 52, 43] rfl u52 z48 o48 (el_cons (mk48 (x := r117.1) f117_0 (A124.st (Ye p125 p129 p318) rfl)) el_nil) rfl rfl rfl rfl rfl rfl rfl rfl rfl rfl (fun v325 s325 p325 A325 => ?_)
      refine Xh (L' := []) (D' := [0, 1, 3, 4, 5, 6]) zd321 rfl (fun zd327 => ?_)
      refine zstep2 2 8 [] [] tb129 zd327 Xe (by kernel_rfl) (by kernel_rfl) (fun l328 e328 zd328 => ?_) (fun l329 e329 zd329 => ?_)
      ·
       refine clO 76 rfl func24 rfl (spec_l11entries.calls ([r117.1]) s325.w (mm [75, 53, 52, 43] s325) v325 A325.rd) (fun r330 v330_0 s331 p331 A330_0 => ?_)
       refine Xh (L' := []) (D' := [2, 0, 1, 3, 4, 5, 6]) zd328 rfl (fun zd333 => ?_)
       refine Xm 8 [some 50] tb129 (zd333.add 7 50 (.agg #[(.bool false), v330_0, v318]) rfl) (Xa (bd_q' (cells := [(.bool false), v330_0, v318]) pl61 o61 rfl (Xx (Yh (oc A330_0.rd.one) (Yh (oc (A318.st (Xo p325 p331) rfl).rd.one) pc_n)) rfl)) rfl Xe) (by kernel_rfl) rfl (fun l336 e336 zd336 => ?_)
       refine al' (cs := [(.bool false), (.slice none 0 0), (.slice none 0 0)]) 77 rfl o61 rfl (fun b338 s338 p338 B338 => ?_)
       refine Xh (L' := [7]) (D' := [8, 2, 0, 1, 3, 4, 5, 6]) zd336 rfl (fun zd340 => ?_)
       refine Xu [9] tb129 zd340 (Xa (bd_q' (cells := [(.bool false), v330_0, v318]) pl61 o61 rfl (Xx (Yh (oc (A330_0.st p338 rfl).rd.one) (Yh (oc (A318.st (Ye p325 p331 p338) rfl).rd.one) pc_n)) rfl)) rfl Xe) (by kernel_rfl) (by decide) ?_
       obtain ⟨s343, hw343, p343, D343⟩ := BlF.rc B338 55 rfl
       rw [hw343]
       obtain ⟨s346, hw346, p346, A346⟩ := (A330_0.st (Xo p338 p343) rfl).rc 56 rfl
       rw [hw346]
       obtain ⟨s348, hw348, p348, A348⟩ := (A318.st (tr5 p325 p331 p338 p343 p346) rfl).rc 57 rfl
       rw [hw348]
       exact Kj136 _ _ _ ⟨s348, _, v330_0, v318, b338, rfl, (ue (ue (ue (ue rfl rfl) rfl) rfl) rfl), (Ky32.st (Yf (Xy p104 p106 p109 p113 p118 p122 p125 p129 p318 p325 p331 p338) p343 p346 p348) rfl), (A346.st p348 rfl), A348, (B118.st (tr10 p122 p125 p129 p318 p325 p331 p338 p343 p346 p348) rfl), (By32_b7.st (Yf (Xy p104 p106 p109 p113 p118 p122 p125 p129 p318 p325 p331 p338) p343 p346 p348) rfl), (D343.st (Xo p346 p348) rfl), (U118_0.st (tr10 p122 p125 p129 p318 p325 p331 p338 p343 p346 p348) rfl rfl)⟩
      refine al' (cs := [(.bool false), (.slice none 0 0), (.slice none 0 0)]) 78 rfl o61 rfl (fun b355 s355 p355 B355 => ?_)
      refine Xh (L' := []) (D' := [8, 0, 1, 3, 4, 5, 6]) zd329 rfl (fun zd357 => ?_)
      refine Xm 2 [] tb129 zd357 Xe (by kernel_rfl) rfl (fun l358 e358 zd358 => ?_)
      refine clO 79 rfl func24 rfl (spec_l11entries.calls ([r117.1]) s355.w (mm [75, 53, 52, 43] s355) v325 (A325.st p355 rfl rfl).rd) (fun r360 v360_0 s361 p361 A360_0 => ?_)
      refine Xh (L' := []) (D' := [2, 8, 0, 1, 3, 4, 5, 6]) zd358 rfl (fun zd363 => ?_)
      refine Xu [9] tb129 (zd363.add 7 50 (.agg #[(.bool false), v360_0, v318]) rfl) (Xa (bd_q' (cells := [(.bool false), v360_0, v318]) pl61 o61 rfl (Xx (Yh (oc A360_0.rd.one) (Yh (oc (A318.st (Ye p325 p355 p361) rfl).rd.one) pc_n)) rfl)) rfl Xe) (by kernel_rfl) (by decide) ?_
      obtain ⟨s368, hw368, p368, D368⟩ := BlF.rc (B355.st p361 rfl) 55 rfl
      rw [hw368]
      obtain ⟨s371, hw371, p371, A371⟩ := (A360_0.st p368 rfl).rc 56 rfl
      rw [hw371]
      obtain ⟨s373, hw373, p373, A373⟩ := (A318.st (tr5 p325 p355 p361 p368 p371) rfl).rc 57 rfl
      rw [hw373]
      exact Kj136 _ _ _ ⟨s373, _, v360_0, v318, b355, rfl, (ue (ue (ue (ue rfl rfl) rfl) rfl) rfl), (Ky32.st (Yf (Xy p104 p106 p109 p113 p118 p122 p125 p129 p318 p325 p355 p361) p368 p371 p373) rfl), (A371.st p373 rfl), A373, (B118.st (tr10 p122 p125 p129 p318 p325 p355 p361 p368 p371 p373) rfl), (By32_b7.st (Yf (Xy p104 p106 p109 p113 p118 p122 p125 p129 p318 p325 p355 p361) p368 p371 p373) rfl), (D368.st (Xo p371 p373) rfl), (U118_0.st (tr10 p122 p125 p129 p318 p325 p355 p361 p368 p371 p373) rfl rfl)⟩
     refine al' (cs := [(.bool false), (.slice none 0 0), (.slice none 0 0)]) 80 rfl o61 rfl (fun b380 s380 p380 B380 => ?_)
     refine Xh (L' := [0]) (D' := [8, 3, 4, 5, 6]) zd322 rfl (fun zd382 => ?_)
     refine Xm 1 [] tb129 zd382 (Xa (Xp (es := [(iI r117.1.Key.Kind), (iI r117.1.Key.N), v117_0, v117_1, (iI r117.1.Id)]) (B125.st (Ye p129 p318 p380) rfl) u48 z48 rfl) rfl Xe) (by kernel_rfl) rfl (fun l383 e383 zd383 => ?_)
     refine ltR (K := kd48) (cells := [(iI r117.1.Key.Kind), (iI r117.1.Key.N), v117_0, v117_1, (iI r117.1.Id)]) [r117.1] 81 [53, 52, 43] rfl u52 z48 o48 (el_cons (mk48 (x := r117.1) f117_0 (A124.st (Yf p125 p129 p318 p380) rfl)) el_nil) rfl rfl rfl rfl rfl rfl rfl rfl rfl rfl (fun v386 s386 p386 A386 => ?_)
     refine Xh (L' := []) (D' := [0, 1, 8, 3, 4, 5, 6]) zd383 rfl (fun zd388 => ?_)
     refine Xm 2 [] tb129 zd388 Xe (by kernel_rfl) rfl (fun l389 e389 zd389 => ?_)
     refine clO 82 rfl func24 rfl (spec_l11entries.calls ([r117.1]) s386.w (mm [81, 53, 52, 43] s386) v386 A386.rd) (fun r390 v390_0 s391 p391 A390_0 => ?_)
     refine Xh (L' := []) (D' := [2, 0, 1, 8, 3, 4, 5, 6]) zd389 rfl (fun zd393 => ?_)
     refine Xu [9] tb129 (zd393.add 7 50 (.agg #[(.bool false), v390_0, v318]) rfl) (Xa (bd_q' (cells := [(.bool false), v390_0, v318]) pl61 o61 rfl (Xx (Yh (oc A390_0.rd.one) (Yh (oc (A318.st (Ye p380 p386 p391) rfl).rd.one) pc_n)) rfl)) rfl Xe) (by kernel_rfl) (by decide) ?_
     obtain ⟨s398, hw398, p398, D398⟩ := BlF.rc (B380.st (Xo p386 p391) rfl) 55 rfl
     rw [hw398]
     obtain ⟨s401, hw401, p401, A401⟩ := (A390_0.st p398 rfl).rc 56 rfl
     rw [hw401]
     obtain ⟨s403, hw403, p403, A403⟩ := (A318.st (tr5 p380 p386 p391 p398 p401) rfl).rc 57 rfl
     rw [hw403]
     exact Kj136 _ _ _ ⟨s403, _, v390_0, v318, b380, rfl, (ue (ue (ue (ue rfl rfl) rfl) rfl) rfl), (Ky32.st (Yf (Xy p104 p106 p109 p113 p118 p122 p125 p129 p318 p380 p386 p391) p398 p401 p403) rfl), (A401.st p403 rfl), A403, (B118.st (tr10 p122 p125 p129 p318 p380 p386 p391 p398 p401 p403) rfl), (By32_b7.st (Yf (Xy p104 p106 p109 p113 p118 p122 p125 p129 p318 p380 p386 p391) p398 p401 p403) rfl), (D398.st (Xo p401 p403) rfl), (U118_0.st (tr10 p122 p125 p129 p318 p380 p386 p391 p398 p401 p403) rfl rfl)⟩
    refine al' (cs := [(.bool false), (.slice none 0 0), (.slice none 0 0)]) 83 rfl o61 rfl (fun b410 s410 p410 B410 => ?_)
    refine Xh (L' := [5, 4, 3, 0]) (D' := [8]) zd139 rfl (fun zd412 => ?_)
    refine zstep2 1 6 [some 48, some 47, some 46] [some 43] tb129 zd412 (Xa (Xc rfl) rfl (Xa (Xl (B118.st (Yf p122 p125 p129 p410) rfl) u3 rfl) rfl (Xa (Xj fa33_1 rfl) rfl (Xa (Xp (es := [(iI r117.1.Key.Kind), (iI r117.1.Key.N), v117_0, v117_1, (iI r117.1.Id)]) (B125.st (Xo p129 p410) rfl) u48 z48 rfl) rfl Xe)))) (by kernel_rfl) (by kernel_rfl) (fun l413 e413 zd413 => ?_) (fun l414 e414 zd414 => ?_)
    ·
     refine ltR (K := kd48) (cells := [(iI r117.1.Key.Kind), (iI r117.1.Key.N), v117_0, v117_1, (iI r117.1.Id)]) [r117.1] 84 [53, 52, 43] rfl u52 z48 o48 (el_cons (mk48 (x := r117.1) f117_0 (A124.st (Ye p125 p129 p410) rfl)) el_nil) rfl rfl rfl rfl rfl rfl rfl rfl rfl rfl (fun v418 s418 p418 A418 => ?_)
     refine Xh (L' := [5, 4, 3]) (D' := [0, 1, 8]) zd413 rfl (fun zd420 => ?_)
     refine zstep2 2 6 [some 48, some 47, some 46] [] tb129 zd420 (Xa (Xc rfl) rfl (Xa (Xl (B118.st (tr5 p122 p125 p129 p410 p418) rfl) u3 rfl) rfl (Xa (Xj fa33_1 rfl) rfl Xe))) (by kernel_rfl) (by kernel_rfl) (fun l421 e421 zd421 => ?_) (fun l422 e422 zd422 => ?_)
     ·
      refine clO 85 rfl func24 rfl (spec_l11entries.calls ([r117.1]) s418.w (mm [84, 53, 52, 43] s418) v418 A418.rd) (fun r424 v424_0 s425 p425 A424_0 => ?_)
      refine Xh (L' := [5, 4, 3]) (D' := [2, 0, 1, 8]) zd421 rfl (fun zd427 => ?_)
      refine Xm 6 [] tb129 zd427 (Xa (Xc rfl) rfl (Xa (Xl (B118.st (tr6 p122 p125 p129 p410 p418 p425) rfl) u3 rfl) rfl (Xa (Xj fa33_1 rfl) rfl Xe))) (by kernel_rfl) rfl (fun l428 e428 zd428 => ?_)
      refine ltF' (K := (Kd.int .i64)) (cells := [(iI r117.2.2.Root), (iI r117.2.1)]) [r117.2.2.Root, r117.2.1] 86 Yd u59 z3 o3 (fun w => (els_flat _ _ _)) rfl (fun v430 s430 p430 A430 => ?_)
      refine Xh (L' := []) (D' := [3, 4, 5, 6, 2, 0, 1, 8]) zd428 rfl (fun zd432 => ?_)
      refine Xu [9] tb129 (zd432.add 7 50 (.agg #[(.bool false), v424_0, v430]) rfl) (Xa (bd_q' (cells := [(.bool false), v424_0, v430]) pl61 o61 rfl (Xx (Yh (oc (A424_0.st p430 rfl).rd.one) (Yh (oc A430.rd.one) pc_n)) rfl)) rfl Xe) (by kernel_rfl) (by decide) ?_
      obtain ⟨s437, hw437, p437, D437⟩ := BlF.rc (B410.st (Ye p418 p425 p430) rfl) 55 rfl
      rw [hw437]
      obtain ⟨s440, hw440, p440, A440⟩ := (A424_0.st (Xo p430 p437) rfl).rc 56 rfl
      rw [hw440]
      obtain ⟨s442, hw442, p442, A442⟩ := (A430.st (Xo p437 p440) rfl).rc 57 rfl
      rw [hw442]
      exact Kj136 _ _ _ ⟨s442, _, v424_0, v430, b410, rfl, (ue (ue (ue (ue rfl rfl) rfl) rfl) rfl), (Ky32.st (Yf (Xy p104 p106 p109 p113 p118 p122 p125 p129 p410 p418 p425 p430) p437 p440 p442) rfl), (A440.st p442 rfl), A442, (B118.st (tr10 p122 p125 p129 p410 p418 p425 p430 p437 p440 p442) rfl), (By32_b7.st (Yf (Xy p104 p106 p109 p113 p118 p122 p125 p129 p410 p418 p425 p430) p437 p440 p442) rfl), (D437.st (Xo p440 p442) rfl), (U118_0.st (tr10 p122 p125 p129 p410 p418 p425 p430 p437 p440 p442) rfl rfl)⟩
     refine ltF' (K := (Kd.int .i64)) (cells := [(iI r117.2.2.Root), (iI r117.2.1)]) [r117.2.2.Root, r117.2.1] 87 Yd u59 z3 o3 (fun w => (els_flat _ _ _)) rfl (fun v449 s449 p449 A449 => ?_)
     refine Xh (L' := []) (D' := [3, 4, 5, 6, 0, 1, 8]) zd422 rfl (fun zd451 => ?_)
     refine Xm 2 [] tb129 zd451 Xe (by kernel_rfl) rfl (fun l452 e452 zd452 => ?_)
     refine clO 88 rfl func24 rfl (spec_l11entries.calls ([r117.1]) s449.w (mm [84, 53, 52, 43] s449) v418 (A418.st p449 rfl rfl).rd) (fun r454 v454_0 s455 p455 A454_0 => ?_)
     refine Xh (L' := []) (D' := [2, 3, 4, 5, 6, 0, 1, 8]) zd452 rfl (fun zd457 => ?_)
     refine Xu [9] tb129 (zd457.add 7 50 (.agg #[(.bool false), v454_0, v449]) rfl) (Xa (bd_q' (cells := [(.bool false), v454_0, v449]) pl61 o61 rfl (Xx (Yh (oc A454_0.rd.one) (Yh (oc (A449.st p455 rfl).rd.one) pc_n)) rfl)) rfl Xe) (by kernel_rfl) (by decide) ?_
     obtain ⟨s462, hw462, p462, D462⟩ := BlF.rc (B410.st (Ye p418 p449 p455) rfl) 55 rfl
     rw [hw462]
     obtain ⟨s465, hw465, p465, A465⟩ := (A454_0.st p462 rfl).rc 56 rfl
     rw [hw465]
     obtain ⟨s467, hw467, p467, A467⟩ := (A449.st (Ye p455 p462 p465) rfl).rc 57 rfl
     rw [hw467]
     exact Kj136 _ _ _ ⟨s467, _, v454_0, v449, b410, rfl, (ue (ue (ue (ue rfl rfl) rfl) rfl) rfl), (Ky32.st (Yf (Xy p104 p106 p109 p113 p118 p122 p125 p129 p410 p418 p449 p455) p462 p465 p467) rfl), (A465.st p467 rfl), A467, (B118.st (tr10 p122 p125 p129 p410 p418 p449 p455 p462 p465 p467) rfl), (By32_b7.st (Yf (Xy p104 p106 p109 p113 p118 p122 p125 p129 p410 p418 p449 p455) p462 p465 p467) rfl), (D462.st (Xo p465 p467) rfl), (U118_0.st (tr10 p122 p125 p129 p410 p418 p449 p455 p462 p465 p467) rfl rfl)⟩
    refine ltF' (K := (Kd.int .i64)) (cells := [(iI r117.2.2.Root), (iI r117.2.1)]) [r117.2.2.Root, r117.2.1] 89 Yd u59 z3 o3 (fun w => (els_flat _ _ _)) rfl (fun v474 s474 p474 A474 => ?_)
    refine Xh (L' := [0]) (D' := [3, 4, 5, 6, 8]) zd414 rfl (fun zd476 => ?_)
    refine Xm 1 [] tb129 zd476 (Xa (Xp (es := [(iI r117.1.Key.Kind), (iI r117.1.Key.N), v117_0, v117_1, (iI r117.1.Id)]) (B125.st (Ye p129 p410 p474) rfl) u48 z48 rfl) rfl Xe) (by kernel_rfl) rfl (fun l477 e477 zd477 => ?_)
    refine ltR (K := kd48) (cells := [(iI r117.1.Key.Kind), (iI r117.1.Key.N), v117_0, v117_1, (iI r117.1.Id)]) [r117.1] 90 [53, 52, 43] rfl u52 z48 o48 (el_cons (mk48 (x := r117.1) f117_0 (A124.st (Yf p125 p129 p410 p474) rfl)) el_nil) rfl rfl rfl rfl rfl rfl rfl rfl rfl rfl (fun v480 s480 p480 A480 => ?_)
    refine Xh (L' := []) (D' := [0, 1, 3, 4, 5, 6, 8]) zd477 rfl (fun zd482 => ?_)
    refine Xm 2 [] tb129 zd482 Xe (by kernel_rfl) rfl (fun l483 e483 zd483 => ?_)
    refine clO 91 rfl func24 rfl (spec_l11entries.calls ([r117.1]) s480.w (mm [90, 53, 52, 43] s480) v480 A480.rd) (fun r484 v484_0 s485 p485 A484_0 => ?_)
    refine Xh (L' := []) (D' := [2, 0, 1, 3, 4, 5, 6, 8]) zd483 rfl (fun zd487 => ?_)
    refine Xu [9] tb129 (zd487.add 7 50 (.agg #[(.bool false), v484_0, v474]) rfl) (Xa (bd_q' (cells := [(.bool false), v484_0, v474]) pl61 o61 rfl (Xx (Yh (oc A484_0.rd.one) (Yh (oc (A474.st (Xo p480 p485) rfl).rd.one) pc_n)) rfl)) rfl Xe) (by kernel_rfl) (by decide) ?_
    obtain ⟨s492, hw492, p492, D492⟩ := BlF.rc (B410.st (Ye p474 p480 p485) rfl) 55 rfl
    rw [hw492]
    obtain ⟨s495, hw495, p495, A495⟩ := (A484_0.st p492 rfl).rc 56 rfl
    rw [hw495]
    obtain ⟨s497, hw497, p497, A497⟩ := (A474.st (Yf p480 p485 p492 p495) rfl).rc 57 rfl
    rw [hw497]
    exact Kj136 _ _ _ ⟨s497, _, v484_0, v474, b410, rfl, (ue (ue (ue (ue rfl rfl) rfl) rfl) rfl), (Ky32.st (Yf (Xy p104 p106 p109 p113 p118 p122 p125 p129 p410 p474 p480 p485) p492 p495 p497) rfl), (A495.st p497 rfl), A497, (B118.st (tr10 p122 p125 p129 p410 p474 p480 p485 p492 p495 p497) rfl), (By32_b7.st (Yf (Xy p104 p106 p109 p113 p118 p122 p125 p129 p410 p474 p480 p485) p492 p495 p497) rfl), (D492.st (Xo p495 p497) rfl), (U118_0.st (tr10 p122 p125 p129 p410 p474 p480 p485 p492 p495 p497) rfl rfl)⟩
   rintro y136 _ _ ⟨s504, _, vy136_0, vy136_1, by136_0, rfl, rfl, Ky136, Ay136_0, Ay136_1, By136_b106, By136_b7, Dy136_0, Cy136_120⟩
   refine Yk (vs := [(.bool false), vy136_0, vy136_1]) Dy136_0 z61 rfl (Xd rfl (Xd Ay136_0.rd.one (Xd Ay136_1.rd.one Xt))) rfl (fun s510 p510 B510 => ?_)
   refine dn (sr (Xs fa33_0 rfl ?_))
   have A512 := By136_b106.st p510 rfl
   refine Yb A512 u31 rfl (Yl (es := [(.bool false), vy136_0, vy136_1]) B510 u61 z61 rfl ?_)
   obtain ⟨s515, hw515, p515, A515⟩ := ow_2 (Ay136_0.st p510 rfl) (Ay136_1.st p510 rfl) rfl rfl
   rw [hw515]
   have A517 : OwF kd61 s515 [(.bool false), vy136_0, vy136_1] (Node.mk false y136.1 y136.2) 56 := (Xz (fun x : Node => (x.Leaf, x.Entries, x.Kids)) (Node.mk false y136.1 y136.2) (ow_l (fz_bool false) A515))
   refine ltO (K := kd61) (cells := [(.bool false), vy136_0, vy136_1]) [(Node.mk false y136.1 y136.2)] 56 u31 z61 o61 (lo_one A517) rfl rfl rfl rfl rfl rfl rfl rfl rfl rfl (fun v520 s520 p520 A520 => ?_)
   obtain ⟨s522, hw522, p522, A522, L522⟩ := lsn 93 A520 rfl
   rw [hw522]
   refine apRR sl31 (Cy136_120.st (Yf p510 p515 p520 p522) rfl rfl) A522 rfl rfl rfl rfl rfl rfl rfl rfl (fun v525 s525 p525 A525 => ?_)
   refine Xs fa33_0 rfl (sv' (A512.st (Yf p515 p520 p522 p525) rfl) z31 rfl A525.rd.one rfl (fun s528 p528 B528 => ?_))
   refine dn (rg (Xs fa33_0 rfl (Yb B528 u31 rfl ?_)))
   have A530 := A525.st p528 rfl rfl
   refine ln' A530.rd u31 rfl (Xb rfl (Xs fa33_1 rfl (sv' B528 z3 rfl rfl rfl (fun s531 p531 B531 => ?_))))
   exact dn (Kj127 _ _ _ ⟨s531, _, v525, rfl, (ue (ue rfl rfl) rfl), (Ky136.st (tr7 p510 p515 p520 p522 p525 p528 p531) rfl), (A530.st p531 rfl rfl), B531, (By136_b7.st (tr7 p510 p515 p520 p522 p525 p528 p531) rfl)⟩)
  exact sk (Kj127 _ _ _ ⟨s125, _, u117_0, rfl, (ue (ue rfl rfl) rfl), (Ky32.st (tr7 p104 p106 p109 p113 p118 p122 p125) rfl), ((U118_0.st (Xo p122 p125) rfl rfl).sub rfl), (B118.st (Xo p122 p125) rfl), (By32_b7.st (tr7 p104 p106 p109 p113 p118 p122 p125) rfl)⟩)
 rintro y127 _ _ ⟨s540, _, vy127_0, rfl, rfl, Ky127, Ay127_0, By127_b106, By127_b7⟩
 refine sq (sr (Xs fa33_0 rfl (Yb By127_b106 u31 rfl (ln' Ay127_0.rd u31 rfl (Xb rfl (dn (cd rfl (fun h544 => ?_) (fun h544 => ?_))))))))
 ·
  refine sr (bd (cells := [(.slice none 0 0), (iI 0)]) pl33 o33 rfl rfl rfl rfl rfl rfl (Yk (vs := [(.slice none 0 0), (iI 0)]) By127_b7 z33 rfl (Xd rfl (Xd rfl Xt)) rfl (fun s545 p545 B545 => ?_)))
  refine Xb rfl (dn ?_)
  have A547 : OwF kd33 s545 [(.slice none 0 0), (iI 0)] (Tree.mk ([] : (List Node)) (0 : Int)) 94 := ow_z _ _ (fz_iso (fun x : Tree => (x.Nodes, x.Root)) (Tree.mk ([] : (List Node)) (0 : Int)) (fz_pair (fz_nil 61 kd61) (Yc .i64 (0 : Int))))
  have K549 := Ky127.st p545 rfl
  exact re rfl func6 rfl (r_b B545 u33 rfl z33 rfl (Xv rfl Xg)) rfl ⟨_, rfl, (.slice none 0 0), rfl, A547.fo K549 rfl z.l, z.ky K549⟩
 refine sk (sr (Yl (es := [vy127_0, (iI y127.2)]) By127_b106 u33 z33 rfl (cl' rfl func22 rfl (spec_l11copy.calls (Tree.mk y127.1 y127.2) s540.w (mm [50, 53, 52, 43, 93] s540) vy127_0 Ay127_0.rd) ?_)))
 rintro r550 _ w550 m550 ⟨v550_0, rfl, f550_0, ky550⟩
 obtain ⟨s551, rfl, p551, n551⟩ := nwx s540 w550 95 ky550
 have Au550_0_0 := ap33 (f550_0.c n551)
 refine Yk (vs := [v550_0, (iI r550.Root)]) (By127_b7.st p551 rfl) z33 rfl (Xd Au550_0_0.rd.one (Xd rfl Xt)) rfl (fun s554 p554 B554 => ?_)
 refine Xb rfl (dn ?_)
 have A556 : OwF kd33 s554 [v550_0, (iI r550.Root)] r550 95 := (Xz (fun x : Tree => (x.Nodes, x.Root)) r550 (ow_r (Au550_0_0.st p554 rfl) (Yc .i64 r550.Root)))
 have K559 := Ky127.st (Xo p551 p554) rfl
 exact re rfl func6 rfl (r_b B554 u33 rfl z33 rfl (Xv rfl Xg)) rfl ⟨_, rfl, v550_0, rfl, A556.fo K559 rfl z.l, z.ky K559⟩
def impl_within.f (a0 : Int) (a1 : Int) (a2 : Int) : Option (Bool) :=
 (some ((decide (a1 ≤ a0)) && (decide (a0 ≤ a2))))
def impl_within.Q (w : World) (F : Nat → Prop) (r : Bool) (v : Value) (w' : World) : Prop :=
 v = (.bool r) ∧ Ky [] w w'
theorem impl_within.calls (a0 : Int) (a1 : Int) (a2 : Int) (w : World) (F : Nat → Prop)   (r : Bool) (m : impl_within.f a0 a1 a2 = some r) :
  Calls prog 46 #[(iI a0), (iI a1), (iI a2)] w (RT (impl_within.Q w F) r) := by
 obtain ⟨s0, rfl, kp0, z⟩ := Xn w F
 refine Xf (args := [(iI a0), (iI a1), (iI a2)]) func46 ntmps46 rfl rfl m ?_
 unfold impl_within.f
 refine sr (Xb rfl (dn (sr (Xb rfl (Xb rfl (Xb rfl (Xb rfl (jy [10, 11, 12, 13, 14] [8] 14 (.bool ((decide (a1 ≤ a0)) && (decide (a0 ≤ a2)))) rfl (fun Kg1 => ?_) (fun j1 => ?_)))))))))
 ·
  rcases bft (decide (a1 ≤ a0)) with hb1 | hb1
  ·
   exact sbT hb1 (Xb rfl (Xb rfl (Xb rfl (Xb rfl (Kg1 _ (Ag.put ((Ag.put ((Ag.put ((Ag.put (Ag.base rfl) rfl)) rfl)) rfl)) rfl) (by rw [hb1]; rfl))))))
  exact sbT hb1 (Xr rfl (Xr rfl (Xr rfl (Xb rfl (Kg1 _ (Ag.put ((Ag.put ((Ag.put ((Ag.put (Ag.base rfl) rfl)) rfl)) rfl)) rfl) (by rw [hb1]; rfl))))))
 exact Xb rfl (dn (re rfl func46 rfl (Xv rfl Xg) rfl ⟨_, rfl, rfl, z.ky kp0⟩))
def impl_areAll_impl_Entry_1.f (a0 : Entry) (a1 : (Entry → Option Bool)) : Option (Bool) :=
 ((a1 a0).bind fun r8 => (some (!r8)))
def impl_areAll_impl_Entry_1.Q (w : World) (F : Nat → Prop) (r : Bool) (v : Value) (w' : World) : Prop :=
 v = (.bool r) ∧ Ky [] w w'
theorem impl_areAll_impl_Entry_1.calls (a0 : Entry) (a1 : (Entry → Option Bool)) (w : World) (F : Nat → Prop) (w0_0 : Value) (w0_1 : Value) (c1 : Nat) (f1 : Value) (h0_0 : Kd.flt.rd w [w0_0] a0.Key.F F) (h0_1 : Ym.rd w [w0_1] a0.Key.T F) (hf1 : ∀ (x0 : Entry) (u0_0 u0_1 : Value) (w' : World), Ky [] w w' → Kd.flt.rd w' [u0_0] x0.Key.F (fun _ => True) → Ym.rd w' [u0_1] x0.Key.T (fun _ => True) → ∀ r, a1 x0 = some r → CallV prog f1 [(.agg #[(iI x0.Key.Kind), (iI x0.Key.N), u0_0, u0_1, (iI x0.Id)])] w' fun en w'' => ∃ v, en = .returned v ∧ v = (.bool r) ∧ Ky [] w' w'') (ho1 : f1.cells = #[f1]) (hb1 : BlW w c1 50 [f1]) (hp1 : F c1) (r : Bool) (m : impl_areAll_impl_Entry_1.f a0 a1 = some r) :
  Calls prog 97 #[(.agg #[(iI a0.Key.Kind), (iI a0.Key.N), w0_0, w0_1, (iI a0.Id)]), (pB c1)] w (RT (impl_areAll_impl_Entry_1.Q w F) r) := by
 obtain ⟨s0, rfl, kp0, z⟩ := Xn w F
 refine Xf (args := [(.agg #[(iI a0.Key.Kind), (iI a0.Key.N), w0_0, w0_1, (iI a0.Id)]), (pB c1)]) func97 ntmps97 rfl rfl m ?_
 unfold impl_areAll_impl_Entry_1.f
 refine sr (bx' (cs := [(iI a0.Key.Kind), (iI a0.Key.N), w0_0, w0_1, (iI a0.Id)]) 40 rfl rfl (fun b3 s3 p3 B3 => ?_))
 refine Xb rfl (dn (sr ?_))
 refine Yb (BlF.st (z.b0 hb1 hp1) p3 rfl) u50 rfl (Yl (es := [(iI a0.Key.Kind), (iI a0.Key.N), w0_0, w0_1, (iI a0.Id)]) B3 u48 z48 rfl ?_)
 have K6 := kp0.st p3 rfl
 refine clv rfl rfl rfl rfl rfl rfl rfl (fun r8 m8 => hf1 a0 w0_0 w0_1 s3.w (z.ky K6) (fl_rd (Yj h0_0)) (RdF.top ((z.rd h0_1).kp K6)) r8 m8) ?_
 rintro r8 _ w8 m8 ⟨rfl, ky8⟩
 obtain ⟨s9, rfl, p9, n9⟩ := nwx s3 w8 41 ky8
 refine Xb rfl (Xb rfl (dn ?_))
 exact re rfl func97 rfl (Xv rfl Xg) rfl ⟨_, rfl, rfl, z.ky (K6.st p9 rfl)⟩
def slices_IndexFunc_impl_Entry_impl_Entry.b0 (a0 : (List Entry)) (a1 : (Entry → Option Bool)) (x2 : Int) : Option (Int ⊕ Int) :=
 (if (decide (x2 < (a0.length : Int))) = true then (if 0 ≤ x2 ∧ x2 < (a0.length : Int) then ((a1 (Entry.mk ((at_ a0 x2).Key) ((at_ a0 x2).Id))).bind fun r9 => (if r9 = true then (some (Sum.inr x2)) else (some (Sum.inl (IntKind.wrap .i64 (x2 + (1 : Int))))))) else none) else ((some (-1 : Int)).bind fun o => some (Sum.inr o)))
def slices_IndexFunc_impl_Entry_impl_Entry.f (a0 : (List Entry)) (a1 : (Entry → Option Bool)) : Option (Int) :=
 (iter (slices_IndexFunc_impl_Entry_impl_Entry.b0 a0 a1) (0 : Int))
def slices_IndexFunc_impl_Entry_impl_Entry.Q (w : World) (F : Nat → Prop) (r : Int) (v : Value) (w' : World) : Prop :=
 v = (iI r) ∧ Ky [] w w'
theorem slices_IndexFunc_impl_Entry_impl_Entry.calls (a0 : (List Entry)) (a1 : (Entry → Option Bool)) (w : World) (F : Nat → Prop) (w0_0 : Value) (f1 : Value) (h0_0 : Yn.rd w [w0_0] a0 F) (hf1 : ∀ (x0 : Entry) (u0_0 u0_1 : Value) (w' : World), Ky [] w w' → Kd.flt.rd w' [u0_0] x0.Key.F (fun _ => True) → Ym.rd w' [u0_1] x0.Key.T (fun _ => True) → ∀ r, a1 x0 = some r → CallV prog f1 [(.agg #[(iI x0.Key.Kind), (iI x0.Key.N), u0_0, u0_1, (iI x0.Id)])] w' fun en w'' => ∃ v, en = .returned v ∧ v = (.bool r) ∧ Ky [] w' w'') (ho1 : f1.cells = #[f1]) (r : Int) (m : slices_IndexFunc_impl_Entry_impl_Entry.f a0 a1 = some r) :
  Calls prog 103 #[w0_0, f1] w (RT (slices_IndexFunc_impl_Entry_impl_Entry.Q w F) r) := by
 obtain ⟨s0, rfl, kp0, z⟩ := Xn w F
 have A0_0 := z.rd h0_0
 refine Xf (args := [w0_0, f1]) func103 ntmps103 rfl rfl m ?_
 unfold slices_IndexFunc_impl_Entry_impl_Entry.f
 refine sr (Xb rfl (dn (sq (sr (Xw w0_0 rfl (ln' A0_0 u52 rfl (Xb rfl (dn (bl (lpI (fun (x2 : Int) e w => ∃ (s : St) (e0 : Env), w = s.w ∧ e = upd (upd (upd (upd e0 0 w0_0) 1 f1) 7 (iI (a0.length : Int))) 8 (iI x2) ∧ Kp s0 s) ⟨s0, _, rfl, (ue (ue (ue (ue rfl rfl) rfl) rfl) rfl), kp0⟩ (fun g2 ih2 => ?_)))))))))))
 rintro x2 _ _ ⟨s3, _, rfl, rfl, Kx2⟩
 unfold slices_IndexFunc_impl_Entry_impl_Entry.b0
 refine sr (Xb rfl (dn (sq (cd rfl (fun h4 => ?_) (fun h4 => ?_)))))
 ·
  refine sk (sq (bl (sr (Xb rfl (Xb rfl (dn (sr (Xw f1 rfl (Xw w0_0 rfl (Xb rfl ?_))))))))))
  refine ix' (A0_0.kp Kx2) u52 z48 rfl (fun ad6 es6 h0_6 h1_6 he6 ce6 ia6 => ?_)
  obtain ⟨v6_0, v6_1, rfl, A6_0, A6_1⟩ := op48 he6
  refine lca ce6 u48 z48 rfl rfl rfl rfl rfl rfl rfl (clv rfl rfl rfl rfl rfl rfl rfl (fun r9 m9 => hf1 (Entry.mk ((at_ a0 x2).Key) ((at_ a0 x2).Id)) v6_0 v6_1 s3.w (z.ky Kx2) (fl_rd A6_0) (RdF.top A6_1) r9 m9) ?_)
  rintro r9 _ w9 m9 ⟨rfl, ky9⟩
  obtain ⟨s10, rfl, p10, n10⟩ := nwx s3 w9 40 ky9
  refine dn (cd rfl (fun h11 => ?_) (fun h11 => ?_))
  ·
   refine sr (Xb rfl (Xb rfl (dn (sgi ?_))))
   exact re rfl func103 rfl (Xv rfl Xg) rfl ⟨_, rfl, rfl, z.ky (Kx2.st p10 rfl)⟩
  refine sk (ib (rg (Xb rfl (Xb rfl (dn ?_)))))
  exact lb ih2 ⟨s10, _, rfl, (ue (ue (ue (ue rfl rfl) rfl) rfl) rfl), (Kx2.st p10 rfl)⟩
 exact xt rfl (sgb (sr (Xb rfl (dn (re rfl func103 rfl (Xv rfl Xg) rfl ⟨_, rfl, rfl, z.ky Kx2⟩)))))
def slices_ContainsFunc_impl_Entry_impl_Entry.f (a0 : (List Entry)) (a1 : (Entry → Option Bool)) : Option (Bool) :=
 ((slices_IndexFunc_impl_Entry_impl_Entry.f a0 a1).bind fun r2 => (some (decide (r2 ≥ (0 : Int)))))
def slices_ContainsFunc_impl_Entry_impl_Entry.Q (w : World) (F : Nat → Prop) (r : Bool) (v : Value) (w' : World) : Prop :=
 v = (.bool r) ∧ Ky [] w w'
theorem slices_ContainsFunc_impl_Entry_impl_Entry.calls (a0 : (List Entry)) (a1 : (Entry → Option Bool)) (w : World) (F : Nat → Prop) (w0_0 : Value) (f1 : Value) (h0_0 : Yn.rd w [w0_0] a0 F) (hf1 : ∀ (x0 : Entry) (u0_0 u0_1 : Value) (w' : World), Ky [] w w' → Kd.flt.rd w' [u0_0] x0.Key.F (fun _ => True) → Ym.rd w' [u0_1] x0.Key.T (fun _ => True) → ∀ r, a1 x0 = some r → CallV prog f1 [(.agg #[(iI x0.Key.Kind), (iI x0.Key.N), u0_0, u0_1, (iI x0.Id)])] w' fun en w'' => ∃ v, en = .returned v ∧ v = (.bool r) ∧ Ky [] w' w'') (ho1 : f1.cells = #[f1]) (r : Bool) (m : slices_ContainsFunc_impl_Entry_impl_Entry.f a0 a1 = some r) :
  Calls prog 96 #[w0_0, f1] w (RT (slices_ContainsFunc_impl_Entry_impl_Entry.Q w F) r) := by
 obtain ⟨s0, rfl, kp0, z⟩ := Xn w F
 refine Xf (args := [w0_0, f1]) func96 ntmps96 rfl rfl m ?_
 unfold slices_ContainsFunc_impl_Entry_impl_Entry.f
 refine sr (Xb rfl (dn (sr (Xw w0_0 rfl (Xw f1 rfl (clV 40 rfl func103 rfl (slices_IndexFunc_impl_Entry_impl_Entry.calls a0 a1 s0.w (mm [0] s0) w0_0 f1 (z.rd h0_0) (fun x0 u0_0 u0_1 w' k h0 h1 r m =>  hf1 x0 u0_0 u0_1 w' (Ky.trans (z.ky kp0) k) h0 h1 r m) ho1) (fun r2 s3 p3 n3 => ?_)))))))
 refine Xb rfl (Xb rfl (dn ?_))
 exact re rfl func96 rfl (Xv rfl Xg) rfl ⟨_, rfl, rfl, z.ky (kp0.st p3 rfl)⟩
def impl_areAll_impl_Entry.f (a0 : (List Entry)) (a1 : (Entry → Option Bool)) : Option (Bool) :=
 ((slices_ContainsFunc_impl_Entry_impl_Entry.f a0 (fun x0 => impl_areAll_impl_Entry_1.f x0 a1)).bind fun r6 => (some (!r6)))
def impl_areAll_impl_Entry.Q (w : World) (F : Nat → Prop) (r : Bool) (v : Value) (w' : World) : Prop :=
 v = (.bool r) ∧ Ky [] w w'
theorem impl_areAll_impl_Entry.calls (a0 : (List Entry)) (a1 : (Entry → Option Bool)) (w : World) (F : Nat → Prop) (w0_0 : Value) (f1 : Value) (h0_0 : Yn.rd w [w0_0] a0 F) (hf1 : ∀ (x0 : Entry) (u0_0 u0_1 : Value) (w' : World), Ky [] w w' → Kd.flt.rd w' [u0_0] x0.Key.F (fun _ => True) → Ym.rd w' [u0_1] x0.Key.T (fun _ => True) → ∀ r, a1 x0 = some r → CallV prog f1 [(.agg #[(iI x0.Key.Kind), (iI x0.Key.N), u0_0, u0_1, (iI x0.Id)])] w' fun en w'' => ∃ v, en = .returned v ∧ v = (.bool r) ∧ Ky [] w' w'') (ho1 : f1.cells = #[f1]) (r : Bool) (m : impl_areAll_impl_Entry.f a0 a1 = some r) :
  Calls prog 88 #[w0_0, f1] w (RT (impl_areAll_impl_Entry.Q w F) r) := by
 obtain ⟨s0, rfl, kp0, z⟩ := Xn w F
 refine Xf (args := [w0_0, f1]) func88 ntmps88 rfl rfl m ?_
 unfold impl_areAll_impl_Entry.f
 refine sr (bx' (cs := [f1]) 40 rfl ho1 (fun b2 s2 p2 B2 => ?_))
 refine Xb rfl (dn (sr (Xw w0_0 rfl (mkf (fs := []) (cs := [(pB b2)]) rfl rfl rfl rfl rfl rfl rfl ?_))))
 have K4 := kp0.st p2 rfl
 refine clV 41 rfl func96 rfl (slices_ContainsFunc_impl_Entry_impl_Entry.calls a0 (fun x0 => impl_areAll_impl_Entry_1.f x0 a1) s2.w (mm [0] s2) w0_0 (.func (.func 97) (List.toArray []) (List.toArray [(pB b2)])) ((z.rd h0_0).kp K4) (fun x0 u0_0 u0_1 w' k h0 h1 r m =>  ⟨97, _, _, [], [(pB b2)], rfl, func97, rfl, rfl, (impl_areAll_impl_Entry_1.calls x0 a1 w' (fun _ => True) u0_0 u0_1 b2 f1 h0 h1 (fun x0c u0_0c u0_1c w'c kc h0c h1c r m =>  hf1 x0c u0_0c u0_1c w'c (Ky.trans (z.ky K4) (Ky.trans k kc)) h0c h1c r m) ho1 (B2.ky k) trivial r m).mono fun en w2 hq => by obtain ⟨v, e, q⟩ := hq; exact ⟨v, e, q⟩⟩) rfl) (fun r6 s7 p7 n7 => ?_)
 refine Xb rfl (Xb rfl (dn ?_))
 exact re rfl func88 rfl (Xv rfl Xg) rfl ⟨_, rfl, rfl, z.ky (K4.st p7 rfl)⟩
def impl_ItemOk.f (a0 : Item) : Option (Bool) :=
 ((impl_within.f a0.Kind (0 : Int) (3 : Int)).bind fun r4 => (some (((r4 && ((a0.N == (0 : Int)) || (a0.Kind == (1 : Int)))) && (((a0.F : Int) == 0) || (a0.Kind == (2 : Int)))) && (((a0.T.length : Int) == (0 : Int)) || ((a0.Kind == (3 : Int)) && (decide ((a0.T.length : Int) ≤ (40 : Int))))))))
def impl_ItemOk.Q (w : World) (F : Nat → Prop) (r : Bool) (v : Value) (w' : World) : Prop :=
 v = (.bool r) ∧ Ky [] w w'
theorem impl_ItemOk.calls (a0 : Item) (w : World) (F : Nat → Prop) (w0_0 : Value) (w0_1 : Value) (h0_0 : Kd.flt.rd w [w0_0] a0.F F) (h0_1 : Ym.rd w [w0_1] a0.T F) (r : Bool) (m : impl_ItemOk.f a0 = some r) :
  Calls prog 71 #[(.agg #[(iI a0.Kind), (iI a0.N), w0_0, w0_1])] w (RT (impl_ItemOk.Q w F) r) := by
 obtain ⟨s0, rfl, kp0, z⟩ := Xn w F
 refine Xf (args := [(.agg #[(iI a0.Kind), (iI a0.N), w0_0, w0_1])]) func71 ntmps71 rfl rfl m ?_
 unfold impl_ItemOk.f
 refine sr (bx' (cs := [(iI a0.Kind), (iI a0.N), w0_0, w0_1]) 40 rfl rfl (fun b2 s2 p2 B2 => ?_))
 refine Xb rfl (dn (sr (Xs fa37_0 rfl (Yb B2 u3 rfl (clV 41 rfl func46 rfl (impl_within.calls a0.Kind (0 : Int) (3 : Int) s2.w (mm [] s2)) (fun r4 s5 p5 n5 => ?_))))))
 refine Xb rfl (jy [6, 7, 8, 9, 10, 11, 12, 13, 14, 15] [13, 14, 15, 16, 17, 18, 19, 20, 21, 22, 23, 24, 25, 26, 27, 28, 29, 30, 31, 32, 33, 34, 35, 36, 37, 38, 39, 40, 41] 15 (.bool (r4 && ((a0.N == (0 : Int)) || (a0.Kind == (1 : Int))))) rfl (fun Kg6 => ?_) (fun j6 => ?_))
 ·
  rcases bft r4 with hb6 | hb6
  ·
   refine sbT hb6 (Xs fa37_1 rfl ?_)
   have A7 := B2.st p5 rfl
   refine Yb A7 u3 rfl (Xb rfl (Xb rfl (jy [10, 11, 12, 13, 14] [12, 13, 14, 15, 16, 17, 18, 19, 20, 21, 22, 23, 24, 25, 26, 27, 28, 29, 30, 31, 32, 33, 34, 35, 36, 37, 38, 39, 40, 41] 14 (.bool ((a0.N == (0 : Int)) || (a0.Kind == (1 : Int)))) rfl (fun Kg8 => ?_) (fun j8 => ?_))))
   ·
    rcases bft (a0.N == (0 : Int)) with hb8 | hb8
    ·
     exact sbT hb8 (Xr rfl (Xr rfl (Xr rfl (Xb rfl (Kg8 _ (Ag.put ((Ag.put ((Ag.put ((Ag.put (Ag.base rfl) rfl)) rfl)) rfl)) rfl) (by rw [hb8]; rfl))))))
    exact sbT hb8 (Xs fa37_0 rfl (Yb A7 u3 rfl (Xb rfl (Xb rfl (Kg8 _ (Ag.put ((Ag.put ((Ag.put ((Ag.put (Ag.base rfl) rfl)) rfl)) rfl)) rfl) (by rw [hb8]; rfl))))))
   exact Xb rfl (Kg6 _ (Ag.put ((Ag.put ((Ag.ov ((Ag.put ((Ag.put ((Ag.put ((Ag.put (Ag.base rfl) rfl)) rfl)) rfl)) rfl)) rfl)) rfl)) rfl) (by rw [hb6]; rfl))
  exact sbT hb6 (Xr rfl (Xr rfl (Xr rfl (Xr rfl (Xr rfl (Xr rfl (Xr rfl (Xr rfl (Xb rfl (Kg6 _ (Ag.put ((Ag.put ((Ag.put ((Ag.put ((Ag.put ((Ag.put ((Ag.put ((Ag.put ((Ag.put (Ag.base rfl) rfl)) rfl)) rfl)) rfl)) rfl)) rfl)) rfl)) rfl)) rfl) (by rw [hb6]; rfl)))))))))))
 refine Xb rfl (jy [16, 17, 18, 19, 20, 21, 22, 23, 24, 25, 26] [24, 25, 26, 27, 28, 29, 30, 31, 32, 33, 34, 35, 36, 37, 38, 39, 40, 41] 26 (.bool ((r4 && ((a0.N == (0 : Int)) || (a0.Kind == (1 : Int)))) && (((a0.F : Int) == 0) || (a0.Kind == (2 : Int))))) rfl (fun Kg9 => ?_) (fun j9 => ?_))
 ·
  rcases bft (r4 && ((a0.N == (0 : Int)) || (a0.Kind == (1 : Int)))) with hb9 | hb9
  ·
   refine sbT hb9 (Xs fa37_2 rfl ?_)
   have A10 := B2.st p5 rfl
   refine Yb A10 u25 rfl (fbu (Yj h0_0) rfl rfl rfl rfl rfl func72 rfl rfl xn72 xf72 rfl (fun b11 A11 => ?_))
   refine fz0 A11 rfl rfl rfl rfl rfl rfl rfl (Xb rfl (jy [21, 22, 23, 24, 25] [23, 24, 25, 26, 27, 28, 29, 30, 31, 32, 33, 34, 35, 36, 37, 38, 39, 40, 41] 25 (.bool (((a0.F : Int) == 0) || (a0.Kind == (2 : Int)))) rfl (fun Kg12 => ?_) (fun j12 => ?_)))
   ·
    rcases bft ((a0.F : Int) == 0) with hb12 | hb12
    ·
     exact sbT hb12 (Xr rfl (Xr rfl (Xr rfl (Xb rfl (Kg12 _ (Ag.put ((Ag.put ((Ag.put ((Ag.put (Ag.base rfl) rfl)) rfl)) rfl)) rfl) (by rw [hb12]; rfl))))))
    exact sbT hb12 (Xs fa37_0 rfl (Yb A10 u3 rfl (Xb rfl (Xb rfl (Kg12 _ (Ag.put ((Ag.put ((Ag.put ((Ag.put (Ag.base rfl) rfl)) rfl)) rfl)) rfl) (by rw [hb12]; rfl))))))
   exact Xb rfl (Kg9 _ (Ag.put ((Ag.put ((Ag.ov ((Ag.put ((Ag.put ((Ag.put ((Ag.put ((Ag.put (Ag.base rfl) rfl)) rfl)) rfl)) rfl)) rfl)) rfl)) rfl)) rfl) (by rw [hb9]; rfl))
  exact sbT hb9 (Xr rfl (Xr rfl (Xr rfl (Xr rfl (Xr rfl (Xr rfl (Xr rfl (Xr rfl (Xr rfl (Xb rfl (Kg9 _ (Ag.put ((Ag.put ((Ag.put ((Ag.put ((Ag.put ((Ag.put ((Ag.put ((Ag.put ((Ag.put ((Ag.put (Ag.base rfl) rfl)) rfl)) rfl)) rfl)) rfl)) rfl)) rfl)) rfl)) rfl)) rfl) (by rw [hb9]; rfl))))))))))))
 refine Xb rfl (jy [27, 28, 29, 30, 31, 32, 33, 34, 35, 36, 37, 38, 39, 40, 41, 42, 43] [41] 43 (.bool (((r4 && ((a0.N == (0 : Int)) || (a0.Kind == (1 : Int)))) && (((a0.F : Int) == 0) || (a0.Kind == (2 : Int)))) && (((a0.T.length : Int) == (0 : Int)) || ((a0.Kind == (3 : Int)) && (decide ((a0.T.length : Int) ≤ (40 : Int))))))) rfl (fun Kg13 => ?_) (fun j13 => ?_))
 ·
  rcases bft ((r4 && ((a0.N == (0 : Int)) || (a0.Kind == (1 : Int)))) && (((a0.F : Int) == 0) || (a0.Kind == (2 : Int)))) with hb13 | hb13
  ·
   refine sbT hb13 (Xs fa37_3 rfl ?_)
   have A14 := B2.st p5 rfl
   refine Yb A14 u26 rfl ?_
   have A16 := (z.rd h0_1).kp (kp0.st (Xo p2 p5) rfl)
   refine ln' A16 u26 rfl (Xb rfl (Xb rfl (jy [32, 33, 34, 35, 36, 37, 38, 39, 40, 41, 42] [40, 41] 42 (.bool (((a0.T.length : Int) == (0 : Int)) || ((a0.Kind == (3 : Int)) && (decide ((a0.T.length : Int) ≤ (40 : Int)))))) rfl (fun Kg17 => ?_) (fun j17 => ?_))))
   ·
    rcases bft ((a0.T.length : Int) == (0 : Int)) with hb17 | hb17
    ·
     exact sbT hb17 (Xr rfl (Xr rfl (Xr rfl (Xr rfl (Xr rfl (Xr rfl (Xr rfl (Xr rfl (Xr rfl (Xb rfl (Kg17 _ (Ag.put ((Ag.put ((Ag.put ((Ag.put ((Ag.put ((Ag.put ((Ag.put ((Ag.put ((Ag.put ((Ag.put (Ag.base rfl) rfl)) rfl)) rfl)) rfl)) rfl)) rfl)) rfl)) rfl)) rfl)) rfl) (by rw [hb17]; rfl))))))))))))
    refine sbT hb17 (Xs fa37_0 rfl (Yb A14 u3 rfl (Xb rfl (Xb rfl (jy [36, 37, 38, 39, 40, 41] [39, 40, 41] 41 (.bool ((a0.Kind == (3 : Int)) && (decide ((a0.T.length : Int) ≤ (40 : Int))))) rfl (fun Kg18 => ?_) (fun j18 => ?_))))))
    ·
     rcases bft (a0.Kind == (3 : Int)) with hb18 | hb18
     ·
      exact sbT hb18 (Xs fa37_3 rfl (Yb A14 u26 rfl (ln' A16 u26 rfl (Xb rfl (Xb rfl (Kg18 _ (Ag.put ((Ag.put ((Ag.put ((Ag.put ((Ag.put (Ag.base rfl) rfl)) rfl)) rfl)) rfl)) rfl) (by rw [hb18]; rfl)))))))
     exact sbT hb18 (Xr rfl (Xr rfl (Xr rfl (Xr rfl (Xb rfl (Kg18 _ (Ag.put ((Ag.put ((Ag.put ((Ag.put ((Ag.put (Ag.base rfl) rfl)) rfl)) rfl)) rfl)) rfl) (by rw [hb18]; rfl)))))))
    exact Xb rfl (Kg17 _ (Ag.put ((Ag.put ((Ag.ov ((Ag.put ((Ag.put ((Ag.put ((Ag.put (Ag.base rfl) rfl)) rfl)) rfl)) rfl)) rfl)) rfl)) rfl) (by rw [hb17]; rfl))
   exact Xb rfl (Kg13 _ (Ag.put ((Ag.put ((Ag.ov ((Ag.put ((Ag.put ((Ag.put ((Ag.put ((Ag.put (Ag.base rfl) rfl)) rfl)) rfl)) rfl)) rfl)) rfl)) rfl)) rfl) (by rw [hb13]; rfl))
  refine sbT hb13 (Xr rfl (Xr rfl (Xr rfl (Xr rfl (Xr rfl (Xr rfl (Xr rfl (Xr rfl (Xr rfl (Xr rfl (Xr rfl (Xr rfl (Xr rfl (Xr rfl ?_))))))))))))))
  exact Xr rfl (Xb rfl (Kg13 _ (Ag.put ((Ag.put ((Ag.put ((Ag.put ((Ag.put ((Ag.put ((Ag.put ((Ag.put ((Ag.put ((Ag.put ((Ag.put ((Ag.put ((Ag.put ((Ag.put ((Ag.put ((Ag.put (Ag.base rfl) rfl)) rfl)) rfl)) rfl)) rfl)) rfl)) rfl)) rfl)) rfl)) rfl)) rfl)) rfl)) rfl)) rfl)) rfl)) rfl) (by rw [hb13]; rfl)))
 refine Xb rfl (dn ?_)
 exact re rfl func71 rfl (Xv rfl Xg) rfl ⟨_, rfl, rfl, z.ky (kp0.st (Xo p2 p5) rfl)⟩
def impl_KeyOk.f (a0 : Item) : Option (Bool) :=
 ((impl_ItemOk.f a0).bind fun r6 => (some ((r6 && (a0.Kind != (0 : Int))) && ((fcmp .f64 a0.F (0 : Nat) != some .eq) || ((a0.F : Int) == 0)))))
def impl_KeyOk.Q (w : World) (F : Nat → Prop) (r : Bool) (v : Value) (w' : World) : Prop :=
 v = (.bool r) ∧ Ky [] w w'
theorem impl_KeyOk.calls (a0 : Item) (w : World) (F : Nat → Prop) (w0_0 : Value) (w0_1 : Value) (h0_0 : Kd.flt.rd w [w0_0] a0.F F) (h0_1 : Ym.rd w [w0_1] a0.T F) (r : Bool) (m : impl_KeyOk.f a0 = some r) :
  Calls prog 48 #[(.agg #[(iI a0.Kind), (iI a0.N), w0_0, w0_1])] w (RT (impl_KeyOk.Q w F) r) := by
 obtain ⟨s0, rfl, kp0, z⟩ := Xn w F
 have A0_0 := Yj h0_0
 refine Xf (args := [(.agg #[(iI a0.Kind), (iI a0.N), w0_0, w0_1])]) func48 ntmps48 rfl rfl m ?_
 unfold impl_KeyOk.f
 refine sr (bx' (cs := [(iI a0.Kind), (iI a0.N), w0_0, w0_1]) 40 rfl rfl (fun b2 s2 p2 B2 => ?_))
 refine Xb rfl (dn (sr (Yl (es := [(iI a0.Kind), (iI a0.N), w0_0, w0_1]) B2 u37 z37 rfl ?_)))
 have K4 := kp0.st p2 rfl
 refine clV 41 rfl func71 rfl (impl_ItemOk.calls a0 s2.w (mm [0] s2) w0_0 w0_1 ((Xk (s := s2) A0_0).sub (D := [0]) rfl) ((z.rd h0_1).kp K4)) (fun r6 s7 p7 n7 => ?_)
 refine Xb rfl (jy [5, 6, 7, 8, 9] [7, 8, 9, 10, 11, 12, 13, 14, 15, 16, 17, 18] 9 (.bool (r6 && (a0.Kind != (0 : Int)))) rfl (fun Kg8 => ?_) (fun j8 => ?_))
 ·
  rcases bft r6 with hb8 | hb8
  ·
   refine sbT hb8 (Xs fa37_0 rfl ?_)
   exact Yb (B2.st p7 rfl) u3 rfl (Xb rfl (Xb rfl (Kg8 _ (Ag.put ((Ag.put ((Ag.put ((Ag.put (Ag.base rfl) rfl)) rfl)) rfl)) rfl) (by rw [hb8]; rfl))))
  exact sbT hb8 (Xr rfl (Xr rfl (Xr rfl (Xb rfl (Kg8 _ (Ag.put ((Ag.put ((Ag.put ((Ag.put (Ag.base rfl) rfl)) rfl)) rfl)) rfl) (by rw [hb8]; rfl))))))
 refine Xb rfl (jy [10, 11, 12, 13, 14, 15, 16, 17, 18, 19, 20] [18] 20 (.bool ((r6 && (a0.Kind != (0 : Int))) && ((fcmp .f64 a0.F (0 : Nat) != some .eq) || ((a0.F : Int) == 0)))) rfl (fun Kg10 => ?_) (fun j10 => ?_))
 ·
  rcases bft (r6 && (a0.Kind != (0 : Int))) with hb10 | hb10
  ·
   refine sbT hb10 (Xs fa37_2 rfl ?_)
   have A11 := B2.st p7 rfl
   refine Yb A11 u25 rfl (fq_' A0_0 (fl_c rfl) rfl (Xb rfl (jy [14, 15, 16, 17, 18, 19] [17, 18] 19 (.bool ((fcmp .f64 a0.F (0 : Nat) != some .eq) || ((a0.F : Int) == 0))) rfl (fun Kg12 => ?_) (fun j12 => ?_))))
   ·
    rcases bft (fcmp .f64 a0.F (0 : Nat) != some .eq) with hb12 | hb12
    ·
     exact sbT hb12 (Xr rfl (Xr rfl (Xr rfl (Xr rfl (Xb rfl (Kg12 _ (Ag.put ((Ag.put ((Ag.put ((Ag.put ((Ag.put (Ag.base rfl) rfl)) rfl)) rfl)) rfl)) rfl) (by rw [hb12]; rfl)))))))
    refine sbT hb12 (Xs fa37_2 rfl (Yb A11 u25 rfl (fbu A0_0 rfl rfl rfl rfl rfl func72 rfl rfl xn72 xf72 rfl (fun b13 A13 => ?_))))
    exact fz0 A13 rfl rfl rfl rfl rfl rfl rfl (Xb rfl (Kg12 _ (Ag.put ((Ag.put ((Ag.put ((Ag.put ((Ag.put (Ag.base rfl) rfl)) rfl)) rfl)) rfl)) rfl) (by rw [hb12]; rfl)))
   exact Xb rfl (Kg10 _ (Ag.put ((Ag.put ((Ag.ov ((Ag.put ((Ag.put ((Ag.put ((Ag.put (Ag.base rfl) rfl)) rfl)) rfl)) rfl)) rfl)) rfl)) rfl) (by rw [hb10]; rfl))
  exact sbT hb10 (Xr rfl (Xr rfl (Xr rfl (Xr rfl (Xr rfl (Xr rfl (Xr rfl (Xr rfl (Xr rfl (Xb rfl (Kg10 _ (Ag.put ((Ag.put ((Ag.put ((Ag.put ((Ag.put ((Ag.put ((Ag.put ((Ag.put ((Ag.put ((Ag.put (Ag.base rfl) rfl)) rfl)) rfl)) rfl)) rfl)) rfl)) rfl)) rfl)) rfl)) rfl) (by rw [hb10]; rfl))))))))))))
 refine Xb rfl (dn ?_)
 exact re rfl func48 rfl (Xv rfl Xg) rfl ⟨_, rfl, rfl, z.ky (K4.st p7 rfl)⟩
def impl_isEntry.f (a0 : Entry) : Option (Bool) :=
 ((impl_KeyOk.f a0.Key).bind fun r6 => ((if r6 = true then ((impl_within.f a0.Id (0 : Int) (255 : Int)).bind fun r10 => (some r10)) else (some false)).bind fun y8 => (some y8)))
def impl_isEntry.Q (w : World) (F : Nat → Prop) (r : Bool) (v : Value) (w' : World) : Prop :=
 v = (.bool r) ∧ Ky [] w w'
theorem impl_isEntry.calls (a0 : Entry) (w : World) (F : Nat → Prop) (w0_0 : Value) (w0_1 : Value) (h0_0 : Kd.flt.rd w [w0_0] a0.Key.F F) (h0_1 : Ym.rd w [w0_1] a0.Key.T F) (r : Bool) (m : impl_isEntry.f a0 = some r) :
  Calls prog 28 #[(.agg #[(iI a0.Key.Kind), (iI a0.Key.N), w0_0, w0_1, (iI a0.Id)])] w (RT (impl_isEntry.Q w F) r) := by
 obtain ⟨s0, rfl, kp0, z⟩ := Xn w F
 refine Xf (args := [(.agg #[(iI a0.Key.Kind), (iI a0.Key.N), w0_0, w0_1, (iI a0.Id)])]) func28 ntmps28 rfl rfl m ?_
 unfold impl_isEntry.f
 refine sr (bx' (cs := [(iI a0.Key.Kind), (iI a0.Key.N), w0_0, w0_1, (iI a0.Id)]) 40 rfl rfl (fun b2 s2 p2 B2 => ?_))
 refine Xb rfl (dn (sr (Xs fa48_0 rfl (Yl (es := [(iI a0.Key.Kind), (iI a0.Key.N), w0_0, w0_1]) B2 u37 z37 rfl ?_))))
 have K4 := kp0.st p2 rfl
 refine clV 41 rfl func48 rfl (impl_KeyOk.calls a0.Key s2.w (mm [0] s2) w0_0 w0_1 ((Xk (s := s2) (Yj h0_0)).sub (D := [0]) rfl) ((z.rd h0_1).kp K4)) (fun r6 s7 p7 n7 => ?_)
 refine Xb rfl (ji [8] (fun (y8 : Bool) e w => ∃ (s : St) (e0 : Env), w = s.w ∧ e = upd e0 10 (.bool y8) ∧ Kp s0 s) (fun Gj8 Kj8 => ?_) ?_)
 ·
  rcases bft r6 with hb8 | hb8
  ·
   refine sbT hb8 ?_
   rw [if_pos hb8]
   refine Xs fa48_1 rfl (Yb (B2.st p7 rfl) u3 rfl (clV 42 rfl func46 rfl (impl_within.calls a0.Id (0 : Int) (255 : Int) s7.w (mm [] s7)) (fun r10 s11 p11 n11 => ?_)))
   exact Xb rfl (Kj8 _ _ _ ⟨s11, _, rfl, (ue rfl rfl), (K4.st (Xo p7 p11) rfl)⟩)
  refine sbT hb8 ?_
  rw [if_neg (by rw [hb8]; decide)]
  refine Xr rfl (Xr rfl (Xr rfl (Xb rfl ?_)))
  exact Kj8 _ _ _ ⟨s7, _, rfl, (ue rfl rfl), (K4.st p7 rfl)⟩
 rintro y8 _ _ ⟨s14, _, rfl, rfl, Ky8⟩
 exact Xb rfl (dn (re rfl func28 rfl (Xv rfl Xg) rfl ⟨_, rfl, rfl, z.ky Ky8⟩))
def cmp_isNaN_int.f (a0 : Int) : Option (Bool) :=
 (some (a0 != a0))
def cmp_isNaN_int.Q (w : World) (F : Nat → Prop) (r : Bool) (v : Value) (w' : World) : Prop :=
 v = (.bool r) ∧ Ky [] w w'
theorem cmp_isNaN_int.calls (a0 : Int) (w : World) (F : Nat → Prop)   (r : Bool) (m : cmp_isNaN_int.f a0 = some r) :
  Calls prog 91 #[(iI a0)] w (RT (cmp_isNaN_int.Q w F) r) := by
 obtain ⟨s0, rfl, kp0, z⟩ := Xn w F
 refine Xf (args := [(iI a0)]) func91 ntmps91 rfl rfl m ?_
 unfold cmp_isNaN_int.f
 exact sr (Xb rfl (dn (sr (Xb rfl (Xb rfl (Xb rfl (Xb rfl (dn (re rfl func91 rfl (Xv rfl Xg) rfl ⟨_, rfl, rfl, z.ky kp0⟩)))))))))
def cmp_Compare_int.f (a0 : Int) (a1 : Int) : Option (Int) :=
 ((cmp_isNaN_int.f a0).bind fun r1 => ((cmp_isNaN_int.f a1).bind fun r3 => (if r1 = true then (if r3 = true then (some (0 : Int)) else (some (-1 : Int))) else (if r3 = true then (some (1 : Int)) else (if (decide (a0 < a1)) = true then (some (-1 : Int)) else (if (decide (a0 > a1)) = true then (some (1 : Int)) else (some (0 : Int))))))))
def cmp_Compare_int.Q (w : World) (F : Nat → Prop) (r : Int) (v : Value) (w' : World) : Prop :=
 v = (iI r) ∧ Ky [] w w'
theorem cmp_Compare_int.calls (a0 : Int) (a1 : Int) (w : World) (F : Nat → Prop)   (r : Int) (m : cmp_Compare_int.f a0 a1 = some r) :
  Calls prog 75 #[(iI a0), (iI a1)] w (RT (cmp_Compare_int.Q w F) r) := by
 obtain ⟨s0, rfl, kp0, z⟩ := Xn w F
 refine Xf (args := [(iI a0), (iI a1)]) func75 ntmps75 rfl rfl m ?_
 unfold cmp_Compare_int.f
 refine sr (Xb rfl (dn (sr (Xb rfl (clV 40 rfl func91 rfl (cmp_isNaN_int.calls a0 s0.w (mm [] s0)) (fun r1 s2 p2 n2 => ?_))))))
 refine Xb rfl (dn (sr (Xb rfl (clV 41 rfl func91 rfl (cmp_isNaN_int.calls a1 s2.w (mm [] s2)) (fun r3 s4 p4 n4 => ?_)))))
 refine Xb rfl (dn (sq (sr (Xb rfl (dn (cd rfl (fun h5 => ?_) (fun h5 => ?_)))))))
 ·
  refine sq (sr (Xb rfl (dn (cd rfl (fun h6 => ?_) (fun h6 => ?_)))))
  ·
   refine sr (Xb rfl (dn ?_))
   exact re rfl func75 rfl (Xv rfl Xg) rfl ⟨_, rfl, rfl, z.ky (kp0.st (Xo p2 p4) rfl)⟩
  refine sk (sr (Xb rfl (dn ?_)))
  exact re rfl func75 rfl (Xv rfl Xg) rfl ⟨_, rfl, rfl, z.ky (kp0.st (Xo p2 p4) rfl)⟩
 refine sk (sq (sr (Xb rfl (dn (cd rfl (fun h9 => ?_) (fun h9 => ?_))))))
 ·
  refine sr (Xb rfl (dn ?_))
  exact re rfl func75 rfl (Xv rfl Xg) rfl ⟨_, rfl, rfl, z.ky (kp0.st (Xo p2 p4) rfl)⟩
 refine sk (sq (sr (Xb rfl (Xb rfl (Xb rfl (dn (cd rfl (fun h11 => ?_) (fun h11 => ?_))))))))
 ·
  refine sr (Xb rfl (dn ?_))
  exact re rfl func75 rfl (Xv rfl Xg) rfl ⟨_, rfl, rfl, z.ky (kp0.st (Xo p2 p4) rfl)⟩
 refine sk (sq (sr (Xb rfl (Xb rfl (Xb rfl (dn (cd rfl (fun h13 => ?_) (fun h13 => ?_))))))))
 ·
  refine sr (Xb rfl (dn ?_))
  exact re rfl func75 rfl (Xv rfl Xg) rfl ⟨_, rfl, rfl, z.ky (kp0.st (Xo p2 p4) rfl)⟩
 refine sk (sr (Xb rfl (dn ?_)))
 exact re rfl func75 rfl (Xv rfl Xg) rfl ⟨_, rfl, rfl, z.ky (kp0.st (Xo p2 p4) rfl)⟩
def impl_FloatRank.f (a0 : Nat) : Option (Int) :=
 (if (fcmp .f64 a0 a0 != some .eq) = true then (some (18446744073709551615 : Int)) else (if (fcmp .f64 a0 (0 : Nat) == some .eq) = true then (some (9223372036854775808 : Int)) else (if (fcmp .f64 a0 (0 : Nat) == some .gt) = true then (if isN a0 = false then (some (ior .u64 (a0 : Int) (9223372036854775808 : Int))) else none) else (if isN a0 = false then (some (ixor .u64 (IntKind.max .u64) (a0 : Int))) else none))))
def impl_FloatRank.Q (w : World) (F : Nat → Prop) (r : Int) (v : Value) (w' : World) : Prop :=
 v = (.int .u64 r) ∧ Ky [] w w'
theorem impl_FloatRank.calls (a0 : Nat) (w : World) (F : Nat → Prop) (w0_0 : Value) (h0_0 : Kd.flt.rd w [w0_0] a0 F) (r : Int) (m : impl_FloatRank.f a0 = some r) :
  Calls prog 99 #[w0_0] w (RT (impl_FloatRank.Q w F) r) := by
 obtain ⟨s0, rfl, kp0, z⟩ := Xn w F
 have A0_0 := Yj h0_0
 refine Xf (args := [w0_0]) func99 ntmps99 rfl rfl m ?_
 unfold impl_FloatRank.f
 refine sr (Xb rfl (dn (sq (bl (sr (Xw w0_0 rfl (Xw w0_0 rfl (fq_' A0_0 A0_0 rfl (Xb rfl (dn (cd rfl (fun h1 => ?_) (fun h1 => ?_))))))))))))
 ·
  exact sr (Xb rfl (dn (re rfl func99 rfl (Xv rfl Xg) rfl ⟨_, rfl, rfl, z.ky kp0⟩)))
 refine sr (Xw w0_0 rfl (fq_' A0_0 (fl_c rfl) rfl (Xb rfl (dn (cd rfl (fun h2 => ?_) (fun h2 => ?_))))))
 ·
  exact sr (Xb rfl (dn (re rfl func99 rfl (Xv rfl Xg) rfl ⟨_, rfl, rfl, z.ky kp0⟩)))
 refine sr (Xw w0_0 rfl (fq_' A0_0 (fl_c rfl) rfl (Xb rfl (dn (cd rfl (fun h3 => ?_) (fun h3 => ?_))))))
 ·
  exact sr (Xw w0_0 rfl (fb_ A0_0 rfl rfl rfl rfl rfl func72 rfl rfl xn72 xf72 rfl (Xb rfl (Xb rfl (dn (re rfl func99 rfl (Xv rfl Xg) rfl ⟨_, rfl, rfl, z.ky kp0⟩))))))
 exact sk (ib (sr (Xw w0_0 rfl (fb_ A0_0 rfl rfl rfl rfl rfl func72 rfl rfl xn72 xf72 rfl (Xb rfl (Xb rfl (dn (re rfl func99 rfl (Xv rfl Xg) rfl ⟨_, rfl, rfl, z.ky kp0⟩))))))))
def cmp_isNaN_uint64.f (a0 : Int) : Option (Bool) :=
 (some (a0 != a0))
def cmp_isNaN_uint64.Q (w : World) (F : Nat → Prop) (r : Bool) (v : Value) (w' : World) : Prop :=
 v = (.bool r) ∧ Ky [] w w'
theorem cmp_isNaN_uint64.calls (a0 : Int) (w : World) (F : Nat → Prop)   (r : Bool) (m : cmp_isNaN_uint64.f a0 = some r) :
  Calls prog 104 #[(.int .u64 a0)] w (RT (cmp_isNaN_uint64.Q w F) r) := by
 obtain ⟨s0, rfl, kp0, z⟩ := Xn w F
 refine Xf (args := [(.int .u64 a0)]) func104 ntmps104 rfl rfl m ?_
 unfold cmp_isNaN_uint64.f
 exact sr (Xb rfl (dn (sr (Xb rfl (Xb rfl (Xb rfl (Xb rfl (dn (re rfl func104 rfl (Xv rfl Xg) rfl ⟨_, rfl, rfl, z.ky kp0⟩)))))))))
def cmp_Compare_uint64.f (a0 : Int) (a1 : Int) : Option (Int) :=
 ((cmp_isNaN_uint64.f a0).bind fun r1 => ((cmp_isNaN_uint64.f a1).bind fun r3 => (if r1 = true then (if r3 = true then (some (0 : Int)) else (some (-1 : Int))) else (if r3 = true then (some (1 : Int)) else (if (decide (a0 < a1)) = true then (some (-1 : Int)) else (if (decide (a0 > a1)) = true then (some (1 : Int)) else (some (0 : Int))))))))
def cmp_Compare_uint64.Q (w : World) (F : Nat → Prop) (r : Int) (v : Value) (w' : World) : Prop :=
 v = (iI r) ∧ Ky [] w w'
theorem cmp_Compare_uint64.calls (a0 : Int) (a1 : Int) (w : World) (F : Nat → Prop)   (r : Int) (m : cmp_Compare_uint64.f a0 a1 = some r) :
  Calls prog 98 #[(.int .u64 a0), (.int .u64 a1)] w (RT (cmp_Compare_uint64.Q w F) r) := by
 obtain ⟨s0, rfl, kp0, z⟩ := Xn w F
 refine Xf (args := [(.int .u64 a0), (.int .u64 a1)]) func98 ntmps98 rfl rfl m ?_
 unfold cmp_Compare_uint64.f
 refine sr (Xb rfl (dn (sr (Xb rfl (clV 40 rfl func104 rfl (cmp_isNaN_uint64.calls a0 s0.w (mm [] s0)) (fun r1 s2 p2 n2 => ?_))))))
 refine Xb rfl (dn (sr (Xb rfl (clV 41 rfl func104 rfl (cmp_isNaN_uint64.calls a1 s2.w (mm [] s2)) (fun r3 s4 p4 n4 => ?_)))))
 refine Xb rfl (dn (sq (sr (Xb rfl (dn (cd rfl (fun h5 => ?_) (fun h5 => ?_)))))))
 ·
  refine sq (sr (Xb rfl (dn (cd rfl (fun h6 => ?_) (fun h6 => ?_)))))
  ·
   refine sr (Xb rfl (dn ?_))
   exact re rfl func98 rfl (Xv rfl Xg) rfl ⟨_, rfl, rfl, z.ky (kp0.st (Xo p2 p4) rfl)⟩
  refine sk (sr (Xb rfl (dn ?_)))
  exact re rfl func98 rfl (Xv rfl Xg) rfl ⟨_, rfl, rfl, z.ky (kp0.st (Xo p2 p4) rfl)⟩
 refine sk (sq (sr (Xb rfl (dn (cd rfl (fun h9 => ?_) (fun h9 => ?_))))))
 ·
  refine sr (Xb rfl (dn ?_))
  exact re rfl func98 rfl (Xv rfl Xg) rfl ⟨_, rfl, rfl, z.ky (kp0.st (Xo p2 p4) rfl)⟩
 refine sk (sq (sr (Xb rfl (Xb rfl (Xb rfl (dn (cd rfl (fun h11 => ?_) (fun h11 => ?_))))))))
 ·
  refine sr (Xb rfl (dn ?_))
  exact re rfl func98 rfl (Xv rfl Xg) rfl ⟨_, rfl, rfl, z.ky (kp0.st (Xo p2 p4) rfl)⟩
 refine sk (sq (sr (Xb rfl (Xb rfl (Xb rfl (dn (cd rfl (fun h13 => ?_) (fun h13 => ?_))))))))
 ·
  refine sr (Xb rfl (dn ?_))
  exact re rfl func98 rfl (Xv rfl Xg) rfl ⟨_, rfl, rfl, z.ky (kp0.st (Xo p2 p4) rfl)⟩
 refine sk (sr (Xb rfl (dn ?_)))
 exact re rfl func98 rfl (Xv rfl Xg) rfl ⟨_, rfl, rfl, z.ky (kp0.st (Xo p2 p4) rfl)⟩
def impl_FloatCompare.f (a0 : Nat) (a1 : Nat) : Option (Int) :=
 ((impl_FloatRank.f a0).bind fun r1 => ((impl_FloatRank.f a1).bind fun r3 => ((cmp_Compare_uint64.f r1 r3).bind fun r5 => (some r5))))
def impl_FloatCompare.Q (w : World) (F : Nat → Prop) (r : Int) (v : Value) (w' : World) : Prop :=
 v = (iI r) ∧ Ky [] w w'
theorem impl_FloatCompare.calls (a0 : Nat) (a1 : Nat) (w : World) (F : Nat → Prop) (w0_0 : Value) (w1_0 : Value) (h0_0 : Kd.flt.rd w [w0_0] a0 F) (h1_0 : Kd.flt.rd w [w1_0] a1 F) (r : Int) (m : impl_FloatCompare.f a0 a1 = some r) :
  Calls prog 89 #[w0_0, w1_0] w (RT (impl_FloatCompare.Q w F) r) := by
 obtain ⟨s0, rfl, kp0, z⟩ := Xn w F
 refine Xf (args := [w0_0, w1_0]) func89 ntmps89 rfl rfl m ?_
 unfold impl_FloatCompare.f
 refine sr (Xb rfl (dn (sr (Xw w0_0 rfl (clV 40 rfl func99 rfl (impl_FloatRank.calls a0 s0.w (mm [] s0) w0_0 (Xk (s := s0) (Yj h0_0))) (fun r1 s2 p2 n2 => ?_))))))
 refine Xw w1_0 rfl (clV 41 rfl func99 rfl (impl_FloatRank.calls a1 s2.w (mm [] s2) w1_0 (Xk (s := s2) (Yj h1_0))) (fun r3 s4 p4 n4 => ?_))
 refine clV 42 rfl func98 rfl (cmp_Compare_uint64.calls r1 r3 s4.w (mm [] s4)) (fun r5 s6 p6 n6 => ?_)
 refine Xb rfl (dn ?_)
 exact re rfl func89 rfl (Xv rfl Xg) rfl ⟨_, rfl, rfl, z.ky (kp0.st (Ye p2 p4 p6) rfl)⟩
def bytes_Compare.f (a0 : (List Int)) (a1 : (List Int)) : Option (Int) :=
 (some (bcmpS a0 a1))
def bytes_Compare.Q (w : World) (F : Nat → Prop) (r : Int) (v : Value) (w' : World) : Prop :=
 v = (iI r) ∧ Ky [] w w'
theorem bytes_Compare.calls (a0 : (List Int)) (a1 : (List Int)) (w : World) (F : Nat → Prop) (w0_0 : Value) (w1_0 : Value) (h0_0 : Ym.rd w [w0_0] a0 F) (h1_0 : Ym.rd w [w1_0] a1 F) (r : Int) (m : bytes_Compare.f a0 a1 = some r) :
  Calls prog 90 #[w0_0, w1_0] w (RT (bytes_Compare.Q w F) r) := by
 obtain ⟨s0, rfl, kp0, z⟩ := Xn w F
 refine Xf (args := [w0_0, w1_0]) func90 ntmps90 rfl rfl m ?_
 unfold bytes_Compare.f
 exact sr (Xb rfl (dn (sr (Xw w0_0 rfl (Xw w1_0 rfl (bcx (z.rd h0_0) (z.rd h1_0) rfl rfl rfl rfl rfl func100 rfl rfl xn100 xf100 rfl rfl (Xb rfl (dn (re rfl func90 rfl (Xv rfl Xg) rfl ⟨_, rfl, rfl, z.ky kp0⟩)))))))))
def cmp_Or_int.b0 (a0 : (List Int)) (x2 : Int) : Option (Int ⊕ Int) :=
 (if (decide (x2 < (a0.length : Int))) = true then (if 0 ≤ x2 ∧ x2 < (a0.length : Int) then (if ((at_ a0 x2) != (0 : Int)) = true then (some (Sum.inr (at_ a0 x2))) else (some (Sum.inl (IntKind.wrap .i64 (x2 + (1 : Int)))))) else none) else ((some (0 : Int)).bind fun o => some (Sum.inr o)))
def cmp_Or_int.f (a0 : (List Int)) : Option (Int) :=
 (iter (cmp_Or_int.b0 a0) (0 : Int))
def cmp_Or_int.Q (w : World) (F : Nat → Prop) (r : Int) (v : Value) (w' : World) : Prop :=
 v = (iI r) ∧ Ky [] w w'
theorem cmp_Or_int.calls (a0 : (List Int)) (w : World) (F : Nat → Prop) (w0_0 : Value) (h0_0 : Yo.rd w [w0_0] a0 F) (r : Int) (m : cmp_Or_int.f a0 = some r) :
  Calls prog 73 #[w0_0] w (RT (cmp_Or_int.Q w F) r) := by
 obtain ⟨s0, rfl, kp0, z⟩ := Xn w F
 have A0_0 := z.rd h0_0
 refine Xf (args := [w0_0]) func73 ntmps73 rfl rfl m ?_
 unfold cmp_Or_int.f
 refine sr (Xb rfl (dn (sr (Xb rfl (dn (sq (sr (Xw w0_0 rfl (ln' A0_0 u59 rfl (Xb rfl (dn (bl (lpI (fun (x2 : Int) e w => ∃ (s : St) (e0 : Env), w = s.w ∧ e = upd (upd (upd (upd e0 3 (iI 0)) 6 w0_0) 7 (iI (a0.length : Int))) 8 (iI x2) ∧ Kp s0 s) ⟨s0, _, rfl, (ue (ue (ue (ue rfl rfl) rfl) rfl) rfl), kp0⟩ (fun g2 ih2 => ?_))))))))))))))
 rintro x2 _ _ ⟨s3, _, rfl, rfl, Kx2⟩
 unfold cmp_Or_int.b0
 refine sr (Xb rfl (dn (sq (cd rfl (fun h4 => ?_) (fun h4 => ?_)))))
 ·
  refine sk (sq (bl (sr ?_)))
  refine ix' (A0_0.kp Kx2) u59 z3 rfl (fun ad6 es6 h0_6 h1_6 he6 ce6 ia6 => ?_)
  obtain rfl := he6
  refine lc0 ce6 u3 rfl rfl rfl rfl rfl rfl rfl rfl (Xb rfl (dn (sr (Xb rfl (Xb rfl (Xb rfl (dn (cd rfl (fun h8 => ?_) (fun h8 => ?_)))))))))
  ·
   exact sr (Xb rfl (Xb rfl (dn (sgi (re rfl func73 rfl (Xv rfl Xg) rfl ⟨_, rfl, rfl, z.ky Kx2⟩)))))
  exact sk (ib (rg (Xb rfl (Xb rfl (dn (lb ih2 ⟨s3, _, rfl, (ue (ue (ue (ue rfl rfl) rfl) rfl) rfl), Kx2⟩))))))
 exact xt rfl (sgb (sr (Xb rfl (Xb rfl (dn (re rfl func73 rfl (Xv rfl Xg) rfl ⟨_, rfl, rfl, z.ky Kx2⟩))))))
def impl_compareItems.f (a0 : Item) (a1 : Item) : Option (Int) :=
 ((cmp_Compare_int.f a0.Kind a1.Kind).bind fun r41 => ((cmp_Compare_int.f a0.N a1.N).bind fun r51 => ((impl_FloatCompare.f a0.F a1.F).bind fun r59 => ((bytes_Compare.f a0.T a1.T).bind fun r67 => ((cmp_Or_int.f ([r41, r51, r59, r67])).bind fun r71 => (some r71))))))
def impl_compareItems.Q (w : World) (F : Nat → Prop) (r : Int) (v : Value) (w' : World) : Prop :=
 v = (iI r) ∧ Ky [] w w'
theorem impl_compareItems.calls (a0 : Item) (a1 : Item) (w : World) (F : Nat → Prop) (w0_0 : Value) (w0_1 : Value) (w1_0 : Value) (w1_1 : Value) (h0_0 : Kd.flt.rd w [w0_0] a0.F F) (h0_1 : Ym.rd w [w0_1] a0.T F) (h1_0 : Kd.flt.rd w [w1_0] a1.F F) (h1_1 : Ym.rd w [w1_1] a1.T F) (r : Int) (m : impl_compareItems.f a0 a1 = some r) :
  Calls prog 74 #[(.agg #[(iI a0.Kind), (iI a0.N), w0_0, w0_1]), (.agg #[(iI a1.Kind), (iI a1.N), w1_0, w1_1])] w (RT (impl_compareItems.Q w F) r) := by
 obtain ⟨s0, rfl, kp0, z⟩ := Xn w F
 refine Xf (args := [(.agg #[(iI a0.Kind), (iI a0.N), w0_0, w0_1]), (.agg #[(iI a1.Kind), (iI a1.N), w1_0, w1_1])]) func74 ntmps74 rfl rfl m ?_
 unfold impl_compareItems.f
 refine sr (bx' (cs := [(iI a0.Kind), (iI a0.N), w0_0, w0_1]) 40 rfl rfl (fun b3 s3 p3 B3 => ?_))
 refine bx' (cs := [(iI a1.Kind), (iI a1.N), w1_0, w1_1]) 41 rfl rfl (fun b5 s5 p5 B5 => ?_)
 refine Xb rfl (dn (sq (Ya [[], [0], [], [2], [1, 3], [], [5], [], [7], [6, 8, 4], [], [10], [], [12], [11, 13, 9], [], [15], [], [17], [16, 18, 14], [4, 9, 14, 19], [20, 19], [21, 21, 0, 1, 2, 3, 4, 5, 6, 7, 8, 9, 10, 11, 12, 13, 14, 15, 16, 17, 18, 19, 20, 21]] [some 5, some 6, some 7, some 8, some 9, some 10, some 11, some 12, some 13, some 14, some 15, some 16, some 17, some 18, some 19, some 20, some 21, some 22, some 23, some 24, some 25, some 26, some 4] [[2], [5], [3], [7], [6, 8], [2], [10], [3], [12], [11, 13], [2], [15], [3], [17], [16, 18], [2], [20], [3], [22], [21, 23], [9, 14, 19, 24], [25], [26]] [0, 1, 2, 3, 4, 5, 6, 7, 8, 9, 10, 11, 12, 13, 14, 15, 16, 17, 18, 19, 20, 21, 22] ⟨by kernel_rfl, by kernel_rfl, by kernel_rfl⟩ (by kernel_rfl) (fun s7 p7 l7 tb7 zd7 => ?_))))
 have zd11 := ((zd7.add 0 5 (pB b3) rfl).add 1 6 (iI a0.Kind) rfl).add 2 7 (pB b5) rfl
 refine Xm 4 [some 23, some 22, some 21, some 20, some 18, some 17, some 16, some 15, some 13, some 12, some 11, some 10] tb7 (((((((((((((zd11.add 3 8 (iI a1.Kind) rfl).add 5 10 (pO b3 1) rfl).add 6 11 (iI a0.N) rfl).add 7 12 (pO b5 1) rfl).add 8 13 (iI a1.N) rfl).add 10 15 (pO b3 2) rfl).add 11 16 w0_0 rfl).add 12 17 (pO b5 2) rfl).add 13 18 w1_0 rfl).add 15 20 (pO b3 3) rfl).add 16 21 w0_1 rfl).add 17 22 (pO b5 3) rfl).add 18 23 w1_1 rfl) (Xa (Xl (B5.st p7 rfl) u26 rfl) rfl (Xa (Xj fa37_3 rfl) rfl (Xa (Xl (B3.st (Xo p5 p7) rfl) u26 rfl) rfl (Xa (Xj fa37_3 rfl) rfl (Xa (Xl (B5.st p7 rfl) u25 rfl) rfl (Xa (Xj fa37_2 rfl) rfl (Xa (Xl (B3.st (Xo p5 p7) rfl) u25 rfl) rfl (Xa (Xj fa37_2 rfl) rfl (Xa (Xl (B5.st p7 rfl) u3 rfl) rfl (Xa (Xj fa37_1 rfl) rfl (Xa (Xl (B3.st (Xo p5 p7) rfl) u3 rfl) rfl (Xa (Xj fa37_1 rfl) rfl (Xa (Xl (B5.st p7 rfl) u3 rfl) rfl (Xa (Xj fa37_0 rfl) rfl (Xa (Xl (B3.st (Xo p5 p7) rfl) u3 rfl) rfl (Xa (Xj fa37_0 rfl) rfl Xe)))))))))))))))) (by kernel_rfl) rfl (fun l32 e32 zd32 => ?_)
 refine clV 42 rfl func75 rfl (cmp_Compare_int.calls a0.Kind a1.Kind s7.w (mm [] s7)) (fun r41 s42 p42 n42 => ?_)
 refine Xh (L' := [18, 17, 16, 15, 13, 12, 11, 10, 8, 7, 6, 5]) (D' := [0, 2, 1, 3, 4]) zd32 rfl (fun zd43 => ?_)
 refine Xm 9 [some 23, some 22, some 21, some 20, some 18, some 17, some 16, some 15] tb7 zd43 (Xa (Xl (B5.st (Xo p7 p42) rfl) u26 rfl) rfl (Xa (Xj fa37_3 rfl) rfl (Xa (Xl (B3.st (Ye p5 p7 p42) rfl) u26 rfl) rfl (Xa (Xj fa37_3 rfl) rfl (Xa (Xl (B5.st (Xo p7 p42) rfl) u25 rfl) rfl (Xa (Xj fa37_2 rfl) rfl (Xa (Xl (B3.st (Ye p5 p7 p42) rfl) u25 rfl) rfl (Xa (Xj fa37_2 rfl) rfl (Xa (Xl (B5.st (Xo p7 p42) rfl) u3 rfl) rfl (Xa (Xj fa37_1 rfl) rfl (Xa (Xl (B3.st (Ye p5 p7 p42) rfl) u3 rfl) rfl (Xa (Xj fa37_1 rfl) rfl Xe)))))))))))) (by kernel_rfl) rfl (fun l44 e44 zd44 => ?_)
 refine clV 43 rfl func75 rfl (cmp_Compare_int.calls a0.N a1.N s42.w (mm [] s42)) (fun r51 s52 p52 n52 => ?_)
 refine Xh (L' := [18, 17, 16, 15, 13, 12, 11, 10]) (D' := [5, 7, 6, 8, 9, 0, 2, 1, 3, 4]) zd44 rfl (fun zd53 => ?_)
 refine Xm 14 [some 23, some 22, some 21, some 20] tb7 zd53 (Xa (Xl (B5.st (Ye p7 p42 p52) rfl) u26 rfl) rfl (Xa (Xj fa37_3 rfl) rfl (Xa (Xl (B3.st (Yf p5 p7 p42 p52) rfl) u26 rfl) rfl (Xa (Xj fa37_3 rfl) rfl (Xa (Xl (B5.st (Ye p7 p42 p52) rfl) u25 rfl) rfl (Xa (Xj fa37_2 rfl) rfl (Xa (Xl (B3.st (Yf p5 p7 p42 p52) rfl) u25 rfl) rfl (Xa (Xj fa37_2 rfl) rfl Xe)))))))) (by kernel_rfl) rfl (fun l54 e54 zd54 => ?_)
 refine clV 44 rfl func89 rfl (impl_FloatCompare.calls a0.F a1.F s52.w (mm [] s52) w0_0 w1_0 (Xk (s := s52) (Yj h0_0)) (Xk (s := s52) (Yj h1_0))) (fun r59 s60 p60 n60 => ?_)
 refine Xh (L' := [18, 17, 16, 15]) (D' := [10, 12, 11, 13, 14, 5, 7, 6, 8, 9, 0, 2, 1, 3, 4]) zd54 rfl (fun zd61 => ?_)
 refine Xu [19, 20, 21, 22] tb7 zd61 (Xa (Xl (B5.st (Yf p7 p42 p52 p60) rfl) u26 rfl) rfl (Xa (Xj fa37_3 rfl) rfl (Xa (Xl (B3.st (tr5 p5 p7 p42 p52 p60) rfl) u26 rfl) rfl (Xa (Xj fa37_3 rfl) rfl Xe)))) (by kernel_rfl) (by decide) ?_
 have K64 := kp0.st (tr6 p3 p5 p7 p42 p52 p60) rfl
 refine clV 45 rfl func90 rfl (bytes_Compare.calls a0.T a1.T s60.w (mm [0] s60) w0_1 w1_1 ((z.rd h0_1).kp K64) ((z.rd h1_1).kp K64)) (fun r67 s68 p68 n68 => ?_)
 refine ltF' (K := (Kd.int .i64)) (cells := [(iI r41), (iI r51), (iI r59), (iI r67)]) [r41, r51, r59, r67] 46 Yd u59 z3 o3 (fun w => (els_flat _ _ _)) rfl (fun v69 s69 p69 A69 => ?_)
 refine clV 47 rfl func73 rfl (cmp_Or_int.calls ([r41, r51, r59, r67]) s69.w (mm [46] s69) v69 A69.rd) (fun r71 s72 p72 n72 => ?_)
 refine Xb rfl (dn ?_)
 exact re rfl func74 rfl (Xv rfl Xg) rfl ⟨_, rfl, rfl, z.ky (K64.st (Ye p68 p69 p72) rfl)⟩
def impl_compareEntries.f (a0 : Entry) (a1 : Entry) : Option (Int) :=
 ((impl_compareItems.f a0.Key a1.Key).bind fun r28 => ((cmp_Compare_int.f a0.Id a1.Id).bind fun r33 => ((cmp_Or_int.f ([r28, r33])).bind fun r37 => (some r37))))
def impl_compareEntries.Q (w : World) (F : Nat → Prop) (r : Int) (v : Value) (w' : World) : Prop :=
 v = (iI r) ∧ Ky [] w w'
theorem impl_compareEntries.calls (a0 : Entry) (a1 : Entry) (w : World) (F : Nat → Prop) (w0_0 : Value) (w0_1 : Value) (w1_0 : Value) (w1_1 : Value) (h0_0 : Kd.flt.rd w [w0_0] a0.Key.F F) (h0_1 : Ym.rd w [w0_1] a0.Key.T F) (h1_0 : Kd.flt.rd w [w1_0] a1.Key.F F) (h1_1 : Ym.rd w [w1_1] a1.Key.T F) (r : Int) (m : impl_compareEntries.f a0 a1 = some r) :
  Calls prog 50 #[(.agg #[(iI a0.Key.Kind), (iI a0.Key.N), w0_0, w0_1, (iI a0.Id)]), (.agg #[(iI a1.Key.Kind), (iI a1.Key.N), w1_0, w1_1, (iI a1.Id)])] w (RT (impl_compareEntries.Q w F) r) := by
 obtain ⟨s0, rfl, kp0, z⟩ := Xn w F
 refine Xf (args := [(.agg #[(iI a0.Key.Kind), (iI a0.Key.N), w0_0, w0_1, (iI a0.Id)]), (.agg #[(iI a1.Key.Kind), (iI a1.Key.N), w1_0, w1_1, (iI a1.Id)])]) func50 ntmps50 rfl rfl m ?_
 unfold impl_compareEntries.f
 refine sr (bx' (cs := [(iI a0.Key.Kind), (iI a0.Key.N), w0_0, w0_1, (iI a0.Id)]) 40 rfl rfl (fun b3 s3 p3 B3 => ?_))
 refine bx' (cs := [(iI a1.Key.Kind), (iI a1.Key.N), w1_0, w1_1, (iI a1.Id)]) 41 rfl rfl (fun b5 s5 p5 B5 => ?_)
 refine Xb rfl (dn (sq (Ya [[], [0], [], [2], [1, 3], [], [5], [], [7], [6, 8, 4], [4, 9], [10, 9], [11, 11, 0, 1, 2, 3, 4, 5, 6, 7, 8, 9, 10, 11]] [some 5, some 6, some 7, some 8, some 9, some 10, some 11, some 12, some 13, some 14, some 15, some 16, some 4] [[2], [5], [3], [7], [6, 8], [2], [10], [3], [12], [11, 13], [9, 14], [15], [16]] [0, 1, 2, 3, 4, 5, 6, 7, 8, 9, 10, 11, 12] ⟨by kernel_rfl, by kernel_rfl, by kernel_rfl⟩ (by kernel_rfl) (fun s7 p7 l7 tb7 zd7 => ?_))))
 refine Xm 4 [some 13, some 12, some 11, some 10] tb7 ((((((((zd7.add 0 5 (pB b3) rfl).add 1 6 (.agg #[(iI a0.Key.Kind), (iI a0.Key.N), w0_0, w0_1]) rfl).add 2 7 (pB b5) rfl).add 3 8 (.agg #[(iI a1.Key.Kind), (iI a1.Key.N), w1_0, w1_1]) rfl).add 5 10 (pO b3 4) rfl).add 6 11 (iI a0.Id) rfl).add 7 12 (pO b5 4) rfl).add 8 13 (iI a1.Id) rfl) (Xa (Xl (B5.st p7 rfl) u3 rfl) rfl (Xa (Xj fa48_1 rfl) rfl (Xa (Xl (B3.st (Xo p5 p7) rfl) u3 rfl) rfl (Xa (Xj fa48_1 rfl) rfl (Xa (Xp (es := [(iI a1.Key.Kind), (iI a1.Key.N), w1_0, w1_1]) (B5.st p7 rfl) u37 z37 rfl) rfl (Xa (Xj fa48_0 rfl) rfl (Xa (Xp (es := [(iI a0.Key.Kind), (iI a0.Key.N), w0_0, w0_1]) (B3.st (Xo p5 p7) rfl) u37 z37 rfl) rfl (Xa (Xj fa48_0 rfl) rfl Xe)))))))) (by kernel_rfl) rfl (fun l20 e20 zd20 => ?_)
 have K25 := kp0.st (Ye p3 p5 p7) rfl
 refine clV 42 rfl func74 rfl (impl_compareItems.calls a0.Key a1.Key s7.w (mm [0] s7) w0_0 w0_1 w1_0 w1_1 ((Xk (s := s7) (Yj h0_0)).sub (D := [0]) rfl) ((z.rd h0_1).kp K25) ((Xk (s := s7) (Yj h1_0)).sub (D := [0]) rfl) ((z.rd h1_1).kp K25)) (fun r28 s29 p29 n29 => ?_)
 refine Xh (L' := [8, 7, 6, 5]) (D' := [0, 2, 1, 3, 4]) zd20 rfl (fun zd30 => ?_)
 refine Xu [9, 10, 11, 12] tb7 zd30 (Xa (Xl (B5.st (Xo p7 p29) rfl) u3 rfl) rfl (Xa (Xj fa48_1 rfl) rfl (Xa (Xl (B3.st (Ye p5 p7 p29) rfl) u3 rfl) rfl (Xa (Xj fa48_1 rfl) rfl Xe)))) (by kernel_rfl) (by decide) (clV 43 rfl func75 rfl (cmp_Compare_int.calls a0.Id a1.Id s29.w (mm [] s29)) (fun r33 s34 p34 n34 => ?_))
 refine ltF' (K := (Kd.int .i64)) (cells := [(iI r28), (iI r33)]) [r28, r33] 44 Yd u59 z3 o3 (fun w => (els_flat _ _ _)) rfl (fun v35 s35 p35 A35 => ?_)
 refine clV 45 rfl func73 rfl (cmp_Or_int.calls ([r28, r33]) s35.w (mm [44] s35) v35 A35.rd) (fun r37 s38 p38 n38 => ?_)
 refine Xb rfl (dn ?_)
 exact re rfl func50 rfl (Xv rfl Xg) rfl ⟨_, rfl, rfl, z.ky (K25.st (Yf p29 p34 p35 p38) rfl)⟩
def impl_isNode.b0 (a0 : Node) (x15 : Int) : Option (Int ⊕ Bool) :=
 (if (decide (x15 < (a0.Entries.length : Int))) = true then (if 0 ≤ (IntKind.wrap .i64 (x15 - (1 : Int))) ∧ (IntKind.wrap .i64 (x15 - (1 : Int))) < (a0.Entries.length : Int) then (if 0 ≤ x15 ∧ x15 < (a0.Entries.length : Int) then ((impl_compareEntries.f (Entry.mk ((at_ a0.Entries (IntKind.wrap .i64 (x15 - (1 : Int)))).Key) ((at_ a0.Entries (IntKind.wrap .i64 (x15 - (1 : Int)))).Id)) (Entry.mk ((at_ a0.Entries x15).Key) ((at_ a0.Entries x15).Id))).bind fun r46 => (if (decide (r46 ≥ (0 : Int))) = true then (some (Sum.inr false)) else (some (Sum.inl (IntKind.wrap .i64 (x15 + (1 : Int))))))) else none) else none) else ((if a0.Leaf = true then (some ((a0.Kids.length : Int) == (0 : Int))) else (some ((decide ((a0.Entries.length : Int) > (0 : Int))) && ((a0.Kids.length : Int) == (IntKind.wrap .i64 ((a0.Entries.length : Int) + (1 : Int))))))).bind fun o => some (Sum.inr o)))
def impl_isNode.f (a0 : Node) : Option (Bool) :=
 ((impl_areAll_impl_Entry.f a0.Entries impl_isEntry.f).bind fun r7 => (if ((!r7) || (decide ((a0.Entries.length : Int) > (4 : Int)))) = true then (some false) else (iter (impl_isNode.b0 a0) (1 : Int))))
def impl_isNode.Q (w : World) (F : Nat → Prop) (r : Bool) (v : Value) (w' : World) : Prop :=
 v = (.bool r) ∧ Ky [] w w'
theorem impl_isNode.calls (a0 : Node) (w : World) (F : Nat → Prop) (w0_0 : Value) (w0_1 : Value) (h0_0 : Yn.rd w [w0_0] a0.Entries F) (h0_1 : Yo.rd w [w0_1] a0.Kids F) (r : Bool) (m : impl_isNode.f a0 = some r) :
  Calls prog 70 #[(.agg #[(.bool a0.Leaf), w0_0, w0_1])] w (RT (impl_isNode.Q w F) r) := by
 obtain ⟨s0, rfl, kp0, z⟩ := Xn w F
 have A0_0 := z.rd h0_0
 have A0_1 := z.rd h0_1
 refine Xf (args := [(.agg #[(.bool a0.Leaf), w0_0, w0_1])]) func70 ntmps70 rfl rfl m ?_
 unfold impl_isNode.f
 refine sr (bx' (cs := [(.bool a0.Leaf), w0_0, w0_1]) 40 rfl rfl (fun b3 s3 p3 B3 => ?_))
 refine Xb rfl (dn (sq (sr (Xs fa61_1 rfl (Yb B3 u52 rfl ?_)))))
 have K5 := kp0.st p3 rfl
 refine clV 41 rfl func88 rfl (impl_areAll_impl_Entry.calls a0.Entries impl_isEntry.f s3.w (mm [0] s3) w0_0 (.func (.func 28) #[] #[]) (A0_0.kp K5) (fun x0 u0_0 u0_1 w' k h0 h1 r m =>  ⟨28, _, _, [], [], rfl, func28, rfl, rfl, (impl_isEntry.calls x0 w' (fun _ => True) u0_0 u0_1 h0 h1 r m).mono fun en w2 hq => by obtain ⟨v, e, q⟩ := hq; exact ⟨v, e, q⟩⟩) rfl) (fun r7 s8 p8 n8 => ?_)
 refine Xb rfl (Xb rfl (jy [8, 9, 10, 11, 12, 13] [] 13 (.bool ((!r7) || (decide ((a0.Entries.length : Int) > (4 : Int))))) rfl (fun Kg9 => ?_) (fun j9 => ?_)))
 ·
  rcases bft (!r7) with hb9 | hb9
  ·
   exact sbT hb9 (Xr rfl (Xr rfl (Xr rfl (Xr rfl (Xb rfl (Kg9 _ (Ag.put ((Ag.put ((Ag.put ((Ag.put ((Ag.put (Ag.base rfl) rfl)) rfl)) rfl)) rfl)) rfl) (by rw [hb9]; rfl)))))))
  refine sbT hb9 (Xs fa61_1 rfl ?_)
  exact Yb (B3.st p8 rfl) u52 rfl (ln' (A0_0.kp (K5.st p8 rfl)) u52 rfl (Xb rfl (Xb rfl (Kg9 _ (Ag.put ((Ag.put ((Ag.put ((Ag.put ((Ag.put (Ag.base rfl) rfl)) rfl)) rfl)) rfl)) rfl) (by rw [hb9]; rfl)))))
 refine dn (cd rfl (fun h13 => ?_) (fun h13 => ?_))
 ·
  refine sr (Xb rfl (dn ?_))
  exact re rfl func70 rfl (Xv rfl Xg) rfl ⟨_, rfl, rfl, z.ky (K5.st p8 rfl)⟩
 refine sk (sq (sr (Xb rfl (dn (bl ?_)))))
 refine lpI (fun (x15 : Int) e w => ∃ (s : St) (e0 : Env), w = s.w ∧ e = upd (upd e0 1 (pB b3)) 3 (iI x15) ∧ Kp s0 s ∧ BlF s b3 61 [(.bool a0.Leaf), w0_0, w0_1] 40) ⟨s8, _, rfl, (ue (ue rfl rfl) rfl), (K5.st p8 rfl), (B3.st p8 rfl)⟩ (fun g15 ih15 => ?_)
 rintro x15 _ _ ⟨s18, _, rfl, rfl, Kx15, Bx15_b3⟩
 unfold impl_isNode.b0
 refine sq (sr (Xb rfl (Xs fa61_1 rfl (Yb Bx15_b3 u52 rfl ?_))))
 have A20 := A0_0.kp Kx15
 refine ln' A20 u52 rfl (Xb rfl (dn (cd rfl (fun h21 => ?_) (fun h21 => ?_))))
 ·
  refine sk (sq (bl (sq (Ya [[], [0], [], [2], [1, 3], [4], [], [6], [], [7, 8], [9], [5, 10], [11]] [some 21, some 22, some 23, some 24, some 25, some 26, some 27, some 28, some 29, some 30, some 31, some 32, some 33] [[1], [21], [3], [23], [22, 24], [25], [1], [27], [3], [28, 29], [30], [26, 31], [32]] [0, 1, 2, 3, 4, 5, 6, 7, 8, 9, 10, 11, 12] ⟨by kernel_rfl, by kernel_rfl, by kernel_rfl⟩ (by kernel_rfl) (fun s22 p22 l22 tb22 zd22 => ?_)))))
  have K28 := Kx15.st p22 rfl
  have A29 := A0_0.kp K28
  refine mg fun hg30 => ?_
  obtain ⟨ad30, es30, he30, ce30, ia30⟩ := ix_e A29 rfl hg30.1 hg30.2
  obtain ⟨v30_0, v30_1, rfl, A30_0, A30_1⟩ := op48 he30
  have zd34 := (((((zd22.add 0 21 (pO b3 1) rfl).add 1 22 w0_0 rfl).add 2 23 (iI x15) rfl).add 3 24 (iI (IntKind.wrap .i64 (x15 - (1 : Int)))) rfl).add 4 25 (.pointer (some ad30)) rfl).add 5 26 (.agg #[(iI (((at_ a0.Entries (IntKind.wrap .i64 (x15 - (1 : Int)))).Key).Kind)), (iI (((at_ a0.Entries (IntKind.wrap .i64 (x15 - (1 : Int)))).Key).N)), v30_0, v30_1, (iI ((at_ a0.Entries (IntKind.wrap .i64 (x15 - (1 : Int)))).Id))]) rfl
  refine mg fun hg39 => ?_
  obtain ⟨ad39, es39, he39, ce39, ia39⟩ := ix_e A29 rfl hg39.1 hg39.2
  obtain ⟨v39_0, v39_1, rfl, A39_0, A39_1⟩ := op48 he39
  refine Xu [11, 12] tb22 (((((zd34.add 6 27 (pO b3 1) rfl).add 7 28 w0_0 rfl).add 8 29 (iI x15) rfl).add 9 30 (.pointer (some ad39)) rfl).add 10 31 (.agg #[(iI (((at_ a0.Entries x15).Key).Kind)), (iI (((at_ a0.Entries x15).Key).N)), v39_0, v39_1, (iI ((at_ a0.Entries x15).Id))]) rfl) (Xa (lca_q' ce39 u48 z48 rfl) rfl (Xa (Yg A29 u52 z48 hg39.1 hg39.2 ia39 rfl) rfl (Xa (Xc rfl) rfl (Xa (Xl (Bx15_b3.st p22 rfl) u52 rfl) rfl (Xa (Xj fa61_1 rfl) rfl (Xa (lca_q' ce30 u48 z48 rfl) rfl (Xa (Yg A29 u52 z48 hg30.1 hg30.2 ia30 rfl) rfl (Xa (Xc rfl) rfl (Xa (Xc rfl) rfl (Xa (Xl (Bx15_b3.st p22 rfl) u52 rfl) rfl (Xa (Xj fa61_1 rfl) rfl Xe))))))))))) (by kernel_rfl) (by decide) (clV 42 rfl func50 rfl (impl_compareEntries.calls (Entry.mk ((at_ a0.Entries (IntKind.wrap .i64 (x15 - (1 : Int)))).Key) ((at_ a0.Entries (IntKind.wrap .i64 (x15 - (1 : Int)))).Id)) (Entry.mk ((at_ a0.Entries x15).Key) ((at_ a0.Entries x15).Id)) s22.w (mm [0] s22) v30_0 v30_1 v39_0 v39_1 ((Xk (s := s22) A30_0).sub (D := [0]) rfl) A30_1 ((Xk (s := s22) A39_0).sub (D := [0]) rfl) A39_1) (fun r46 s47 p47 n47 => ?_))
  refine Xb rfl (dn (cd rfl (fun h48 => ?_) (fun h48 => ?_)))
  ·
   refine sr (Xb rfl (dn (sgi ?_)))
   exact re rfl func70 rfl (Xv rfl Xg) rfl ⟨_, rfl, rfl, z.ky (K28.st p47 rfl)⟩
  refine sk (ib (rg (Xb rfl (Xb rfl (Xb rfl (dn ?_))))))
  exact lb ih15 ⟨s47, _, rfl, (ue (ue rfl rfl) rfl), (K28.st p47 rfl), (Bx15_b3.st (Xo p22 p47) rfl)⟩
 refine xt rfl (sgb (sq (sr (Xs fa61_0 rfl (Yb Bx15_b3 u4 rfl (dn (cd rfl (fun h52 => ?_) (fun h52 => ?_))))))))
 ·
  refine sr (Xs fa61_2 rfl (Yb Bx15_b3 u59 rfl ?_))
  exact ln' (A0_1.kp Kx15) u59 rfl (Xb rfl (Xb rfl (dn (re rfl func70 rfl (Xv rfl Xg) rfl ⟨_, rfl, rfl, z.ky Kx15⟩))))
 refine sk (sr (Xs fa61_1 rfl (Yb Bx15_b3 u52 rfl (ln' A20 u52 rfl (Xb rfl (Xb rfl (jy [44, 45, 46, 47, 48, 49, 50, 51, 52, 53] [14] 53 (.bool ((decide ((a0.Entries.length : Int) > (0 : Int))) && ((a0.Kids.length : Int) == (IntKind.wrap .i64 ((a0.Entries.length : Int) + (1 : Int)))))) rfl (fun Kg54 => ?_) (fun j54 => ?_))))))))
 ·
  rcases bft (decide ((a0.Entries.length : Int) > (0 : Int))) with hb54 | hb54
  ·
   refine sbT hb54 (Xs fa61_2 rfl (Yb Bx15_b3 u59 rfl ?_))
   exact ln' (A0_1.kp Kx15) u59 rfl (Xs fa61_1 rfl (Yb Bx15_b3 u52 rfl (ln' A20 u52 rfl (Xb rfl (Xb rfl (Xb rfl (Kg54 _ (Ag.put ((Ag.put ((Ag.put ((Ag.put ((Ag.put ((Ag.put ((Ag.put ((Ag.put ((Ag.put (Ag.base rfl) rfl)) rfl)) rfl)) rfl)) rfl)) rfl)) rfl)) rfl)) rfl) (by rw [hb54]; rfl))))))))
  exact sbT hb54 (Xr rfl (Xr rfl (Xr rfl (Xr rfl (Xr rfl (Xr rfl (Xr rfl (Xr rfl (Xb rfl (Kg54 _ (Ag.put ((Ag.put ((Ag.put ((Ag.put ((Ag.put ((Ag.put ((Ag.put ((Ag.put ((Ag.put (Ag.base rfl) rfl)) rfl)) rfl)) rfl)) rfl)) rfl)) rfl)) rfl)) rfl) (by rw [hb54]; rfl)))))))))))
 exact Xb rfl (dn (re rfl func70 rfl (Xv rfl Xg) rfl ⟨_, rfl, rfl, z.ky Kx15⟩))
def impl_treeCheck_check.b1 (a0 : treeCheck) (a1 : Int) (a2 : Int) (a3 : (Option Entry)) (a4 : (Option Entry)) (R : (treeCheck → Int → Int → (Option Entry) → (Option Entry) → Option (Bool × treeCheck))) (x225 : Int × Int × Int × MD) : Option ((Int × Int × Int × MD) ⊕ (Bool × treeCheck)) :=
 (if (decide (x225.1 < (((at_ a0.t.Nodes a1).Kids).length : Int))) = true then (if 0 ≤ x225.1 ∧ x225.1 < (((at_ a0.t.Nodes a1).Kids).length : Int) then ((if (decide (x225.1 > (0 : Int))) = true then (if 0 ≤ (IntKind.wrap .i64 (x225.1 - (1 : Int))) ∧ (IntKind.wrap .i64 (x225.1 - (1 : Int))) < (((at_ a0.t.Nodes a1).Entries).length : Int) then (some (some (at_ ((at_ a0.t.Nodes a1).Entries) (IntKind.wrap .i64 (x225.1 - (1 : Int)))))) else none) else (some a3)).bind fun y233 => ((if (decide (x225.1 < (((at_ a0.t.Nodes a1).Entries).length : Int))) = true then (if 0 ≤ x225.1 ∧ x225.1 < (((at_ a0.t.Nodes a1).Entries).length : Int) then (some (some (at_ ((at_ a0.t.Nodes a1).Entries) x225.1))) else none) else (some a4)).bind fun y246 => ((R (treeCheck.mk (Tree.mk a0.t.Nodes x225.2.1) x225.2.2.2 x225.2.2.1) (at_ ((at_ a0.t.Nodes a1).Kids) x225.1) (IntKind.wrap .i64 (a2 + (1 : Int))) y233 y246).bind fun r260 => (if (!r260.1) = true then (some (Sum.inr (false, (treeCheck.mk (Tree.mk a0.t.Nodes r260.2.t.Root) r260.2.seen r260.2.deep)))) else (some (Sum.inl ((IntKind.wrap .i64 (x225.1 + (1 : Int))), r260.2.t.Root, r260.2.deep, r260.2.seen))))))) else none) else ((some (true, (treeCheck.mk (Tree.mk a0.t.Nodes x225.2.1) x225.2.2.2 x225.2.2.1))).bind fun o => some (Sum.inr o)))
def impl_treeCheck_check.b0 (a0 : treeCheck) (a1 : Int) (a2 : Int) (a3 : (Option Entry)) (a4 : (Option Entry)) (R : (treeCheck → Int → Int → (Option Entry) → (Option Entry) → Option (Bool × treeCheck))) (x47 : Int) : Option (Int ⊕ (Bool × treeCheck)) :=
 (if (decide (x47 < (((at_ a0.t.Nodes a1).Entries).length : Int))) = true then (if 0 ≤ x47 ∧ x47 < (((at_ a0.t.Nodes a1).Entries).length : Int) then ((if (a3.isSome) = true then (if a3.isSome = true then ((impl_compareEntries.f (Entry.mk ((at_ ((at_ a0.t.Nodes a1).Entries) x47).Key) ((at_ ((at_ a0.t.Nodes a1).Entries) x47).Id)) (Entry.mk ((a3.getD default).Key) ((a3.getD default).Id))).bind fun r85 => ((if (decide (r85 < (0 : Int))) = true then (some (true, true)) else ((if (a4.isSome) = true then (if a4.isSome = true then ((impl_compareEntries.f (Entry.mk ((at_ ((at_ a0.t.Nodes a1).Entries) x47).Key) ((at_ ((at_ a0.t.Nodes a1).Entries) x47).Id)) (Entry.mk ((a4.getD default).Key) ((a4.getD default).Id))).bind fun r125 => (some (true, true, (decide (r125 ≥ (0 : Int)))))) else none) else (some (false, false, false))).bind fun y112 => (some (false, y112.2.2)))).bind fun y91 => (some y91.2))) else none) else ((if (a4.isSome) = true then (if a4.isSome = true then ((impl_compareEntries.f (Entry.mk ((at_ ((at_ a0.t.Nodes a1).Entries) x47).Key) ((at_ ((at_ a0.t.Nodes a1).Entries) x47).Id)) (Entry.mk ((a4.getD default).Key) ((a4.getD default).Id))).bind fun r184 => (some (true, true, (decide (r184 ≥ (0 : Int)))))) else none) else (some (false, false, false))).bind fun y170 => (some y170.2.2))).bind fun y71 => (if y71 = true then (some (Sum.inr (false, (treeCheck.mk a0.t (mset a0.seen a1 true) a0.deep)))) else (some (Sum.inl (IntKind.wrap .i64 (x47 + (1 : Int))))))) else none) else ((if (at_ a0.t.Nodes a1).Leaf = true then ((if (a0.deep == (0 : Int)) = true then (some a2) else (some a0.deep)).bind fun y216 => (some ((y216 == a2), (treeCheck.mk a0.t (mset a0.seen a1 true) y216)))) else (iter (impl_treeCheck_check.b1 a0 a1 a2 a3 a4 R) ((0 : Int), a0.t.Root, a0.deep, (mset a0.seen a1 true)))).bind fun o => some (Sum.inr o)))
def impl_treeCheck_check.h (R : (treeCheck → Int → Int → (Option Entry) → (Option Entry) → Option (Bool × treeCheck))) (a0 : treeCheck) (a1 : Int) (a2 : Int) (a3 : (Option Entry)) (a4 : (Option Entry)) : Option (Bool × treeCheck) :=
 ((impl_within.f a1 (0 : Int) (IntKind.wrap .i64 ((a0.t.Nodes.length : Int) - (1 : Int)))).bind fun r6 => ((if ((!r6) || (mget a0.seen a1)) = true then (some true) else (if 0 ≤ a1 ∧ a1 < (a0.t.Nodes.length : Int) then ((impl_isNode.f (at_ a0.t.Nodes a1)).bind fun r22 => (some (!r22))) else none)).bind fun y11 => (if y11 = true then (some (false, a0)) else (if 0 ≤ a1 ∧ a1 < (a0.t.Nodes.length : Int) then (iter (impl_treeCheck_check.b0 a0 a1 a2 a3 a4 R) (0 : Int)) else none))))
def impl_treeCheck_check.g : Nat → (treeCheck → Int → Int → (Option Entry) → (Option Entry) → Option (Bool × treeCheck))
 | 0 => fun _ _ _ _ _ => none
 | n + 1 => impl_treeCheck_check.h (impl_treeCheck_check.g n)
def impl_treeCheck_check.f (a0 : treeCheck) (a1 : Int) (a2 : Int) (a3 : (Option Entry)) (a4 : (Option Entry)) : Option (Bool × treeCheck) := impl_treeCheck_check.g 1000 a0 a1 a2 a3 a4
def impl_treeCheck_check.Q (s0 : St) (p0 : Nat) (w0_0 : Value) (m0_1 : Nat) (r : Bool × treeCheck) (v : Value) (w' : World) : Prop :=
 ∃ (s' : St), v = (.bool r.1) ∧ w' = s'.w ∧ Kp s0 s' ∧ BlF s' p0 91 [w0_0, (iI r.2.t.Root), (.map (some m0_1)), (iI r.2.deep)] 2 ∧ MpF s' m0_1 r.2.seen 4
theorem impl_treeCheck_check.callsR (R : (treeCheck → Int → Int → (Option Entry) → (Option Entry) → Option (Bool × treeCheck))) (hR : ∀ (a0 : treeCheck) (a1 : Int) (a2 : Int) (a3 : (Option Entry)) (a4 : (Option Entry)) (s0 : St) (z0 : ∀ b, s0.g b < 40) (p0 : Nat) (w0_0 : Value) (m0_1 : Nat) (w3_0 : Value) (w4_0 : Value) (A0_0 : RdF Yp s0 [w0_0] a0.t.Nodes [0]) (A0_1 : MpF s0 m0_1 a0.seen 4) (B0 : BlF s0 p0 91 [w0_0, (iI a0.t.Root), (.map (some m0_1)), (iI a0.deep)] 2) (A3_0 : RdF (Kd.op kd48) s0 [w3_0] a3 [0]) (A4_0 : RdF (Kd.op kd48) s0 [w4_0] a4 [0]) (r : Bool × treeCheck) (m : R a0 a1 a2 a3 a4 = some r), Calls prog 47 #[(pB p0), (iI a1), (iI a2), w3_0, w4_0] s0.w (RT (impl_treeCheck_check.Q s0 p0 w0_0 m0_1) r)) (a0 : treeCheck) (a1 : Int) (a2 : Int) (a3 : (Option Entry)) (a4 : (Option Entry)) (s0 : St) (z0 : ∀ b, s0.g b < 40) (p0 : Nat) (w0_0 : Value) (m0_1 : Nat) (w3_0 : Value) (w4_0 : Value) (A0_0 : RdF Yp s0 [w0_0] a0.t.Nodes [0]) (A0_1 : MpF s0 m0_1 a0.seen 4) (B0 : BlF s0 p0 91 [w0_0, (iI a0.t.Root), (.map (some m0_1)), (iI a0.deep)] 2) (A3_0 : RdF (Kd.op kd48) s0 [w3_0] a3 [0]) (A4_0 : RdF (Kd.op kd48) s0 [w4_0] a4 [0]) (r : Bool × treeCheck) (m : impl_treeCheck_check.h R a0 a1 a2 a3 a4 = some r) :
  Calls prog 47 #[(pB p0), (iI a1), (iI a2), w3_0, w4_0] s0.w (RT (impl_treeCheck_check.Q s0 p0 w0_0 m0_1) r) := by
 have kp0 : Kp s0 s0 := Kp.refl s0 fun b _ => z0 b
 refine Xf (args := [(pB p0), (iI a1), (iI a2), w3_0, w4_0]) func47 ntmps47 rfl rfl m ?_
 unfold impl_treeCheck_check.h
 refine sr (Xb rfl (dn (sq (sr (Xb rfl (Xb rfl (Xb rfl (Xs fa91_0 rfl (Xs fa33_0 rfl (Yb B0 u31 rfl (ln' A0_0 u31 rfl (Xb rfl (clV 40 rfl func46 rfl (impl_within.calls a1 (0 : Int) (IntKind.wrap .i64 ((a0.t.Nodes.length : Int) - (1 : Int))) s0.w (mm [] s0)) (fun r6 s7 p7 n7 => ?_))))))))))))))
 refine Xb rfl (Xb rfl (jy [28, 29, 30, 31, 32, 33, 34, 35] [18, 19, 20, 21, 22, 23, 24, 25, 26, 27, 28, 29] 35 (.bool ((!r6) || (mget a0.seen a1))) rfl (fun Kg8 => ?_) (fun j8 => ?_)))
 ·
  rcases bft (!r6) with hb8 | hb8
  ·
   exact sbT hb8 (Xr rfl (Xr rfl (Xr rfl (Xr rfl (Xr rfl (Xr rfl (Xb rfl (Kg8 _ (Ag.put ((Ag.put ((Ag.put ((Ag.put ((Ag.put ((Ag.put ((Ag.put (Ag.base rfl) rfl)) rfl)) rfl)) rfl)) rfl)) rfl)) rfl) (by rw [hb8]; rfl)))))))))
  refine sbT hb8 (Xb rfl (Xb rfl (Xs fa91_1 rfl ?_)))
  refine Yb (B0.st p7 rfl) u89 rfl (Xb rfl ?_)
  exact lkm (A0_1.st p7 rfl) u89 u3 o4 rfl rfl rfl rfl rfl rfl rfl (Xb rfl (Kg8 _ (Ag.put ((Ag.put ((Ag.put ((Ag.put ((Ag.put ((Ag.put ((Ag.put (Ag.base rfl) rfl)) rfl)) rfl)) rfl)) rfl)) rfl)) rfl) (by rw [hb8]; rfl)))
 refine Xb rfl (ji [] (fun (y11 : Bool) e w => ∃ (s : St) (e0 : Env), w = s.w ∧ e = upd (upd (upd (upd (upd (upd e0 0 (pB p0)) 1 (iI a1)) 2 (iI a2)) 3 w3_0) 4 w4_0) 47 (.bool y11) ∧ Kp s0 s ∧ BlF s p0 91 [w0_0, (iI a0.t.Root), (.map (some m0_1)), (iI a0.deep)] 2 ∧ MpF s m0_1 a0.seen 4) (fun Gj11 Kj11 => ?_) ?_)
 ·
  rcases bft ((!r6) || (mget a0.seen a1)) with hb11 | hb11
  ·
   refine sbT hb11 ?_
   rw [if_pos hb11]
   refine Xr rfl (Xr rfl (Xr rfl (Xr rfl (Xr rfl (Xr rfl (Xr rfl (Xr rfl (Xr rfl (Xr rfl (Xb rfl ?_))))))))))
   exact Kj11 _ _ _ ⟨s7, _, rfl, (ue (ue (ue (ue (ue (ue rfl rfl) rfl) rfl) rfl) rfl) rfl), (kp0.st p7 rfl), (B0.st p7 rfl), (A0_1.st p7 rfl)⟩
  refine sbT hb11 ?_
  rw [if_neg (by rw [hb11]; decide)]
  refine Xb rfl (Xb rfl (Xs fa91_0 rfl (Xs fa33_0 rfl ?_)))
  have A15 := B0.st p7 rfl
  refine Yb A15 u31 rfl (Xb rfl ?_)
  have K16 := kp0.st p7 rfl
  refine ix' (A0_0.kp K16) u31 z61 rfl (fun ad18 es18 h0_18 h1_18 he18 ce18 ia18 => ?_)
  obtain ⟨v18_0, v18_1, rfl, A18_0, A18_1⟩ := op61 he18
  refine lca ce18 u61 z61 rfl rfl rfl rfl rfl rfl rfl (clV 41 rfl func70 rfl (impl_isNode.calls (at_ a0.t.Nodes a1) s7.w (mm [0] s7) v18_0 v18_1 A18_0 A18_1) (fun r22 s23 p23 n23 => ?_))
  refine Xb rfl (Xb rfl ?_)
  exact Kj11 _ _ _ ⟨s23, _, rfl, (ue (ue (ue (ue (ue (ue rfl rfl) rfl) rfl) rfl) rfl) rfl), (K16.st p23 rfl), (A15.st p23 rfl), (A0_1.st (Xo p7 p23) rfl)⟩
 rintro y11 _ _ ⟨s27, _, rfl, rfl, Ky11, By11_p0, By11_m0_1⟩
 refine dn (cd rfl (fun h30 => ?_) (fun h30 => ?_))
 ·
  exact sr (Xb rfl (dn (re rfl func47 rfl (Xv rfl Xg) rfl ⟨_, rfl, s27, rfl, rfl, Ky11, By11_p0, By11_m0_1⟩)))
 refine sk (sr (Xb rfl (Xb rfl (Xs fa91_1 rfl (Yb By11_p0 u89 rfl (Xb rfl (upm By11_m0_1 u89 u3 rfl rfl rfl rfl rfl rfl rfl (fun s31 p31 B31 => ?_))))))))
 refine dn (sr (Xb rfl (Xb rfl (Xs fa91_0 rfl (Xs fa33_0 rfl ?_)))))
 have A33 := By11_p0.st p31 rfl
 refine Yb A33 u31 rfl (Xb rfl ?_)
 have K34 := Ky11.st p31 rfl
 refine ix' (A0_0.kp K34) u31 z61 rfl (fun ad36 es36 h0_36 h1_36 he36 ce36 ia36 => ?_)
 obtain ⟨v36_0, v36_1, rfl, A36_0, A36_1⟩ := op61 he36
 refine lca ce36 u61 z61 rfl rfl rfl rfl rfl rfl rfl (al' (cs := [(.bool false), (.slice none 0 0), (.slice none 0 0)]) 42 rfl o61 rfl (fun b40 s40 p40 B40 => ?_))
 have A42 := A36_1.st p40 rfl
 have A43 := A36_0.st p40 rfl
 refine Yk (vs := [(.bool ((at_ a0.t.Nodes a1).Leaf)), v36_0, v36_1]) B40 z61 rfl (Xd rfl (Xd A43.one (Xd A42.one Xt))) rfl (fun s44 p44 B44 => ?_)
 refine dn (sq (sr (Xs fa61_1 rfl (Yb B44 u52 rfl ?_))))
 have A46 := A43.st p44 rfl
 refine ln' A46 u52 rfl (Xb rfl (dn (bl ?_)))
 refine lpI (fun (x47 : Int) e w => ∃ (s : St) (e0 : Env), w = s.w ∧ e = upd (upd (upd (upd (upd (upd (upd (upd e0 0 (pB p0)) 2 (iI a2)) 3 w3_0) 4 w4_0) 11 (pB b40)) 62 v36_0) 63 (iI (((at_ a0.t.Nodes a1).Entries).length : Int))) 64 (iI x47) ∧ Kp s0 s ∧ BlF s p0 91 [w0_0, (iI a0.t.Root), (.map (some m0_1)), (iI a0.deep)] 2 ∧ MpF s m0_1 (mset a0.seen a1 true) 4 ∧ BlF s b40 61 [(.bool ((at_ a0.t.Nodes a1).Leaf)), v36_0, v36_1] 42 ∧ RdF Yn s [v36_0] ((at_ a0.t.Nodes a1).Entries) [0] ∧ RdF Yo s [v36_1] ((at_ a0.t.Nodes a1).Kids) [0]) ⟨s44, _, rfl, (ue (ue (ue (ue (ue (ue (ue (ue rfl rfl) rfl) rfl) rfl) rfl) rfl) rfl) rfl), (K34.st (Xo p40 p44) rfl), (A33.st (Xo p40 p44) rfl), (B31.st (Xo p40 p44) rfl), B44, A46, (A42.st p44 rfl)⟩ (fun g47 ih47 => ?_)
 rintro x47 _ _ ⟨s52, _, rfl, rfl, Kx47, Bx47_p0, Bx47_m0_1, Bx47_b40, Cx47_37, Cx47_38⟩
 unfold impl_treeCheck_check.b0
 refine sr (Xb rfl (dn (sq (cd rfl (fun h56 => ?_) (fun h56 => ?_)))))
 ·
  refine sk (sq (bl (sr (ix' Cx47_37 u52 z48 rfl (fun ad57 es57 h0_57 h1_57 he57 ce57 ia57 => ?_)))))
  obtain ⟨v57_0, v57_1, rfl, A57_0, A57_1⟩ := op48 he57
  refine lca ce57 u48 z48 rfl rfl rfl rfl rfl rfl rfl (al' (cs := [(iI 0), (iI 0), (.float .f64 0), (.slice none 0 0), (iI 0)]) 43 rfl o48 rfl (fun b60 s60 p60 B60 => ?_))
  have A62 := A57_1.st p60 rfl
  refine Yk (vs := [(iI (((at_ ((at_ a0.t.Nodes a1).Entries) x47).Key).Kind)), (iI (((at_ ((at_ a0.t.Nodes a1).Entries) x47).Key).N)), v57_0, v57_1, (iI ((at_ ((at_ a0.t.Nodes a1).Entries) x47).Id))]) B60 z48 rfl (Xd rfl (Xd rfl (Xd (FL.one A57_0) (Xd A62.one (Xd rfl Xt))))) rfl (fun s63 p63 B63 => ?_)
  refine dn (sq (Ya [[], [0], [1], [2], [2], [4, 2], [5, 2], [3, 6, 2, 2], [7, 2], [2, 8], [9, 7], [10], [11, 10], [12, 10, 10], [13], [13], [15, 13], [16, 13], [14, 17, 13, 13], [18, 13], [13, 19, 10], [10, 20]] [some 68, some 69, some 70, some 71, some 72, some 73, some 74, some 75, some 76, some 77, some 78, some 79, some 80, some 81, some 82, some 83, some 84, some 85, some 86, some 87, some 88, some 89] [[3], [68], [69], [13, 70], [3, 70], [72, 70], [73, 70], [71, 74, 70], [75, 70], [70, 76], [77], [4, 78], [79, 78], [80, 78], [13, 81], [4, 81], [83, 81], [84, 81], [82, 85, 81], [86, 81], [81, 87, 78], [78, 88]] [0, 1, 2, 3, 4, 5, 6, 7, 8, 9, 10, 11, 12, 13, 14, 15, 16, 17, 18, 19, 20, 21] ⟨by kernel_rfl, by kernel_rfl, by kernel_rfl⟩ (by kernel_rfl) (fun s65 p65 l65 tb65 zd65 => ?_)))
  have zd70 := ((zd65.add 0 68 w3_0 rfl).add 1 69 (.bool (a3.isSome)) rfl).add 2 70 (.bool (a3.isSome)) rfl
  refine ji [] (fun (y71 : Bool) e w => ∃ (s : St) (e0 : Env), w = s.w ∧ e = upd (upd (upd (upd (upd (upd (upd (upd (upd e0 0 (pB p0)) 2 (iI a2)) 3 w3_0) 4 w4_0) 11 (pB b40)) 62 v36_0) 63 (iI (((at_ a0.t.Nodes a1).Entries).length : Int))) 64 (iI x47)) 89 (.bool y71) ∧ Kp s0 s ∧ BlF s p0 91 [w0_0, (iI a0.t.Root), (.map (some m0_1)), (iI a0.deep)] 2 ∧ MpF s m0_1 (mset a0.seen a1 true) 4 ∧ BlF s b40 61 [(.bool ((at_ a0.t.Nodes a1).Leaf)), v36_0, v36_1] 42 ∧ RdF Yn s [v36_0] ((at_ a0.t.Nodes a1).Entries) [0] ∧ RdF Yo s [v36_1] ((at_ a0.t.Nodes a1).Kids) [0]) (fun Gj71 Kj71 => ?_) ?_
  ·
   rcases bft (a3.isSome) with hb71 | hb71
   ·
    rw [if_pos hb71]
    rw [hb71] at zd70
    try rw [hb71]
    have K75 := Kx47.st (Ye p60 p63 p65) rfl
    have A76 := A3_0.kp K75
    refine mg fun hg77 => ?_
    obtain ⟨ad77, es77, ead77, he77, ce77⟩ := op_open A76 hb71
    obtain ⟨v77_0, v77_1, rfl, A77_0, A77_1⟩ := op48 he77
    refine Xm 7 [] tb65 ((((zd70.add 3 71 (.agg #[(iI (((at_ ((at_ a0.t.Nodes a1).Entries) x47).Key).Kind)), (iI (((at_ ((at_ a0.t.Nodes a1).Entries) x47).Key).N)), v57_0, v57_1, (iI ((at_ ((at_ a0.t.Nodes a1).Entries) x47).Id))]) rfl).add 4 72 w3_0 rfl).add 5 73 (.pointer (some ad77)) rfl).add 6 74 (.agg #[(iI (((a3.getD default).Key).Kind)), (iI (((a3.getD default).Key).N)), v77_0, v77_1, (iI ((a3.getD default).Id))]) rfl) (Xa (lca_q' ce77 u48 z48 rfl) rfl (Xa (nck_q ead77 rfl rfl rfl rfl rfl rfl) rfl (Xa (Xq w3_0 rfl) rfl (Xa (Xp (es := [(iI (((at_ ((at_ a0.t.Nodes a1).Entries) x47).Key).Kind)), (iI (((at_ ((at_ a0.t.Nodes a1).Entries) x47).Key).N)), v57_0, v57_1, (iI ((at_ ((at_ a0.t.Nodes a1).Entries) x47).Id))]) (B63.st p65 rfl) u48 z48 rfl) rfl (Xa (Xc rfl) rfl (Xa (qv_b (opn_q A76 u111 rfl rfl rfl rfl rfl rfl) hb71) rfl (Xa (Xq w3_0 rfl) rfl Xe))))))) (by kernel_rfl) rfl (fun l82 e82 zd82 => ?_)
    have A84 := A62.st (Xo p63 p65) rfl
    refine clV 44 rfl func50 rfl (impl_compareEntries.calls (Entry.mk ((at_ ((at_ a0.t.Nodes a1).Entries) x47).Key) ((at_ ((at_ a0.t.Nodes a1).Entries) x47).Id)) (Entry.mk ((a3.getD default).Key) ((a3.getD default).Id)) s65.w (mm [0] s65) v57_0 v57_1 v77_0 v77_1 ((Xk (s := s65) A57_0).sub (D := [0]) rfl) A84 ((Xk (s := s65) A77_0).sub (D := [0]) rfl) A77_1) (fun r85 s86 p86 n86 => ?_)
    refine Xh (L' := []) (D' := [0, 1, 4, 5, 3, 6, 2, 2, 7]) zd82 rfl (fun zd87 => ?_)
    have zd90 := ((zd87.add 8 76 (.bool (decide (r85 < (0 : Int)))) rfl).add 9 77 (.bool (decide (r85 < (0 : Int)))) rfl).add 10 78 (.bool (decide (r85 < (0 : Int)))) rfl
    refine ji [] (fun (y91 : Bool × Bool) e w => ∃ (s : St) (e0 : Env), w = s.w ∧ e = upd (upd (upd (upd (upd (upd (upd (upd (upd (upd (upd (upd (upd (upd (upd e0 0 (pB p0)) 2 (iI a2)) 3 w3_0) 4 w4_0) 11 (pB b40)) 62 v36_0) 63 (iI (((at_ a0.t.Nodes a1).Entries).length : Int))) 64 (iI x47)) 71 (.agg #[(iI (((at_ ((at_ a0.t.Nodes a1).Entries) x47).Key).Kind)), (iI (((at_ ((at_ a0.t.Nodes a1).Entries) x47).Key).N)), v57_0, v57_1, (iI ((at_ ((at_ a0.t.Nodes a1).Entries) x47).Id))])) 72 w3_0) 73 (.pointer (some ad77))) 74 (.agg #[(iI (((a3.getD default).Key).Kind)), (iI (((a3.getD default).Key).N)), v77_0, v77_1, (iI ((a3.getD default).Id))])) 75 (iI r85)) 76 (.bool y91.1)) 89 (.bool y91.2) ∧ Kp s0 s ∧ BlF s p0 91 [w0_0, (iI a0.t.Root), (.map (some m0_1)), (iI a0.deep)] 2 ∧ MpF s m0_1 (mset a0.seen a1 true) 4 ∧ BlF s b40 61 [(.bool ((at_ a0.t.Nodes a1).Leaf)), v36_0, v36_1] 42 ∧ RdF Yn s [v36_0] ((at_ a0.t.Nodes a1).Entries) [0] ∧ RdF Ym s [v57_1] (((at_ ((at_ a0.t.Nodes a1).Entries) x47).Key).T) [0] ∧ RdF Ym s [v77_1] (((a3.getD default).Key).T) [0] ∧ RdF Yo s [v36_1] ((at_ a0.t.Nodes a1).Kids) [0]) (fun Gj91 Kj91 => ?_) ?_
    ·
     rcases bft (decide (r85 < (0 : Int))) with hb91 | hb91
     ·
      rw [if_pos hb91]
      rw [hb91] at zd90
      try rw [hb91]
      refine Xu [18, 19, 20, 21] tb65 (((((((zd90.add 11 79 undef rfl).add 12 80 undef rfl).add 13 81 undef rfl).add 14 82 undef rfl).add 15 83 undef rfl).add 16 84 undef rfl).add 17 85 undef rfl) (Xa (Xi rfl) rfl (Xa (Xi rfl) rfl (Xa (Xi rfl) rfl (Xa (Xi rfl) rfl (Xa (Xi rfl) rfl (Xa (Xi rfl) rfl (Xa (Xi rfl) rfl (Xa (Xc rfl) rfl (Xa (Xc rfl) rfl (Xa (qv_b (Xc rfl) hb91) rfl Xe)))))))))) (by kernel_rfl) (by decide) (Xr rfl (Xr rfl (Xr rfl (Xb rfl ?_))))
      exact Kj91 _ _ _ ⟨s86, _, rfl, (ue (ue (ue (ue (ue (ue (ue (ue (ue (ue (ue (ue (ue (ue (ue rfl rfl) rfl) rfl) rfl) rfl) rfl) rfl) rfl) rfl) rfl) rfl) rfl) rfl) rfl) rfl), (K75.st p86 rfl), (Bx47_p0.st (Yf p60 p63 p65 p86) rfl), (Bx47_m0_1.st (Yf p60 p63 p65 p86) rfl), (Bx47_b40.st (Yf p60 p63 p65 p86) rfl), (Cx47_37.st (Yf p60 p63 p65 p86) rfl), (A84.st p86 rfl), (A77_1.st p86 rfl), (Cx47_38.st (Yf p60 p63 p65 p86) rfl)⟩
     rw [if_neg (by rw [hb91]; decide)]
     rw [hb91] at zd90
     try rw [hb91]
     have zd111 := ((zd90.add 11 79 w4_0 rfl).add 12 80 (.bool (a4.isSome)) rfl).add 13 81 (.bool (a4.isSome)) rfl
     refine ji [21] (fun (y112 : Bool × Bool × Bool) e w => ∃ (s : St) (e0 : Env), w = s.w ∧ e = upd (upd (upd (upd (upd (upd (upd (upd (upd (upd (upd (upd (upd (upd (upd (upd (upd (upd (upd e0 0 (pB p0)) 2 (iI a2)) 3 w3_0) 4 w4_0) 11 (pB b40)) 62 v36_0) 63 (iI (((at_ a0.t.Nodes a1).Entries).length : Int))) 64 (iI x47)) 71 (.agg #[(iI (((at_ ((at_ a0.t.Nodes a1).Entries) x47).Key).Kind)), (iI (((at_ ((at_ a0.t.Nodes a1).Entries) x47).Key).N)), v57_0, v57_1, (iI ((at_ ((at_ a0.t.Nodes a1).Entries) x47).Id))])) 72 w3_0) 73 (.pointer (some ad77))) 74 (.agg #[(iI (((a3.getD default).Key).Kind)), (iI (((a3.getD default).Key).N)), v77_0, v77_1, (iI ((a3.getD default).Id))])) 75 (iI r85)) 76 (.bool false)) 78 (.bool false)) 79 w4_0) 80 (.bool y112.1)) 81 (.bool y112.2.1)) 88 (.bool y112.2.2) ∧ Kp s0 s ∧ BlF s p0 91 [w0_0, (iI a0.t.Root), (.map (some m0_1)), (iI a0.deep)] 2 ∧ MpF s m0_1 (mset a0.seen a1 true) 4 ∧ BlF s b40 61 [(.bool ((at_ a0.t.Nodes a1).Leaf)), v36_0, v36_1] 42 ∧ RdF Yn s [v36_0] ((at_ a0.t.Nodes a1).Entries) [0] ∧ RdF Ym s [v57_1] (((at_ ((at_ a0.t.Nodes a1).Entries) x47).Key).T) [0] ∧ RdF Ym s [v77_1] (((a3.getD default).Key).T) [0] ∧ RdF Yo s [v36_1] ((at_ a0.t.Nodes a1).Kids) [0]) (fun Gj112 Kj112 => ?_) ?_
     ·
      rcases bft (a4.isSome) with hb112 | hb112
      ·
       rw [if_pos hb112]
       rw [hb112] at zd111
       try rw [hb112]
       have K116 := K75.st p86 rfl
       have A117 := A4_0.kp K116
       refine mg fun hg118 => ?_
       obtain ⟨ad118, es118, ead118, he118, ce118⟩ := op_open A117 hb112
       obtain ⟨v118_0, v118_1, rfl, A118_0, A118_1⟩ := op48 he118
       refine Xu [18, 19, 20, 21] tb65 ((((zd111.add 14 82 (.agg #[(iI (((at_ ((at_ a0.t.Nodes a1).Entries) x47).Key).Kind)), (iI (((at_ ((at_ a0.t.Nodes a1).Entries) x47).Key).N)), v57_0, v57_1, (iI ((at_ ((at_ a0.t.Nodes a1).Entries) x47).Id))]) rfl).add 15 83 w4_0 rfl).add 16 84 (.pointer (some ad118)) rfl).add 17 85 (.agg #[(iI (((a4.getD default).Key).Kind)), (iI (((a4.getD default).Key).N)), v118_0, v118_1, (iI ((a4.getD default).Id))]) rfl) (Xa (lca_q' ce118 u48 z48 rfl) rfl (Xa (nck_q ead118 rfl rfl rfl rfl rfl rfl) rfl (Xa (Xq w4_0 rfl) rfl (Xa (Xp (es := [(iI (((at_ ((at_ a0.t.Nodes a1).Entries) x47).Key).Kind)), (iI (((at_ ((at_ a0.t.Nodes a1).Entries) x47).Key).N)), v57_0, v57_1, (iI ((at_ ((at_ a0.t.Nodes a1).Entries) x47).Id))]) (B63.st (Xo p65 p86) rfl) u48 z48 rfl) rfl (Xa (Xc rfl) rfl (Xa (qv_b (opn_q A117 u111 rfl rfl rfl rfl rfl rfl) hb112) rfl (Xa (Xq w4_0 rfl) rfl (Xa (Xc rfl) rfl (Xa (Xc rfl) rfl (Xa (qv_b (Xc rfl) hb91) rfl Xe)))))))))) (by kernel_rfl) (by decide) ?_
       have A124 := A84.st p86 rfl
       refine clV 45 rfl func50 rfl (impl_compareEntries.calls (Entry.mk ((at_ ((at_ a0.t.Nodes a1).Entries) x47).Key) ((at_ ((at_ a0.t.Nodes a1).Entries) x47).Id)) (Entry.mk ((a4.getD default).Key) ((a4.getD default).Id)) s86.w (mm [0] s86) v57_0 v57_1 v118_0 v118_1 ((Xk (s := s86) A57_0).sub (D := [0]) rfl) A124 ((Xk (s := s86) A118_0).sub (D := [0]) rfl) A118_1) (fun r125 s126 p126 n126 => ?_)
       refine Xb rfl (Xb rfl ?_)
       exact Kj112 _ _ _ ⟨s126, _, rfl, (ue (ue (ue (ue (ue (ue (ue (ue (ue (ue (ue (ue (ue (ue (ue (ue (ue (ue (ue rfl rfl) rfl) rfl) rfl) rfl) rfl) rfl) rfl) rfl) rfl) rfl) rfl) rfl) rfl) rfl) rfl) rfl) rfl) rfl), (K116.st p126 rfl), (Bx47_p0.st (tr5 p60 p63 p65 p86 p126) rfl), (Bx47_m0_1.st (tr5 p60 p63 p65 p86 p126) rfl), (Bx47_b40.st (tr5 p60 p63 p65 p86 p126) rfl), (Cx47_37.st (tr5 p60 p63 p65 p86 p126) rfl), (A124.st p126 rfl), (A77_1.st (Xo p86 p126) rfl), (Cx47_38.st (tr5 p60 p63 p65 p86 p126) rfl)⟩
      rw [if_neg (by rw [hb112]; decide)]
      rw [hb112] at zd111
      try rw [hb112]
      refine Xu [18, 19, 20, 21] tb65 ((((zd111.add 14 82 undef rfl).add 15 83 undef rfl).add 16 84 undef rfl).add 17 85 undef rfl) (Xa (Xi rfl) rfl (Xa (Xi rfl) rfl (Xa (Xi rfl) rfl (Xa (Xi rfl) rfl (Xa (Xc rfl) rfl (Xa (qv_b (opn_q (A4_0.kp (K75.st p86 rfl)) u111 rfl rfl rfl rfl rfl rfl) hb112) rfl (Xa (Xq w4_0 rfl) rfl (Xa (Xc rfl) rfl (Xa (Xc rfl) rfl (Xa (qv_b (Xc rfl) hb91) rfl Xe)))))))))) (by kernel_rfl) (by decide) (Xr rfl (Xr rfl (Xb rfl ?_)))
      exact Kj112 _ _ _ ⟨s86, _, rfl, (ue (ue (ue (ue (ue (ue (ue (ue (ue (ue (ue (ue (ue (ue (ue (ue (ue (ue (ue rfl rfl) rfl) rfl) rfl) rfl) rfl) rfl) rfl) rfl) rfl) rfl) rfl) rfl) rfl) rfl) rfl) rfl) rfl) rfl), (K75.st p86 rfl), (Bx47_p0.st (Yf p60 p63 p65 p86) rfl), (Bx47_m0_1.st (Yf p60 p63 p65 p86) rfl), (Bx47_b40.st (Yf p60 p63 p65 p86) rfl), (Cx47_37.st (Yf p60 p63 p65 p86) rfl), (A84.st p86 rfl), (A77_1.st p86 rfl), (Cx47_38.st (Yf p60 p63 p65 p86) rfl)⟩
     rintro y112 _ _ ⟨s149, _, rfl, rfl, Ky112, By112_p0, By112_m0_1, By112_b40, Cy112_37, Cy112_58, Cy112_78, Cy112_38⟩
     exact Xb rfl (Kj91 _ _ _ ⟨s149, _, rfl, (ue (ue (ue (ue (ue (ue (ue (ue (ue (ue (ue (ue (ue (ue (ue rfl rfl) rfl) rfl) rfl) rfl) rfl) rfl) rfl) rfl) rfl) rfl) rfl) rfl) rfl) rfl), Ky112, By112_p0, By112_m0_1, By112_b40, Cy112_37, Cy112_58, Cy112_78, Cy112_38⟩)
    rintro y91 _ _ ⟨s153, _, rfl, rfl, Ky91, By91_p0, By91_m0_1, By91_b40, Cy91_37, Cy91_58, Cy91_78, Cy91_38⟩
    exact Kj71 _ _ _ ⟨s153, _, rfl, (ue (ue (ue (ue (ue (ue (ue (ue (ue rfl rfl) rfl) rfl) rfl) rfl) rfl) rfl) rfl) rfl), Ky91, By91_p0, By91_m0_1, By91_b40, Cy91_37, Cy91_38⟩
   rw [if_neg (by rw [hb71]; decide)]
   rw [hb71] at zd70
   try rw [hb71]
   have zd169 := ((((((((((zd70.add 3 71 undef rfl).add 4 72 undef rfl).add 5 73 undef rfl).add 6 74 undef rfl).add 7 75 undef rfl).add 8 76 undef rfl).add 9 77 (.bool false) rfl).add 10 78 (.bool false) rfl).add 11 79 w4_0 rfl).add 12 80 (.bool (a4.isSome)) rfl).add 13 81 (.bool (a4.isSome)) rfl
   refine ji [21] (fun (y170 : Bool × Bool × Bool) e w => ∃ (s : St) (e0 : Env), w = s.w ∧ e = upd (upd (upd (upd (upd (upd (upd (upd (upd (upd (upd (upd (upd e0 0 (pB p0)) 2 (iI a2)) 3 w3_0) 4 w4_0) 11 (pB b40)) 62 v36_0) 63 (iI (((at_ a0.t.Nodes a1).Entries).length : Int))) 64 (iI x47)) 78 (.bool false)) 79 w4_0) 80 (.bool y170.1)) 81 (.bool y170.2.1)) 88 (.bool y170.2.2) ∧ Kp s0 s ∧ BlF s p0 91 [w0_0, (iI a0.t.Root), (.map (some m0_1)), (iI a0.deep)] 2 ∧ MpF s m0_1 (mset a0.seen a1 true) 4 ∧ BlF s b40 61 [(.bool ((at_ a0.t.Nodes a1).Leaf)), v36_0, v36_1] 42 ∧ RdF Yn s [v36_0] ((at_ a0.t.Nodes a1).Entries) [0] ∧ RdF Yo s [v36_1] ((at_ a0.t.Nodes a1).Kids) [0]) (fun Gj170 Kj170 => ?_) ?_
   ·
    rcases bft (a4.isSome) with hb170 | hb170
    ·
     rw [if_pos hb170]
     rw [hb170] at zd169
     try rw [hb170]
     have K174 := Kx47.st (Ye p60 p63 p65) rfl
     have A175 := A4_0.kp K174
     refine mg fun hg176 => ?_
     obtain ⟨ad176, es176, ead176, he176, ce176⟩ := op_open A175 hb170
     obtain ⟨v176_0, v176_1, rfl, A176_0, A176_1⟩ := op48 he176
     refine Xu [18, 19, 20, 21] tb65 ((((zd169.add 14 82 (.agg #[(iI (((at_ ((at_ a0.t.Nodes a1).Entries) x47).Key).Kind)), (iI (((at_ ((at_ a0.t.Nodes a1).Entries) x47).Key).N)), v57_0, v57_1, (iI ((at_ ((at_ a0.t.Nodes a1).Entries) x47).Id))]) rfl).add 15 83 w4_0 rfl).add 16 84 (.pointer (some ad176)) rfl).add 17 85 (.agg #[(iI (((a4.getD default).Key).Kind)), (iI (((a4.getD default).Key).N)), v176_0, v176_1, (iI ((a4.getD default).Id))]) rfl) (Xa (lca_q' ce176 u48 z48 rfl) rfl (Xa (nck_q ead176 rfl rfl rfl rfl rfl rfl) rfl (Xa (Xq w4_0 rfl) rfl (Xa (Xp (es := [(iI (((at_ ((at_ a0.t.Nodes a1).Entries) x47).Key).Kind)), (iI (((at_ ((at_ a0.t.Nodes a1).Entries) x47).Key).N)), v57_0, v57_1, (iI ((at_ ((at_ a0.t.Nodes a1).Entries) x47).Id))]) (B63.st p65 rfl) u48 z48 rfl) rfl (Xa (Xc rfl) rfl (Xa (qv_b (opn_q A175 u111 rfl rfl rfl rfl rfl rfl) hb170) rfl (Xa (Xq w4_0 rfl) rfl (Xa (Xc rfl) rfl (Xa (Xc rfl) rfl (Xa (Xi rfl) rfl (Xa (Xi rfl) rfl (Xa (Xi rfl) rfl (Xa (Xi rfl) rfl (Xa (Xi rfl) rfl (Xa (Xi rfl) rfl (Xa (Xc rfl) rfl (Xa (qv_b (opn_q (A3_0.kp K174) u111 rfl rfl rfl rfl rfl rfl) hb71) rfl (Xa (Xq w3_0 rfl) rfl Xe)))))))))))))))))) (by kernel_rfl) (by decide) (clV 46 rfl func50 rfl (impl_compareEntries.calls (Entry.mk ((at_ ((at_ a0.t.Nodes a1).Entries) x47).Key) ((at_ ((at_ a0.t.Nodes a1).Entries) x47).Id)) (Entry.mk ((a4.getD default).Key) ((a4.getD default).Id)) s65.w (mm [0] s65) v57_0 v57_1 v176_0 v176_1 ((Xk (s := s65) A57_0).sub (D := [0]) rfl) (A62.st (Xo p63 p65) rfl) ((Xk (s := s65) A176_0).sub (D := [0]) rfl) A176_1) (fun r184 s185 p185 n185 => ?_))
     refine Xb rfl (Xb rfl ?_)
     exact Kj170 _ _ _ ⟨s185, _, rfl, (ue (ue (ue (ue (ue (ue (ue (ue (ue (ue (ue (ue (ue rfl rfl) rfl) rfl) rfl) rfl) rfl) rfl) rfl) rfl) rfl) rfl) rfl) rfl), (K174.st p185 rfl), (Bx47_p0.st (Yf p60 p63 p65 p185) rfl), (Bx47_m0_1.st (Yf p60 p63 p65 p185) rfl), (Bx47_b40.st (Yf p60 p63 p65 p185) rfl), (Cx47_37.st (Yf p60 p63 p65 p185) rfl), (Cx47_38.st (Yf p60 p63 p65 p185) rfl)⟩
    rw [if_neg (by rw [hb170]; decide)]
    rw [hb170] at zd169
    try rw [hb170]
    refine Xu [18, 19, 20, 21] tb65 ((((zd169.add 14 82 undef rfl).add 15 83 undef rfl).add 16 84 undef rfl).add 17 85 undef rfl) (Xa (Xi rfl) rfl (Xa (Xi rfl) rfl (Xa (Xi rfl) rfl (Xa (Xi rfl) rfl (Xa (Xc rfl) rfl (Xa (qv_b (opn_q (A4_0.kp (Kx47.st (Ye p60 p63 p65) rfl)) u111 rfl rfl rfl rfl rfl rfl) hb170) rfl (Xa (Xq w4_0 rfl) rfl (Xa (Xc rfl) rfl (Xa (Xc rfl) rfl (Xa (Xi rfl) rfl (Xa (Xi rfl) rfl (Xa (Xi rfl) rfl (Xa (Xi rfl) rfl (Xa (Xi rfl) rfl (Xa (Xi rfl) rfl (Xa (Xc rfl) rfl (Xa (qv_b (opn_q (A3_0.kp (Kx47.st (Ye p60 p63 p65) rfl)) u111 rfl rfl rfl rfl rfl rfl) hb71) rfl (Xa (Xq w3_0 rfl) rfl Xe)))))))))))))))))) (by kernel_rfl) (by decide) (Xr rfl (Xr rfl (Xb rfl ?_)))
    exact Kj170 _ _ _ ⟨s65, _, rfl, (ue (ue (ue (ue (ue (ue (ue (ue (ue (ue (ue (ue (ue rfl rfl) rfl) rfl) rfl) rfl) rfl) rfl) rfl) rfl) rfl) rfl) rfl) rfl), (Kx47.st (Ye p60 p63 p65) rfl), (Bx47_p0.st (Ye p60 p63 p65) rfl), (Bx47_m0_1.st (Ye p60 p63 p65) rfl), (Bx47_b40.st (Ye p60 p63 p65) rfl), (Cx47_37.st (Ye p60 p63 p65) rfl), (Cx47_38.st (Ye p60 p63 p65) rfl)⟩
   rintro y170 _ _ ⟨s206, _, rfl, rfl, Ky170, By170_p0, By170_m0_1, By170_b40, Cy170_37, Cy170_38⟩
   exact Xb rfl (Kj71 _ _ _ ⟨s206, _, rfl, (ue (ue (ue (ue (ue (ue (ue (ue (ue rfl rfl) rfl) rfl) rfl) rfl) rfl) rfl) rfl) rfl), Ky170, By170_p0, By170_m0_1, By170_b40, Cy170_37, Cy170_38⟩)
  rintro y71 _ _ ⟨s210, _, rfl, rfl, Ky71, By71_p0, By71_m0_1, By71_b40, Cy71_37, Cy71_38⟩
  refine dn (cd rfl (fun h214 => ?_) (fun h214 => ?_))
  ·
   exact sr (Xb rfl (dn (sgi (re rfl func47 rfl (Xv rfl Xg) rfl ⟨_, rfl, s210, rfl, rfl, Ky71, By71_p0, By71_m0_1⟩))))
  exact sk (ib (rg (Xb rfl (Xb rfl (dn (lb ih47 ⟨s210, _, rfl, (ue (ue (ue (ue (ue (ue (ue (ue rfl rfl) rfl) rfl) rfl) rfl) rfl) rfl) rfl), Ky71, By71_p0, By71_m0_1, By71_b40, Cy71_37, Cy71_38⟩))))))
 refine xt rfl (sgb (sq (sr (Xs fa61_0 rfl (Yb Bx47_b40 u4 rfl (dn (cd rfl (fun h215 => ?_) (fun h215 => ?_))))))))
 ·
  refine sq (sr (Xb rfl (Xb rfl (Xs fa91_2 rfl (Yb Bx47_p0 u3 rfl (Xb rfl (dn (jc (fun (y216 : Int) e w => ∃ (s : St) (e0 : Env), w = s.w ∧ e = upd (upd e0 0 (pB p0)) 2 (iI a2) ∧ Kp s0 s ∧ BlF s p0 91 [w0_0, (iI a0.t.Root), (.map (some m0_1)), (iI y216)] 2 ∧ MpF s m0_1 (mset a0.seen a1 true) 4) (fun Gj216 Kj216 => ?_) ?_))))))))
  ·
   refine cd rfl (fun h217 => ?_) (fun h217 => ?_)
   ·
    refine rg (Xb rfl (Xb rfl (Xb rfl (Xs fa91_2 rfl (sv' Bx47_p0 z3 rfl rfl rfl (fun s218 p218 B218 => ?_))))))
    exact dn (Kj216 _ _ _ ⟨s218, _, rfl, (ue (ue rfl rfl) rfl), (Kx47.st p218 rfl), B218, (Bx47_m0_1.st p218 rfl)⟩)
   exact sk (Kj216 _ _ _ ⟨s52, _, rfl, (ue (ue rfl rfl) rfl), Kx47, Bx47_p0, Bx47_m0_1⟩)
  rintro y216 _ _ ⟨s222, _, rfl, rfl, Ky216, By216_p0, By216_m0_1⟩
  exact sr (Xb rfl (Xb rfl (Xs fa91_2 rfl (Yb By216_p0 u3 rfl (Xb rfl (Xb rfl (Xb rfl (dn (re rfl func47 rfl (Xv rfl Xg) rfl ⟨_, rfl, s222, rfl, rfl, Ky216, By216_p0, By216_m0_1⟩)))))))))
 refine sk (sq (sr (Xs fa61_2 rfl (Yb Bx47_b40 u59 rfl (ln' Cx47_38 u59 rfl (Xb rfl (dn (bl (lpI (fun (x225 : Int × Int × Int × MD) e w => ∃ (s : St) (e0 : Env), w = s.w ∧ e = upd (upd (upd (upd (upd (upd (upd (upd e0 0 (pB p0)) 2 (iI a2)) 3 w3_0) 4 w4_0) 11 (pB b40)) 109 v36_1) 110 (iI (((at_ a0.t.Nodes a1).Kids).length : Int))) 111 (iI x225.1) ∧ Kp s0 s ∧ BlF s p0 91 [w0_0, (iI x225.2.1), (.map (some m0_1)), (iI x225.2.2.1)] 2 ∧ MpF s m0_1 x225.2.2.2 4 ∧ BlF s b40 61 [(.bool ((at_ a0.t.Nodes a1).Leaf)), v36_0, v36_1] 42 ∧ RdF Yo s [v36_1] ((at_ a0.t.Nodes a1).Kids) [0] ∧ RdF Yn s [v36_0] ((at_ a0.t.Nodes a1).Entries) [0]) ⟨s52, _, rfl, (ue (ue (ue (ue (ue (ue (ue (ue rfl rfl) rfl) rfl) rfl) rfl) rfl) rfl) rfl), Kx47, Bx47_p0, Bx47_m0_1, Bx47_b40, Cx47_38, Cx47_37⟩ (fun g225 ih225 => ?_))))))))))
 rintro x225 _ _ ⟨s226, _, rfl, rfl, Kx225, Bx225_p0, Bx225_m0_1, Bx225_b40, Cx225_38, Cx225_37⟩
 unfold impl_treeCheck_check.b1
 refine sr (Xb rfl (dn (sq (cd rfl (fun h230 => ?_) (fun h230 => ?_)))))
 ·
  refine sk (sq (bl (sr (Xb rfl (ix' Cx225_38 u59 z3 rfl (fun ad231 es231 h0_231 h1_231 he231 ce231 ia231 => ?_))))))
  obtain rfl := he231
  refine lc0 ce231 u3 rfl rfl rfl rfl rfl rfl rfl rfl (Xb rfl (Xb rfl (dn (sr (Xw w3_0 rfl (Xw w4_0 rfl (asg' w3_0 rfl (asg' w4_0 rfl (dn (sq (sr (Xb rfl (Xb rfl (dn ?_))))))))))))))
  refine jc (fun (y233 : (Option Entry)) e w => ∃ (s : St) (e0 : Env) (vy233_0 : Value), w = s.w ∧ e = upd (upd (upd (upd (upd (upd (upd (upd (upd (upd (upd (upd e0 0 (pB p0)) 2 (iI a2)) 3 w3_0) 4 w4_0) 11 (pB b40)) 14 (iI x225.1)) 15 (iI (at_ ((at_ a0.t.Nodes a1).Kids) x225.1))) 16 vy233_0) 17 w4_0) 109 v36_1) 110 (iI (((at_ a0.t.Nodes a1).Kids).length : Int))) 111 (iI x225.1) ∧ Kp s0 s ∧ RdF (Kd.op kd48) s [vy233_0] y233 [0] ∧ BlF s p0 91 [w0_0, (iI x225.2.1), (.map (some m0_1)), (iI x225.2.2.1)] 2 ∧ MpF s m0_1 x225.2.2.2 4 ∧ BlF s b40 61 [(.bool ((at_ a0.t.Nodes a1).Leaf)), v36_0, v36_1] 42 ∧ RdF Yo s [v36_1] ((at_ a0.t.Nodes a1).Kids) [0] ∧ RdF Yn s [v36_0] ((at_ a0.t.Nodes a1).Entries) [0]) (fun Gj233 Kj233 => ?_) ?_
  ·
   refine cd rfl (fun h234 => ?_) (fun h234 => ?_)
   ·
    refine rg (Xs fa61_1 rfl (Yb Bx225_b40 u52 rfl (Xb rfl (Xb rfl (ix' Cx225_37 u52 z48 rfl (fun ad235 es235 h0_235 h1_235 he235 ce235 ia235 => ?_))))))
    obtain ⟨v235_0, v235_1, rfl, A235_0, A235_1⟩ := op48 he235
    exact asg' (.pointer (some ad235)) rfl (dn (Kj233 _ _ _ ⟨s226, _, (.pointer (some ad235)), rfl, (ue (ue (ue (ue (ue (ue (ue (ue (ue (ue (ue (ue rfl rfl) rfl) rfl) rfl) rfl) rfl) rfl) rfl) rfl) rfl) rfl) rfl), Kx225, (op_some (K := kd48) (x := (at_ ((at_ a0.t.Nodes a1).Entries) (IntKind.wrap .i64 (x225.1 - (1 : Int))))) [0] (mk48 (x := (Entry.mk ((at_ ((at_ a0.t.Nodes a1).Entries) (IntKind.wrap .i64 (x225.1 - (1 : Int)))).Key) ((at_ ((at_ a0.t.Nodes a1).Entries) (IntKind.wrap .i64 (x225.1 - (1 : Int)))).Id))) A235_0 A235_1) ce235 rfl rfl rfl), Bx225_p0, Bx225_m0_1, Bx225_b40, Cx225_38, Cx225_37⟩))
   exact sk (Kj233 _ _ _ ⟨s226, _, w3_0, rfl, (ue (ue (ue (ue (ue (ue (ue (ue (ue (ue (ue (ue rfl rfl) rfl) rfl) rfl) rfl) rfl) rfl) rfl) rfl) rfl) rfl) rfl), Kx225, (A3_0.kp Kx225), Bx225_p0, Bx225_m0_1, Bx225_b40, Cx225_38, Cx225_37⟩)
  rintro y233 _ _ ⟨s241, _, vy233_0, rfl, rfl, Ky233, Ay233_0, By233_p0, By233_m0_1, By233_b40, Cy233_38, Cy233_37⟩
  refine sq (sr (Xb rfl (Xs fa61_1 rfl (Yb By233_b40 u52 rfl (ln' Cy233_37 u52 rfl (Xb rfl (dn (jc (fun (y246 : (Option Entry)) e w => ∃ (s : St) (e0 : Env) (vy246_0 : Value), w = s.w ∧ e = upd (upd (upd (upd (upd (upd (upd (upd (upd (upd (upd e0 0 (pB p0)) 2 (iI a2)) 3 w3_0) 4 w4_0) 11 (pB b40)) 15 (iI (at_ ((at_ a0.t.Nodes a1).Kids) x225.1))) 16 vy233_0) 17 vy246_0) 109 v36_1) 110 (iI (((at_ a0.t.Nodes a1).Kids).length : Int))) 111 (iI x225.1) ∧ Kp s0 s ∧ RdF (Kd.op kd48) s [vy246_0] y246 [0] ∧ BlF s p0 91 [w0_0, (iI x225.2.1), (.map (some m0_1)), (iI x225.2.2.1)] 2 ∧ MpF s m0_1 x225.2.2.2 4 ∧ BlF s b40 61 [(.bool ((at_ a0.t.Nodes a1).Leaf)), v36_0, v36_1] 42 ∧ RdF (Kd.op kd48) s [vy233_0] y233 [0] ∧ RdF Yo s [v36_1] ((at_ a0.t.Nodes a1).Kids) [0] ∧ RdF Yn s [v36_0] ((at_ a0.t.Nodes a1).Entries) [0]) (fun Gj246 Kj246 => ?_) ?_))))))))
  ·
   refine cd rfl (fun h247 => ?_) (fun h247 => ?_)
   ·
    refine rg (Xs fa61_1 rfl (Yb By233_b40 u52 rfl (Xb rfl (ix' Cy233_37 u52 z48 rfl (fun ad248 es248 h0_248 h1_248 he248 ce248 ia248 => ?_)))))
    obtain ⟨v248_0, v248_1, rfl, A248_0, A248_1⟩ := op48 he248
    exact asg' (.pointer (some ad248)) rfl (dn (Kj246 _ _ _ ⟨s241, _, (.pointer (some ad248)), rfl, (ue (ue (ue (ue (ue (ue (ue (ue (ue (ue (ue rfl rfl) rfl) rfl) rfl) rfl) rfl) rfl) rfl) rfl) rfl) rfl), Ky233, (op_some (K := kd48) (x := (at_ ((at_ a0.t.Nodes a1).Entries) x225.1)) [0] (mk48 (x := (Entry.mk ((at_ ((at_ a0.t.Nodes a1).Entries) x225.1).Key) ((at_ ((at_ a0.t.Nodes a1).Entries) x225.1).Id))) A248_0 A248_1) ce248 rfl rfl rfl), By233_p0, By233_m0_1, By233_b40, Ay233_0, Cy233_38, Cy233_37⟩))
   exact sk (Kj246 _ _ _ ⟨s241, _, w4_0, rfl, (ue (ue (ue (ue (ue (ue (ue (ue (ue (ue (ue rfl rfl) rfl) rfl) rfl) rfl) rfl) rfl) rfl) rfl) rfl) rfl), Ky233, (A4_0.kp Ky233), By233_p0, By233_m0_1, By233_b40, Ay233_0, Cy233_38, Cy233_37⟩)
  rintro y246 _ _ ⟨s254, _, vy246_0, rfl, rfl, Ky246, Ay246_0, By246_p0, By246_m0_1, By246_b40, Cy246_242, Cy246_38, Cy246_37⟩
  refine sr (Xb rfl (Xb rfl (Xb rfl (Xb rfl (Xw vy233_0 rfl (Xw vy246_0 rfl ?_))))))
  refine cl' rfl func47 rfl (fun r260 m260 => hR (treeCheck.mk (Tree.mk a0.t.Nodes x225.2.1) x225.2.2.2 x225.2.2.1) (at_ ((at_ a0.t.Nodes a1).Kids) x225.1) (IntKind.wrap .i64 (a2 + (1 : Int))) y233 y246 (vw [0] [(4, 4), (2, 2)] s254) (vw_lt rfl) p0 w0_0 m0_1 vy233_0 vy246_0 (RdF.vw (A0_0.kp Ky246) rfl) (MpF.vw By246_m0_1 rfl (by simp)) (BlF.vw By246_p0 rfl (by simp)) (RdF.vw Cy246_242 rfl) (RdF.vw Ay246_0 rfl) r260 m260) ?_
  rintro r260 _ _ m260 ⟨t260, rfl, rfl, kp260, bw260, uf260_0⟩
  have hw261 : t260.w = (bk [(4, 4), (2, 2)] 47 s254 t260).w := rfl
  have p261 := bk_st (D := [0]) (M := [(4, 4), (2, 2)]) (cn := 47) rfl kp260
  have B261 := BlF.bk (D := [0]) (M := [(4, 4), (2, 2)]) (cn := 47) (c := 2) bw260 rfl (by simp) kp260
  have U261_0 := MpF.bk (D := [0]) (M := [(4, 4), (2, 2)]) (cn := 47) (c := 4) uf260_0 rfl (by simp) kp260
  generalize bk [(4, 4), (2, 2)] 47 s254 t260 = s261 at hw261 p261 B261 U261_0
  rw [hw261]
  refine Xb rfl (dn (cd rfl (fun h264 => ?_) (fun h264 => ?_)))
  ·
   refine sr (Xb rfl (dn (sgi ?_)))
   exact re rfl func47 rfl (Xv rfl Xg) rfl ⟨_, rfl, s261, rfl, rfl, (Ky246.st p261 rfl), B261, U261_0⟩
  refine sk (ib (rg (Xb rfl (Xb rfl (dn ?_)))))
  exact lb ih225 ⟨s261, _, rfl, (ue (ue (ue (ue (ue (ue (ue (ue rfl rfl) rfl) rfl) rfl) rfl) rfl) rfl) rfl), (Ky246.st p261 rfl), B261, U261_0, (By246_b40.st p261 rfl), (Cy246_38.st p261 rfl), (Cy246_37.st p261 rfl)⟩
 exact xt rfl (sgb (sr (Xb rfl (dn (re rfl func47 rfl (Xv rfl Xg) rfl ⟨_, rfl, s226, rfl, rfl, Kx225, Bx225_p0, Bx225_m0_1⟩)))))
theorem impl_treeCheck_check.callsN : ∀ n : Nat, ∀ (a0 : treeCheck) (a1 : Int) (a2 : Int) (a3 : (Option Entry)) (a4 : (Option Entry)) (s0 : St) (z0 : ∀ b, s0.g b < 40) (p0 : Nat) (w0_0 : Value) (m0_1 : Nat) (w3_0 : Value) (w4_0 : Value) (A0_0 : RdF Yp s0 [w0_0] a0.t.Nodes [0]) (A0_1 : MpF s0 m0_1 a0.seen 4) (B0 : BlF s0 p0 91 [w0_0, (iI a0.t.Root), (.map (some m0_1)), (iI a0.deep)] 2) (A3_0 : RdF (Kd.op kd48) s0 [w3_0] a3 [0]) (A4_0 : RdF (Kd.op kd48) s0 [w4_0] a4 [0]) (r : Bool × treeCheck) (m : impl_treeCheck_check.g n a0 a1 a2 a3 a4 = some r), Calls prog 47 #[(pB p0), (iI a1), (iI a2), w3_0, w4_0] s0.w (RT (impl_treeCheck_check.Q s0 p0 w0_0 m0_1) r)
 | 0 => by intros; rename_i m; cases m
 | n + 1 => impl_treeCheck_check.callsR (impl_treeCheck_check.g n) (impl_treeCheck_check.callsN n)
theorem impl_treeCheck_check.calls : ∀ (a0 : treeCheck) (a1 : Int) (a2 : Int) (a3 : (Option Entry)) (a4 : (Option Entry)) (s0 : St) (z0 : ∀ b, s0.g b < 40) (p0 : Nat) (w0_0 : Value) (m0_1 : Nat) (w3_0 : Value) (w4_0 : Value) (A0_0 : RdF Yp s0 [w0_0] a0.t.Nodes [0]) (A0_1 : MpF s0 m0_1 a0.seen 4) (B0 : BlF s0 p0 91 [w0_0, (iI a0.t.Root), (.map (some m0_1)), (iI a0.deep)] 2) (A3_0 : RdF (Kd.op kd48) s0 [w3_0] a3 [0]) (A4_0 : RdF (Kd.op kd48) s0 [w4_0] a4 [0]) (r : Bool × treeCheck) (m : impl_treeCheck_check.f a0 a1 a2 a3 a4 = some r), Calls prog 47 #[(pB p0), (iI a1), (iI a2), w3_0, w4_0] s0.w (RT (impl_treeCheck_check.Q s0 p0 w0_0 m0_1) r) := impl_treeCheck_check.callsN 1000
def impl_TreeOk.f (a0 : Tree) : Option (Bool) :=
 ((impl_within.f (a0.Nodes.length : Int) (1 : Int) (300 : Int)).bind fun r6 => (if (!r6) = true then (some false) else ((impl_treeCheck_check.f (treeCheck.mk a0 ([] : MD) (0 : Int)) a0.Root (1 : Int) (none : (Option Entry)) (none : (Option Entry))).bind fun r26 => ((if r26.1 = true then (some ((r26.2.seen.length : Int) == (a0.Nodes.length : Int))) else (some false)).bind fun y32 => (some y32)))))
def impl_TreeOk.Q (w : World) (F : Nat → Prop) (r : Bool) (v : Value) (w' : World) : Prop :=
 v = (.bool r) ∧ Ky [] w w'
theorem impl_TreeOk.calls (a0 : Tree) (w : World) (F : Nat → Prop) (w0_0 : Value) (h0_0 : Yp.rd w [w0_0] a0.Nodes F) (r : Bool) (m : impl_TreeOk.f a0 = some r) :
  Calls prog 27 #[(.agg #[w0_0, (iI a0.Root)])] w (RT (impl_TreeOk.Q w F) r) := by
 obtain ⟨s0, rfl, kp0, z⟩ := Xn w F
 have A0_0 := z.rd h0_0
 refine Xf (args := [(.agg #[w0_0, (iI a0.Root)])]) func27 ntmps27 rfl rfl m ?_
 unfold impl_TreeOk.f
 refine sr (bx' (cs := [w0_0, (iI a0.Root)]) 40 rfl rfl (fun b2 s2 p2 B2 => ?_))
 refine Xb rfl (dn (sq (sr (Xs fa33_0 rfl (Yb B2 u31 rfl ?_)))))
 have K4 := kp0.st p2 rfl
 refine ln' (A0_0.kp K4) u31 rfl (clV 41 rfl func46 rfl (impl_within.calls (a0.Nodes.length : Int) (1 : Int) (300 : Int) s2.w (mm [] s2)) (fun r6 s7 p7 n7 => ?_))
 refine Xb rfl (dn (cd rfl (fun h8 => ?_) (fun h8 => ?_)))
 ·
  refine sr (Xb rfl (dn ?_))
  exact re rfl func27 rfl (Xv rfl Xg) rfl ⟨_, rfl, rfl, z.ky (K4.st p7 rfl)⟩
 refine sk (sr ?_)
 have A10 := B2.st p7 rfl
 refine Yl (es := [w0_0, (iI a0.Root)]) A10 u33 z33 rfl (mkm 42 rfl rfl rfl rfl rfl (fun b11 s11 p11 B11 => ?_))
 refine bd (cells := [w0_0, (iI a0.Root), (.map (some b11)), (iI 0)]) pl91 o91 rfl rfl rfl rfl rfl rfl (bx' (cs := [w0_0, (iI a0.Root), (.map (some b11)), (iI 0)]) 43 rfl rfl (fun b13 s13 p13 B13 => ?_))
 refine Xb rfl (dn (sq (Ya [[], [], [1], [0, 2], [3, 3], [4], [5, 4], [6, 4], [7, 4], [8, 4, 4], [4], [10, 4], [11, 4], [9, 12, 4], [4, 13], [14, 9, 0, 1, 2, 3, 4, 5, 6, 7, 8, 9, 10, 11, 12, 13, 14]] [some 13, some 14, some 15, some 16, some 17, some 18, some 19, some 20, some 21, some 22, some 23, some 24, some 25, some 26, some 27, some 2] [[3], [1], [14], [13, 15], [16], [3, 17], [18, 17], [19, 17], [20, 17], [21, 17], [1, 17], [23, 17], [24, 17], [22, 25, 17], [17, 26], [27]] [0, 1, 2, 3, 4, 5, 6, 7, 8, 9, 10, 11, 12, 13, 14, 15] ⟨by kernel_rfl, by kernel_rfl, by kernel_rfl⟩ (by kernel_rfl) (fun s15 p15 l15 tb15 zd15 => ?_))))
 refine Xm 3 [] tb15 (((zd15.add 0 13 (pB b13) rfl).add 1 14 (pO b2 1) rfl).add 2 15 (iI a0.Root) rfl) (Xa (Xl (A10.st (Ye p11 p13 p15) rfl) u3 rfl) rfl (Xa (Xj fa33_1 rfl) rfl (Xa (Xc rfl) rfl Xe))) (by kernel_rfl) rfl (fun l20 e20 zd20 => ?_)
 have K22 := K4.st (Yf p7 p11 p13 p15) rfl
 refine cl' rfl func47 rfl (impl_treeCheck_check.calls (treeCheck.mk a0 ([] : MD) (0 : Int)) a0.Root (1 : Int) (none : (Option Entry)) (none : (Option Entry)) (vw [0] [(42, 4), (43, 2)] s15) (vw_lt rfl) b13 w0_0 b11 (.pointer none) (.pointer none) (RdF.vw (A0_0.kp K22) rfl) (MpF.vw (B11.st (Xo p13 p15) rfl) rfl (by simp)) (BlF.vw (B13.st p15 rfl) rfl (by simp)) (RdF.vw (rdp_nil kd48 s15 []) rfl) (RdF.vw (rdp_nil kd48 s15 []) rfl)) ?_
 rintro r26 _ _ m26 ⟨t26, rfl, rfl, kp26, bw26, uf26_0⟩
 have hw27 : t26.w = (bk [(42, 4), (43, 2)] 44 s15 t26).w := rfl
 have p27 := bk_st (D := [0]) (M := [(42, 4), (43, 2)]) (cn := 44) rfl kp26
 have B27 := BlF.bk (D := [0]) (M := [(42, 4), (43, 2)]) (cn := 44) (c := 43) bw26 rfl (by simp) kp26
 have U27_0 := MpF.bk (D := [0]) (M := [(42, 4), (43, 2)]) (cn := 44) (c := 42) uf26_0 rfl (by simp) kp26
 generalize bk [(42, 4), (43, 2)] 44 s15 t26 = s27 at hw27 p27 B27 U27_0
 rw [hw27]
 refine Xh (L' := []) (D' := [1, 0, 2, 3]) zd20 rfl (fun zd30 => ?_)
 have zd31 := zd30.add 4 17 (.bool r26.1) rfl
 refine ji [15] (fun (y32 : Bool) e w => ∃ (s : St) (e0 : Env), w = s.w ∧ e = upd e0 27 (.bool y32) ∧ Kp s0 s) (fun Gj32 Kj32 => ?_) ?_
 ·
  rcases bft r26.1 with hb32 | hb32
  ·
   rw [if_pos hb32]
   rw [hb32] at zd31
   try rw [hb32]
   refine Xu [13, 14, 15] tb15 ((((((((zd31.add 5 18 (pB b13) rfl).add 6 19 (pB b13) rfl).add 7 20 (pO b13 2) rfl).add 8 21 (.map (some b11)) rfl).add 9 22 (iI (r26.2.seen.length : Int)) rfl).add 10 23 (pB b2) rfl).add 11 24 w0_0 rfl).add 12 25 (iI (a0.Nodes.length : Int)) rfl) (Xa (ln_q' (A0_0.kp (K22.st p27 rfl)) u31 rfl) rfl (Xa (Xl (A10.st (Yf p11 p13 p15 p27) rfl) u31 rfl) rfl (Xa (Xj fa33_0 rfl) rfl (Xa (lnm_q U27_0 u89 rfl rfl rfl rfl rfl rfl) rfl (Xa (Xl B27 u89 rfl) rfl (Xa (Xj fa91_1 rfl) rfl (Xa (Xc rfl) rfl (Xa (Xc rfl) rfl (Xa (Xc rfl) rfl Xe))))))))) (by kernel_rfl) (by decide) (Xb rfl (Xb rfl ?_))
   exact Kj32 _ _ _ ⟨s27, _, rfl, (ue rfl rfl), (K22.st p27 rfl)⟩
  rw [if_neg (by rw [hb32]; decide)]
  rw [hb32] at zd31
  try rw [hb32]
  refine Xu [13, 14, 15] tb15 ((((((((zd31.add 5 18 undef rfl).add 6 19 undef rfl).add 7 20 undef rfl).add 8 21 undef rfl).add 9 22 undef rfl).add 10 23 undef rfl).add 11 24 undef rfl).add 12 25 undef rfl) (Xa (Xi rfl) rfl (Xa (Xi rfl) rfl (Xa (Xi rfl) rfl (Xa (Xi rfl) rfl (Xa (Xi rfl) rfl (Xa (Xi rfl) rfl (Xa (Xi rfl) rfl (Xa (Xi rfl) rfl (Xa (Xc rfl) rfl Xe))))))))) (by kernel_rfl) (by decide) (Xr rfl (Xb rfl ?_))
  exact Kj32 _ _ _ ⟨s27, _, rfl, (ue rfl rfl), (K22.st p27 rfl)⟩
 rintro y32 _ _ ⟨s57, _, rfl, rfl, Ky32⟩
 exact Xb rfl (dn (re rfl func27 rfl (Xv rfl Xg) rfl ⟨_, rfl, rfl, z.ky Ky32⟩))
def impl_Tree_way.b1 (a0 : Tree) (a1 : Entry) (x10 : (List Int) × (List Int)) (x57 : Int) : Option (Int ⊕ ((List Int) × (List Int) ⊕ (List Int) × (List Int))) :=
 ((if (decide (x57 < (((at_ a0.Nodes (at_ x10.1 (IntKind.wrap .i64 ((x10.1.length : Int) - (1 : Int))))).Entries).length : Int))) = true then (if 0 ≤ x57 ∧ x57 < (((at_ a0.Nodes (at_ x10.1 (IntKind.wrap .i64 ((x10.1.length : Int) - (1 : Int))))).Entries).length : Int) then ((impl_compareEntries.f (Entry.mk ((at_ ((at_ a0.Nodes (at_ x10.1 (IntKind.wrap .i64 ((x10.1.length : Int) - (1 : Int))))).Entries) x57).Key) ((at_ ((at_ a0.Nodes (at_ x10.1 (IntKind.wrap .i64 ((x10.1.length : Int) - (1 : Int))))).Entries) x57).Id)) a1).bind fun r96 => (some (decide (r96 ≤ (0 : Int))))) else none) else (some false)).bind fun y78 => (if y78 = true then (some (Sum.inl (IntKind.wrap .i64 (x57 + (1 : Int))))) else ((if x10.2.length + ([x57]).length ≤ Lim then (if (at_ a0.Nodes (at_ x10.1 (IntKind.wrap .i64 ((x10.1.length : Int) - (1 : Int))))).Leaf = true then (some (Sum.inr (x10.1, (x10.2 ++ [x57])))) else (if 0 ≤ x57 ∧ x57 < (((at_ a0.Nodes (at_ x10.1 (IntKind.wrap .i64 ((x10.1.length : Int) - (1 : Int))))).Kids).length : Int) then (if x10.1.length + ([(at_ ((at_ a0.Nodes (at_ x10.1 (IntKind.wrap .i64 ((x10.1.length : Int) - (1 : Int))))).Kids) x57)]).length ≤ Lim then (some (Sum.inl ((x10.1 ++ [(at_ ((at_ a0.Nodes (at_ x10.1 (IntKind.wrap .i64 ((x10.1.length : Int) - (1 : Int))))).Kids) x57)]), (x10.2 ++ [x57])))) else none) else none)) else none).bind fun o => some (Sum.inr o))))
def impl_Tree_way.b0 (a0 : Tree) (a1 : Entry) (x10 : (List Int) × (List Int)) : Option (((List Int) × (List Int)) ⊕ ((List Int) × (List Int))) :=
 (if 0 ≤ (IntKind.wrap .i64 ((x10.1.length : Int) - (1 : Int))) ∧ (IntKind.wrap .i64 ((x10.1.length : Int) - (1 : Int))) < (x10.1.length : Int) then (if 0 ≤ (at_ x10.1 (IntKind.wrap .i64 ((x10.1.length : Int) - (1 : Int)))) ∧ (at_ x10.1 (IntKind.wrap .i64 ((x10.1.length : Int) - (1 : Int)))) < (a0.Nodes.length : Int) then (iter (impl_Tree_way.b1 a0 a1 x10) (0 : Int)) else none) else none)
def impl_Tree_way.f (a0 : Tree) (a1 : Entry) : Option ((List Int) × (List Int)) :=
 (iter (impl_Tree_way.b0 a0 a1) ([a0.Root], ([] : (List Int))))
def impl_Tree_way.Q (w : World) (F : Nat → Prop) (r : (List Int) × (List Int)) (v : Value) (w' : World) : Prop :=
 ∃ (v0 : Value) (v1 : Value), v = .tuple #[v0, v1] ∧ FO Yo w w' [v0] r.1 ∧ FO Yo w w' [v1] r.2 ∧ Ky [] w w'
theorem impl_Tree_way.calls (a0 : Tree) (a1 : Entry) (w : World) (F : Nat → Prop) (w0_0 : Value) (w1_0 : Value) (w1_1 : Value) (h0_0 : Yp.rd w [w0_0] a0.Nodes F) (h1_0 : Kd.flt.rd w [w1_0] a1.Key.F F) (h1_1 : Ym.rd w [w1_1] a1.Key.T F) (r : (List Int) × (List Int)) (m : impl_Tree_way.f a0 a1 = some r) :
  Calls prog 49 #[(.agg #[w0_0, (iI a0.Root)]), (.agg #[(iI a1.Key.Kind), (iI a1.Key.N), w1_0, w1_1, (iI a1.Id)])] w (RT (impl_Tree_way.Q w F) r) := by
 obtain ⟨s0, rfl, kp0, z⟩ := Xn w F
 have A0_0 := z.rd h0_0
 have A1_0 := Yj h1_0
 have A1_1 := z.rd h1_1
 refine Xf (args := [(.agg #[w0_0, (iI a0.Root)]), (.agg #[(iI a1.Key.Kind), (iI a1.Key.N), w1_0, w1_1, (iI a1.Id)])]) func49 ntmps49 rfl rfl m ?_
 unfold impl_Tree_way.f
 refine sr (bx' (cs := [w0_0, (iI a0.Root)]) 40 rfl rfl (fun b3 s3 p3 B3 => ?_))
 refine bx' (cs := [(iI a1.Key.Kind), (iI a1.Key.N), w1_0, w1_1, (iI a1.Id)]) 41 rfl rfl (fun b5 s5 p5 B5 => ?_)
 refine Xb rfl (Xb rfl (dn (sr (Xs fa33_1 rfl ?_))))
 have A7 := B3.st p5 rfl
 refine Yb A7 u3 rfl (ltF' (K := (Kd.int .i64)) (cells := [(iI a0.Root)]) [a0.Root] 42 Yd u59 z3 o3 (fun w => (els_flat _ _ _)) rfl (fun v8 s8 p8 A8 => ?_))
 refine asg' v8 rfl (dn (sr (Xb rfl (dn (bl ?_)))))
 refine lpI (fun (x10 : (List Int) × (List Int)) e w => ∃ (s : St) (e0 : Env) (vx10_0 vx10_1 : Value), w = s.w ∧ e = upd (upd (upd (upd e0 2 (pB b3)) 3 (pB b5)) 6 vx10_0) 7 vx10_1 ∧ Kp s0 s ∧ OwF Yo s [vx10_0] x10.1 42 ∧ OwF Yo s [vx10_1] x10.2 44 ∧ BlF s b5 48 [(iI a1.Key.Kind), (iI a1.Key.N), w1_0, w1_1, (iI a1.Id)] 41 ∧ BlF s b3 33 [w0_0, (iI a0.Root)] 40) ⟨s8, _, v8, (.slice none 0 0), rfl, (ue (ue (ue (ue rfl rfl) rfl) rfl) rfl), (kp0.st (Ye p3 p5 p8) rfl), A8, (ow_nil 3 (Kd.int .i64) _ 44), (B5.st p8 rfl), (A7.st p8 rfl)⟩ (fun g10 ih10 => ?_)
 rintro x10 _ _ ⟨s14, _, vx10_0, vx10_1, rfl, rfl, Kx10, Ax10_0, Ax10_1, Bx10_b5, Bx10_b3⟩
 unfold impl_Tree_way.b0
 refine bl (sq (Ya [[], [0], [], [], [3], [4], [2, 5], [6], [1, 7], [8], [], [10, 9, 0, 1, 2, 3, 4, 5, 6, 7, 8, 9, 10]] [some 13, some 14, some 15, some 16, some 17, some 18, some 19, some 20, some 21, some 22, some 8, none] [[2], [13], [6], [6], [16], [17], [15, 18], [19], [14, 20], [21], [], [8, 22]] [0, 1, 2, 3, 4, 5, 6, 7, 8, 9, 10, 11] ⟨by kernel_rfl, by kernel_rfl, by kernel_rfl⟩ (by kernel_rfl) (fun s19 p19 l19 tb19 zd19 => ?_)))
 have A28 := Ax10_0.st p19 rfl
 refine mg fun hg29 => ?_
 obtain ⟨ad29, es29, he29, ce29, ia29⟩ := ix_e A28.rd rfl hg29.1 hg29.2
 obtain rfl := he29
 have K33 := Kx10.st p19 rfl
 have A34 := A0_0.kp K33
 refine mg fun hg35 => ?_
 obtain ⟨ad35, es35, he35, ce35, ia35⟩ := ix_e A34 rfl hg35.1 hg35.2
 obtain ⟨v35_0, v35_1, rfl, A35_0, A35_1⟩ := op61 he35
 refine Xm 10 [some 22, some 21, some 20, some 19, some 18, some 17, some 16, some 15, some 14, some 13] tb19 ((((((((((zd19.add 0 13 (pB b3) rfl).add 1 14 w0_0 rfl).add 2 15 vx10_0 rfl).add 3 16 vx10_0 rfl).add 4 17 (iI (x10.1.length : Int)) rfl).add 5 18 (iI (IntKind.wrap .i64 ((x10.1.length : Int) - (1 : Int)))) rfl).add 6 19 (.pointer (some ad29)) rfl).add 7 20 (iI (at_ x10.1 (IntKind.wrap .i64 ((x10.1.length : Int) - (1 : Int))))) rfl).add 8 21 (.pointer (some ad35)) rfl).add 9 22 (.agg #[(.bool ((at_ a0.Nodes (at_ x10.1 (IntKind.wrap .i64 ((x10.1.length : Int) - (1 : Int))))).Leaf)), v35_0, v35_1]) rfl) (Xa (lca_q' ce35 u61 z61 rfl) rfl (Xa (Yg A34 u31 z61 hg35.1 hg35.2 ia35 rfl) rfl (Xa (lc0_q' ce29 u3 rfl) rfl (Xa (Yg A28.rd u59 z3 hg29.1 hg29.2 ia29 rfl) rfl (Xa (Xc rfl) rfl (Xa (ln_q' A28.rd u59 rfl) rfl (Xa (Xq vx10_0 rfl) rfl (Xa (Xq vx10_0 rfl) rfl (Xa (Xl (Bx10_b3.st p19 rfl) u31 rfl) rfl (Xa (Xj fa33_0 rfl) rfl Xe)))))))))) (by kernel_rfl) rfl (fun l41 e41 zd41 => ?_)
 refine al' (cs := [(.bool false), (.slice none 0 0), (.slice none 0 0)]) 45 rfl o61 rfl (fun b43 s43 p43 B43 => ?_)
 refine Xh (L' := [9, 8, 7, 6, 5, 4, 3, 2, 1, 0]) (D' := [10]) zd41 rfl (fun zd45 => ?_)
 have A48 := A28.st p43 rfl
 have K50 := K33.st p43 rfl
 refine Xu [11] tb19 zd45 (Xa (lca_q' (ce35.st p43 rfl rfl) u61 z61 rfl) rfl (Xa (Yg (A0_0.kp K50) u31 z61 hg35.1 hg35.2 ia35 rfl) rfl (Xa (lc0_q' (ce29.st p43 rfl rfl) u3 rfl) rfl (Xa (Yg A48.rd u59 z3 hg29.1 hg29.2 ia29 rfl) rfl (Xa (Xc rfl) rfl (Xa (ln_q' (A28.st p43 rfl).rd u59 rfl) rfl (Xa (Xq vx10_0 rfl) rfl (Xa (Xq vx10_0 rfl) rfl (Xa (Xl (Bx10_b3.st (Xo p19 p43) rfl) u31 rfl) rfl (Xa (Xj fa33_0 rfl) rfl Xe)))))))))) (by kernel_rfl) (by decide) ?_
 have A53 := A35_1.st p43 rfl
 have A54 := A35_0.st p43 rfl
 refine Yk (vs := [(.bool ((at_ a0.Nodes (at_ x10.1 (IntKind.wrap .i64 ((x10.1.length : Int) - (1 : Int))))).Leaf)), v35_0, v35_1]) B43 z61 rfl (Xd rfl (Xd A54.one (Xd A53.one Xt))) rfl (fun s55 p55 B55 => ?_)
 refine dn (sr (Xb rfl (dn (sq (bl ?_)))))
 refine lpI (fun (x57 : Int) e w => ∃ (s : St) (e0 : Env), w = s.w ∧ e = upd (upd (upd (upd (upd (upd e0 2 (pB b3)) 3 (pB b5)) 6 vx10_0) 7 vx10_1) 8 (pB b43)) 9 (iI x57) ∧ Kp s0 s ∧ BlF s b43 61 [(.bool ((at_ a0.Nodes (at_ x10.1 (IntKind.wrap .i64 ((x10.1.length : Int) - (1 : Int))))).Leaf)), v35_0, v35_1] 45 ∧ BlF s b5 48 [(iI a1.Key.Kind), (iI a1.Key.N), w1_0, w1_1, (iI a1.Id)] 41 ∧ BlF s b3 33 [w0_0, (iI a0.Root)] 40 ∧ OwF Yo s [vx10_0] x10.1 42 ∧ OwF Yo s [vx10_1] x10.2 44 ∧ RdF Yn s [v35_0] ((at_ a0.Nodes (at_ x10.1 (IntKind.wrap .i64 ((x10.1.length : Int) - (1 : Int))))).Entries) [0] ∧ RdF Yo s [v35_1] ((at_ a0.Nodes (at_ x10.1 (IntKind.wrap .i64 ((x10.1.length : Int) - (1 : Int))))).Kids) [0]) ⟨s55, _, rfl, (ue (ue (ue (ue (ue (ue rfl rfl) rfl) rfl) rfl) rfl) rfl), (K50.st p55 rfl), B55, (Bx10_b5.st (Ye p19 p43 p55) rfl), (Bx10_b3.st (Ye p19 p43 p55) rfl), (A48.st p55 rfl), (Ax10_1.st (Ye p19 p43 p55) rfl), (A54.st p55 rfl), (A53.st p55 rfl)⟩ (fun g57 ih57 => ?_)
 rintro x57 _ _ ⟨s65, _, rfl, rfl, Kx57, Bx57_b43, Bx57_b5, Bx57_b3, Cx57_15, Cx57_16, Cx57_36, Cx57_37⟩
 unfold impl_Tree_way.b1
 refine sq (sq (Ya [[], [], [1], [2], [0, 3], [4], [5], [6, 5], [5], [7, 8, 5], [9, 5], [5], [10, 11, 5, 5], [12, 5], [5, 13]] [some 23, some 24, some 25, some 26, some 27, some 28, some 29, some 30, some 31, some 32, some 33, some 34, some 35, some 36, some 37] [[9], [8], [24], [25], [23, 26], [27], [8, 28], [29, 28], [9, 28], [30, 31, 28], [32, 28], [3, 28], [33, 34, 28], [35, 28], [28, 36]] [0, 1, 2, 3, 4, 5, 6, 7, 8, 9, 10, 11, 12, 13, 14] ⟨by kernel_rfl, by kernel_rfl, by kernel_rfl⟩ (by kernel_rfl) (fun s69 p69 l69 tb69 zd69 => ?_)))
 have zd77 := (((((zd69.add 0 23 (iI x57) rfl).add 1 24 (pO b43 1) rfl).add 2 25 v35_0 rfl).add 3 26 (iI (((at_ a0.Nodes (at_ x10.1 (IntKind.wrap .i64 ((x10.1.length : Int) - (1 : Int))))).Entries).length : Int)) rfl).add 4 27 (.bool (decide (x57 < (((at_ a0.Nodes (at_ x10.1 (IntKind.wrap .i64 ((x10.1.length : Int) - (1 : Int))))).Entries).length : Int)))) rfl).add 5 28 (.bool (decide (x57 < (((at_ a0.Nodes (at_ x10.1 (IntKind.wrap .i64 ((x10.1.length : Int) - (1 : Int))))).Entries).length : Int)))) rfl
 refine ji [] (fun (y78 : Bool) e w => ∃ (s : St) (e0 : Env), w = s.w ∧ e = upd (upd (upd (upd (upd (upd (upd e0 2 (pB b3)) 3 (pB b5)) 6 vx10_0) 7 vx10_1) 8 (pB b43)) 9 (iI x57)) 37 (.bool y78) ∧ Kp s0 s ∧ BlF s b43 61 [(.bool ((at_ a0.Nodes (at_ x10.1 (IntKind.wrap .i64 ((x10.1.length : Int) - (1 : Int))))).Leaf)), v35_0, v35_1] 45 ∧ BlF s b5 48 [(iI a1.Key.Kind), (iI a1.Key.N), w1_0, w1_1, (iI a1.Id)] 41 ∧ BlF s b3 33 [w0_0, (iI a0.Root)] 40 ∧ OwF Yo s [vx10_0] x10.1 42 ∧ OwF Yo s [vx10_1] x10.2 44 ∧ RdF Yn s [v35_0] ((at_ a0.Nodes (at_ x10.1 (IntKind.wrap .i64 ((x10.1.length : Int) - (1 : Int))))).Entries) [0] ∧ RdF Yo s [v35_1] ((at_ a0.Nodes (at_ x10.1 (IntKind.wrap .i64 ((x10.1.length : Int) - (1 : Int))))).Kids) [0]) (fun Gj78 Kj78 => ?_) ?_
 ·
  rcases bft (decide (x57 < (((at_ a0.Nodes (at_ x10.1 (IntKind.wrap .i64 ((x10.1.length : Int) - (1 : Int))))).Entries).length : Int))) with hb78 | hb78
  ·
   rw [if_pos hb78]
   rw [hb78] at zd77
   try rw [hb78]
   have A83 := Cx57_36.st p69 rfl
   refine mg fun hg84 => ?_
   obtain ⟨ad84, es84, he84, ce84, ia84⟩ := ix_e A83 rfl hg84.1 hg84.2
   obtain ⟨v84_0, v84_1, rfl, A84_0, A84_1⟩ := op48 he84
   refine Xu [12, 13, 14] tb69 ((((((zd77.add 6 29 (pO b43 1) rfl).add 7 30 v35_0 rfl).add 8 31 (iI x57) rfl).add 9 32 (.pointer (some ad84)) rfl).add 10 33 (.agg #[(iI (((at_ ((at_ a0.Nodes (at_ x10.1 (IntKind.wrap .i64 ((x10.1.length : Int) - (1 : Int))))).Entries) x57).Key).Kind)), (iI (((at_ ((at_ a0.Nodes (at_ x10.1 (IntKind.wrap .i64 ((x10.1.length : Int) - (1 : Int))))).Entries) x57).Key).N)), v84_0, v84_1, (iI ((at_ ((at_ a0.Nodes (at_ x10.1 (IntKind.wrap .i64 ((x10.1.length : Int) - (1 : Int))))).Entries) x57).Id))]) rfl).add 11 34 (.agg #[(iI a1.Key.Kind), (iI a1.Key.N), w1_0, w1_1, (iI a1.Id)]) rfl) (Xa (Xp (es := [(iI a1.Key.Kind), (iI a1.Key.N), w1_0, w1_1, (iI a1.Id)]) (Bx57_b5.st p69 rfl) u48 z48 rfl) rfl (Xa (lca_q' ce84 u48 z48 rfl) rfl (Xa (Yg A83 u52 z48 hg84.1 hg84.2 ia84 rfl) rfl (Xa (Xc rfl) rfl (Xa (Xl (Bx57_b43.st p69 rfl) u52 rfl) rfl (Xa (Xj fa61_1 rfl) rfl (Xa (Xc rfl) rfl (Xa (qv_b (Xc rfl) hb78) rfl (Xa (ln_q' A83 u52 rfl) rfl (Xa (Xl (Bx57_b43.st p69 rfl) u52 rfl) rfl (Xa (Xj fa61_1 rfl) rfl (Xa (Xc rfl) rfl Xe)))))))))))) (by kernel_rfl) (by decide) ?_
   have K94 := Kx57.st p69 rfl
   refine clV 46 rfl func50 rfl (impl_compareEntries.calls (Entry.mk ((at_ ((at_ a0.Nodes (at_ x10.1 (IntKind.wrap .i64 ((x10.1.length : Int) - (1 : Int))))).Entries) x57).Key) ((at_ ((at_ a0.Nodes (at_ x10.1 (IntKind.wrap .i64 ((x10.1.length : Int) - (1 : Int))))).Entries) x57).Id)) a1 s69.w (mm [0] s69) v84_0 v84_1 w1_0 w1_1 ((Xk (s := s69) A84_0).sub (D := [0]) rfl) A84_1 ((Xk (s := s69) A1_0).sub (D := [0]) rfl) (A1_1.kp K94)) (fun r96 s97 p97 n97 => ?_)
   refine Xb rfl (Xb rfl ?_)
   exact Kj78 _ _ _ ⟨s97, _, rfl, (ue (ue (ue (ue (ue (ue (ue rfl rfl) rfl) rfl) rfl) rfl) rfl) rfl), (K94.st p97 rfl), (Bx57_b43.st (Xo p69 p97) rfl), (Bx57_b5.st (Xo p69 p97) rfl), (Bx57_b3.st (Xo p69 p97) rfl), (Cx57_15.st (Xo p69 p97) rfl), (Cx57_16.st (Xo p69 p97) rfl), (A83.st p97 rfl), (Cx57_37.st (Xo p69 p97) rfl)⟩
  rw [if_neg (by rw [hb78]; decide)]
  rw [hb78] at zd77
  try rw [hb78]
  refine Xu [12, 13, 14] tb69 ((((((zd77.add 6 29 undef rfl).add 7 30 undef rfl).add 8 31 undef rfl).add 9 32 undef rfl).add 10 33 undef rfl).add 11 34 undef rfl) (Xa (Xi rfl) rfl (Xa (Xi rfl) rfl (Xa (Xi rfl) rfl (Xa (Xi rfl) rfl (Xa (Xi rfl) rfl (Xa (Xi rfl) rfl (Xa (Xc rfl) rfl (Xa (qv_b (Xc rfl) hb78) rfl (Xa (ln_q' (Cx57_36.st p69 rfl) u52 rfl) rfl (Xa (Xl (Bx57_b43.st p69 rfl) u52 rfl) rfl (Xa (Xj fa61_1 rfl) rfl (Xa (Xc rfl) rfl Xe)))))))))))) (by kernel_rfl) (by decide) (Xr rfl (Xr rfl (Xb rfl ?_)))
  exact Kj78 _ _ _ ⟨s69, _, rfl, (ue (ue (ue (ue (ue (ue (ue rfl rfl) rfl) rfl) rfl) rfl) rfl) rfl), (Kx57.st p69 rfl), (Bx57_b43.st p69 rfl), (Bx57_b5.st p69 rfl), (Bx57_b3.st p69 rfl), (Cx57_15.st p69 rfl), (Cx57_16.st p69 rfl), (Cx57_36.st p69 rfl), (Cx57_37.st p69 rfl)⟩
 rintro y78 _ _ ⟨s122, _, rfl, rfl, Ky78, By78_b43, By78_b5, By78_b3, Cy78_15, Cy78_16, Cy78_36, Cy78_37⟩
 refine dn (cd rfl (fun h126 => ?_) (fun h126 => ?_))
 ·
  exact sk (bl (rg (Xb rfl (Xb rfl (Xb rfl (dn (ib (lb ih57 ⟨s122, _, rfl, (ue (ue (ue (ue (ue (ue rfl rfl) rfl) rfl) rfl) rfl) rfl), Ky78, By78_b43, By78_b5, By78_b3, Cy78_15, Cy78_16, Cy78_36, Cy78_37⟩))))))))
 refine xt rfl (sgb (sr (Xw vx10_1 rfl (Xb rfl (ltF' (K := (Kd.int .i64)) (cells := [(iI x57)]) [x57] 47 Yd u59 z3 o3 (fun w => (els_flat _ _ _)) rfl (fun v127 s127 p127 A127 => ?_))))))
 refine apF Yd sl59 (Cy78_16.st p127 rfl) A127.rd rfl rfl rfl rfl rfl rfl rfl (fun v130 s130 p130 A130 => ?_)
 refine asg' v130 rfl (dn (sq (sr (Xs fa61_0 rfl ?_))))
 have A132 := By78_b43.st (Xo p127 p130) rfl
 refine Yb A132 u4 rfl (dn (cd rfl (fun h133 => ?_) (fun h133 => ?_)))
 ·
  refine sr (Xw vx10_0 rfl (Xw v130 rfl (asg' vx10_0 rfl (asg' v130 rfl (dn (sgi ?_))))))
  have K135 := Ky78.st (Xo p127 p130) rfl
  exact re rfl func49 rfl (Xv rfl (Xv rfl Xg)) rfl ⟨_, rfl, vx10_0, v130, rfl, (Cy78_15.st (Xo p127 p130) rfl).fo K135 rfl z.l, A130.fo K135 rfl z.l, z.ky K135⟩
 refine sk (rg (Xw vx10_0 rfl (Xs fa61_2 rfl (Yb A132 u59 rfl (Xb rfl ?_)))))
 refine ix' (Cy78_37.st (Xo p127 p130) rfl) u59 z3 rfl (fun ad137 es137 h0_137 h1_137 he137 ce137 ia137 => ?_)
 obtain rfl := he137
 refine lc0 ce137 u3 rfl rfl rfl rfl rfl rfl rfl rfl (ltF' (K := (Kd.int .i64)) (cells := [(iI (at_ ((at_ a0.Nodes (at_ x10.1 (IntKind.wrap .i64 ((x10.1.length : Int) - (1 : Int))))).Kids) x57))]) [(at_ ((at_ a0.Nodes (at_ x10.1 (IntKind.wrap .i64 ((x10.1.length : Int) - (1 : Int))))).Kids) x57)] 48 Yd u59 z3 o3 (fun w => (els_flat _ _ _)) rfl (fun v139 s139 p139 A139 => ?_))
 refine apF Yd sl59 (Cy78_15.st (Ye p127 p130 p139) rfl) A139.rd rfl rfl rfl rfl rfl rfl rfl (fun v142 s142 p142 A142 => ?_)
 refine asg' v142 rfl (dn (ib ?_))
 exact lb ih10 ⟨s142, _, v142, v130, rfl, (ue (ue (ue (ue rfl rfl) rfl) rfl) rfl), (Ky78.st (Yf p127 p130 p139 p142) rfl), A142, (A130.st (Xo p139 p142) rfl), (By78_b5.st (Yf p127 p130 p139 p142) rfl), (By78_b3.st (Yf p127 p130 p139 p142) rfl)⟩
def impl_Tree_has.f (a0 : Tree) (a1 : Entry) : Option (Int × Int × Bool) :=
 ((impl_Tree_way.f a0 a1).bind fun r11 => (if 0 ≤ (IntKind.wrap .i64 ((r11.1.length : Int) - (1 : Int))) ∧ (IntKind.wrap .i64 ((r11.1.length : Int) - (1 : Int))) < (r11.1.length : Int) then (if 0 ≤ (IntKind.wrap .i64 ((r11.2.length : Int) - (1 : Int))) ∧ (IntKind.wrap .i64 ((r11.2.length : Int) - (1 : Int))) < (r11.2.length : Int) then ((if (decide ((IntKind.wrap .i64 ((at_ r11.2 (IntKind.wrap .i64 ((r11.2.length : Int) - (1 : Int)))) - (1 : Int))) ≥ (0 : Int))) = true then (if 0 ≤ (at_ r11.1 (IntKind.wrap .i64 ((r11.1.length : Int) - (1 : Int)))) ∧ (at_ r11.1 (IntKind.wrap .i64 ((r11.1.length : Int) - (1 : Int)))) < (a0.Nodes.length : Int) then (if 0 ≤ (IntKind.wrap .i64 ((at_ r11.2 (IntKind.wrap .i64 ((r11.2.length : Int) - (1 : Int)))) - (1 : Int))) ∧ (IntKind.wrap .i64 ((at_ r11.2 (IntKind.wrap .i64 ((r11.2.length : Int) - (1 : Int)))) - (1 : Int))) < (((at_ a0.Nodes (at_ r11.1 (IntKind.wrap .i64 ((r11.1.length : Int) - (1 : Int))))).Entries).length : Int) then ((impl_compareEntries.f (Entry.mk ((at_ ((at_ a0.Nodes (at_ r11.1 (IntKind.wrap .i64 ((r11.1.length : Int) - (1 : Int))))).Entries) (IntKind.wrap .i64 ((at_ r11.2 (IntKind.wrap .i64 ((r11.2.length : Int) - (1 : Int)))) - (1 : Int)))).Key) ((at_ ((at_ a0.Nodes (at_ r11.1 (IntKind.wrap .i64 ((r11.1.length : Int) - (1 : Int))))).Entries) (IntKind.wrap .i64 ((at_ r11.2 (IntKind.wrap .i64 ((r11.2.length : Int) - (1 : Int)))) - (1 : Int)))).Id)) a1).bind fun r70 => (some (r70 == (0 : Int)))) else none) else none) else (some false)).bind fun y44 => (some ((at_ r11.1 (IntKind.wrap .i64 ((r11.1.length : Int) - (1 : Int)))), (IntKind.wrap .i64 ((at_ r11.2 (IntKind.wrap .i64 ((r11.2.length : Int) - (1 : Int)))) - (1 : Int))), y44))) else none) else none))
def impl_Tree_has.Q (w : World) (F : Nat → Prop) (r : Int × Int × Bool) (v : Value) (w' : World) : Prop :=
 v = .tuple #[(iI r.1), (iI r.2.1), (.bool r.2.2)] ∧ Ky [] w w'
theorem impl_Tree_has.calls (a0 : Tree) (a1 : Entry) (w : World) (F : Nat → Prop) (w0_0 : Value) (w1_0 : Value) (w1_1 : Value) (h0_0 : Yp.rd w [w0_0] a0.Nodes F) (h1_0 : Kd.flt.rd w [w1_0] a1.Key.F F) (h1_1 : Ym.rd w [w1_1] a1.Key.T F) (r : Int × Int × Bool) (m : impl_Tree_has.f a0 a1 = some r) :
  Calls prog 29 #[(.agg #[w0_0, (iI a0.Root)]), (.agg #[(iI a1.Key.Kind), (iI a1.Key.N), w1_0, w1_1, (iI a1.Id)])] w (RT (impl_Tree_has.Q w F) r) := by
 obtain ⟨s0, rfl, kp0, z⟩ := Xn w F
 have A0_0 := z.rd h0_0
 have A1_0 := Yj h1_0
 have A1_1 := z.rd h1_1
 refine Xf (args := [(.agg #[w0_0, (iI a0.Root)]), (.agg #[(iI a1.Key.Kind), (iI a1.Key.N), w1_0, w1_1, (iI a1.Id)])]) func29 ntmps29 rfl rfl m ?_
 unfold impl_Tree_has.f
 refine sr (bx' (cs := [w0_0, (iI a0.Root)]) 40 rfl rfl (fun b3 s3 p3 B3 => ?_))
 refine bx' (cs := [(iI a1.Key.Kind), (iI a1.Key.N), w1_0, w1_1, (iI a1.Id)]) 41 rfl rfl (fun b5 s5 p5 B5 => ?_)
 refine Xb rfl (Xb rfl (Xb rfl (dn (sr ?_))))
 have A7 := B3.st p5 rfl
 refine Yl (es := [w0_0, (iI a0.Root)]) A7 u33 z33 rfl (Yl (es := [(iI a1.Key.Kind), (iI a1.Key.N), w1_0, w1_1, (iI a1.Id)]) B5 u48 z48 rfl ?_)
 have K8 := kp0.st (Xo p3 p5) rfl
 refine cl' rfl func49 rfl (impl_Tree_way.calls a0 a1 s5.w (mm [0] s5) w0_0 w1_0 w1_1 (A0_0.kp K8) ((Xk (s := s5) A1_0).sub (D := [0]) rfl) (A1_1.kp K8)) ?_
 rintro r11 _ w11 m11 ⟨v11_0, v11_1, rfl, f11_0, f11_1, ky11⟩
 obtain ⟨s12, rfl, p12, n12⟩ := nwx s5 w11 42 ky11
 refine Xb rfl (Xb (v := v11_0) rfl (Xb (v := v11_1) rfl (asg' v11_0 rfl (asg' v11_1 rfl (dn (sq (Ya [[], [], [1], [2], [0, 3], [4], [], [], [7], [8], [6, 9], [10], [11], [5, 0, 1, 2, 3, 4, 5], [12, 13, 0, 1, 2, 3, 4, 5, 6, 7, 8, 9, 10, 11, 12, 13]] [some 17, some 18, some 19, some 20, some 21, some 22, some 23, some 24, some 25, some 26, some 27, some 28, some 29, some 9, some 10] [[7], [7], [18], [19], [17, 20], [21], [8], [8], [24], [25], [23, 26], [27], [28], [22], [29]] [0, 1, 2, 3, 4, 5, 9, 6, 7, 10, 11, 12, 13, 8, 14] ⟨by kernel_rfl, by kernel_rfl, by kernel_rfl⟩ (by kernel_rfl) (fun s15 p15 l15 tb15 zd15 => ?_))))))))
 have A21 := (f11_0.c n12).st p15 rfl
 refine mg fun hg22 => ?_
 obtain ⟨ad22, es22, he22, ce22, ia22⟩ := ix_e A21.rd rfl hg22.1 hg22.2
 obtain rfl := he22
 have A31 := (f11_1.c n12).st p15 rfl
 refine mg fun hg32 => ?_
 obtain ⟨ad32, es32, he32, ce32, ia32⟩ := ix_e A31.rd rfl hg32.1 hg32.2
 obtain rfl := he32
 have zd37 := (((((((((((((zd15.add 0 17 v11_0 rfl).add 1 18 v11_0 rfl).add 2 19 (iI (r11.1.length : Int)) rfl).add 3 20 (iI (IntKind.wrap .i64 ((r11.1.length : Int) - (1 : Int)))) rfl).add 4 21 (.pointer (some ad22)) rfl).add 5 22 (iI (at_ r11.1 (IntKind.wrap .i64 ((r11.1.length : Int) - (1 : Int))))) rfl).add 6 23 v11_1 rfl).add 7 24 v11_1 rfl).add 8 25 (iI (r11.2.length : Int)) rfl).add 9 26 (iI (IntKind.wrap .i64 ((r11.2.length : Int) - (1 : Int)))) rfl).add 10 27 (.pointer (some ad32)) rfl).add 11 28 (iI (at_ r11.2 (IntKind.wrap .i64 ((r11.2.length : Int) - (1 : Int))))) rfl).add 12 29 (iI (IntKind.wrap .i64 ((at_ r11.2 (IntKind.wrap .i64 ((r11.2.length : Int) - (1 : Int)))) - (1 : Int)))) rfl).add 13 9 (iI (at_ r11.1 (IntKind.wrap .i64 ((r11.1.length : Int) - (1 : Int))))) rfl
 refine Xu [14] tb15 zd37 (Xa (Xc rfl) rfl (Xa (Xc rfl) rfl (Xa (lc0_q' ce32 u3 rfl) rfl (Xa (Yg A31.rd u59 z3 hg32.1 hg32.2 ia32 rfl) rfl (Xa (Xc rfl) rfl (Xa (ln_q' A31.rd u59 rfl) rfl (Xa (Xq v11_1 rfl) rfl (Xa (Xq v11_1 rfl) rfl (Xa (lc0_q' ce22 u3 rfl) rfl (Xa (Yg A21.rd u59 z3 hg22.1 hg22.2 ia22 rfl) rfl (Xa (Xc rfl) rfl (Xa (ln_q' A21.rd u59 rfl) rfl (Xa (Xq v11_0 rfl) rfl (Xa (Xq v11_0 rfl) rfl Xe)))))))))))))) (by kernel_rfl) (by decide) (Xb rfl (dn (sq (Ya [[], [], [], [2], [3], [4], [5, 4], [4], [6, 7, 4], [8, 4], [9, 4], [4], [10, 11, 4], [12, 4], [4], [13, 14, 4, 4], [15, 4], [4, 16], [0, 15, 0], [1, 18, 0, 1, 18], [17, 19, 0, 1, 2, 3, 4, 5, 6, 7, 8, 9, 10, 11, 12, 13, 14, 15, 16, 17, 18, 19]] [some 30, some 31, some 32, some 33, some 34, some 35, some 36, some 37, some 38, some 39, some 40, some 41, some 42, some 43, some 44, some 45, some 46, some 47, some 4, some 5, some 6] [[9], [10], [10], [32], [33], [2, 34], [35, 34], [9, 34], [36, 37, 34], [38, 34], [39, 34], [10, 34], [40, 41, 34], [42, 34], [3, 34], [43, 44, 34], [45, 34], [34, 46], [30], [31], [47]] [0, 16, 1, 2, 3, 4, 5, 6, 7, 8, 9, 10, 11, 12, 13, 14, 18, 19, 15, 17, 20] ⟨by kernel_rfl, by kernel_rfl, by kernel_rfl⟩ (by kernel_rfl) (fun s38 p38 l38 tb38 zd38 => ?_)))))
 have zd43 := ((((zd38.add 0 30 (iI (at_ r11.1 (IntKind.wrap .i64 ((r11.1.length : Int) - (1 : Int))))) rfl).add 1 31 (iI (IntKind.wrap .i64 ((at_ r11.2 (IntKind.wrap .i64 ((r11.2.length : Int) - (1 : Int)))) - (1 : Int)))) rfl).add 2 32 (iI (IntKind.wrap .i64 ((at_ r11.2 (IntKind.wrap .i64 ((r11.2.length : Int) - (1 : Int)))) - (1 : Int)))) rfl).add 3 33 (.bool (decide ((IntKind.wrap .i64 ((at_ r11.2 (IntKind.wrap .i64 ((r11.2.length : Int) - (1 : Int)))) - (1 : Int))) ≥ (0 : Int)))) rfl).add 4 34 (.bool (decide ((IntKind.wrap .i64 ((at_ r11.2 (IntKind.wrap .i64 ((r11.2.length : Int) - (1 : Int)))) - (1 : Int))) ≥ (0 : Int)))) rfl
 refine ji [20] (fun (y44 : Bool) e w => ∃ (s : St) (e0 : Env), w = s.w ∧ e = upd (upd (upd e0 4 (iI (at_ r11.1 (IntKind.wrap .i64 ((r11.1.length : Int) - (1 : Int)))))) 5 (iI (IntKind.wrap .i64 ((at_ r11.2 (IntKind.wrap .i64 ((r11.2.length : Int) - (1 : Int)))) - (1 : Int))))) 47 (.bool y44) ∧ Kp s0 s) (fun Gj44 Kj44 => ?_) ?_
 ·
  rcases bft (decide ((IntKind.wrap .i64 ((at_ r11.2 (IntKind.wrap .i64 ((r11.2.length : Int) - (1 : Int)))) - (1 : Int))) ≥ (0 : Int))) with hb44 | hb44
  ·
   rw [if_pos hb44]
   rw [hb44] at zd43
   try rw [hb44]
   have K49 := K8.st (Ye p12 p15 p38) rfl
   have A50 := A0_0.kp K49
   refine mg fun hg51 => ?_
   obtain ⟨ad51, es51, he51, ce51, ia51⟩ := ix_e A50 rfl hg51.1 hg51.2
   obtain ⟨v51_0, v51_1, rfl, A51_0, A51_1⟩ := op61 he51
   refine mg fun hg59 => ?_
   obtain ⟨ad59, es59, he59, ce59, ia59⟩ := ix_e A51_0 rfl hg59.1 hg59.2
   obtain ⟨v59_0, v59_1, rfl, A59_0, A59_1⟩ := op48 he59
   have zd63 := ((((((((zd43.add 5 35 (pB b3) rfl).add 6 36 w0_0 rfl).add 7 37 (iI (at_ r11.1 (IntKind.wrap .i64 ((r11.1.length : Int) - (1 : Int))))) rfl).add 8 38 (.pointer (some ad51)) rfl).add 9 39 (.pointer (some (ad51.add 1))) rfl).add 10 40 v51_0 rfl).add 11 41 (iI (IntKind.wrap .i64 ((at_ r11.2 (IntKind.wrap .i64 ((r11.2.length : Int) - (1 : Int)))) - (1 : Int)))) rfl).add 12 42 (.pointer (some ad59)) rfl).add 13 43 (.agg #[(iI (((at_ ((at_ a0.Nodes (at_ r11.1 (IntKind.wrap .i64 ((r11.1.length : Int) - (1 : Int))))).Entries) (IntKind.wrap .i64 ((at_ r11.2 (IntKind.wrap .i64 ((r11.2.length : Int) - (1 : Int)))) - (1 : Int)))).Key).Kind)), (iI (((at_ ((at_ a0.Nodes (at_ r11.1 (IntKind.wrap .i64 ((r11.1.length : Int) - (1 : Int))))).Entries) (IntKind.wrap .i64 ((at_ r11.2 (IntKind.wrap .i64 ((r11.2.length : Int) - (1 : Int)))) - (1 : Int)))).Key).N)), v59_0, v59_1, (iI ((at_ ((at_ a0.Nodes (at_ r11.1 (IntKind.wrap .i64 ((r11.1.length : Int) - (1 : Int))))).Entries) (IntKind.wrap .i64 ((at_ r11.2 (IntKind.wrap .i64 ((r11.2.length : Int) - (1 : Int)))) - (1 : Int)))).Id))]) rfl
   refine Xm 15 [some 31, some 30] tb38 (zd63.add 14 44 (.agg #[(iI a1.Key.Kind), (iI a1.Key.N), w1_0, w1_1, (iI a1.Id)]) rfl) (Xa (Xp (es := [(iI a1.Key.Kind), (iI a1.Key.N), w1_0, w1_1, (iI a1.Id)]) (B5.st (Ye p12 p15 p38) rfl) u48 z48 rfl) rfl (Xa (lca_q' ce59 u48 z48 rfl) rfl (Xa (Yg A51_0 u52 z48 hg59.1 hg59.2 ia59 rfl) rfl (Xa (Xc rfl) rfl (Xa (lc_q ce51 u52 rfl rfl rfl rfl rfl rfl rfl rfl) rfl (Xa (Xj fa61_1 rfl) rfl (Xa (Yg A50 u31 z61 hg51.1 hg51.2 ia51 rfl) rfl (Xa (Xc rfl) rfl (Xa (Xl (A7.st (Ye p12 p15 p38) rfl) u31 rfl) rfl (Xa (Xj fa33_0 rfl) rfl (Xa (Xc rfl) rfl (Xa (qv_b (Xc rfl) hb44) rfl (Xa (Xc rfl) rfl (Xa (Xc rfl) rfl (Xa (Xc rfl) rfl Xe))))))))))))))) (by kernel_rfl) rfl (fun l66 e66 zd66 => ?_)
   refine clV 43 rfl func50 rfl (impl_compareEntries.calls (Entry.mk ((at_ ((at_ a0.Nodes (at_ r11.1 (IntKind.wrap .i64 ((r11.1.length : Int) - (1 : Int))))).Entries) (IntKind.wrap .i64 ((at_ r11.2 (IntKind.wrap .i64 ((r11.2.length : Int) - (1 : Int)))) - (1 : Int)))).Key) ((at_ ((at_ a0.Nodes (at_ r11.1 (IntKind.wrap .i64 ((r11.1.length : Int) - (1 : Int))))).Entries) (IntKind.wrap .i64 ((at_ r11.2 (IntKind.wrap .i64 ((r11.2.length : Int) - (1 : Int)))) - (1 : Int)))).Id)) a1 s38.w (mm [0] s38) v59_0 v59_1 w1_0 w1_1 ((Xk (s := s38) A59_0).sub (D := [0]) rfl) A59_1 ((Xk (s := s38) A1_0).sub (D := [0]) rfl) (A1_1.kp K49)) (fun r70 s71 p71 n71 => ?_)
   refine Xh (L' := [1, 0]) (D' := [2, 3, 5, 6, 7, 8, 9, 10, 11, 12, 13, 14, 4, 4, 15]) zd66 rfl (fun zd72 => ?_)
   exact Xu [20] tb38 ((((zd72.add 16 46 (.bool (r70 == (0 : Int))) rfl).add 17 47 (.bool (r70 == (0 : Int))) rfl).add 18 4 (iI (at_ r11.1 (IntKind.wrap .i64 ((r11.1.length : Int) - (1 : Int))))) rfl).add 19 5 (iI (IntKind.wrap .i64 ((at_ r11.2 (IntKind.wrap .i64 ((r11.2.length : Int) - (1 : Int)))) - (1 : Int)))) rfl) (Xa (Xc rfl) rfl (Xa (Xc rfl) rfl (Xa (Xc rfl) rfl (Xa (Xc rfl) rfl (Xa (Xc rfl) rfl (Xa (Xc rfl) rfl Xe)))))) (by kernel_rfl) (by decide) (Kj44 _ _ _ ⟨s71, _, rfl, (ue (ue (ue rfl rfl) rfl) rfl), (K49.st p71 rfl)⟩)
  rw [if_neg (by rw [hb44]; decide)]
  rw [hb44] at zd43
  try rw [hb44]
  exact Xu [20] tb38 (((((((((((((((zd43.add 5 35 undef rfl).add 6 36 undef rfl).add 7 37 undef rfl).add 8 38 undef rfl).add 9 39 undef rfl).add 10 40 undef rfl).add 11 41 undef rfl).add 12 42 undef rfl).add 13 43 undef rfl).add 14 44 undef rfl).add 15 45 undef rfl).add 16 46 undef rfl).add 17 47 (.bool false) rfl).add 18 4 (iI (at_ r11.1 (IntKind.wrap .i64 ((r11.1.length : Int) - (1 : Int))))) rfl).add 19 5 (iI (IntKind.wrap .i64 ((at_ r11.2 (IntKind.wrap .i64 ((r11.2.length : Int) - (1 : Int)))) - (1 : Int)))) rfl) (Xa (Xc rfl) rfl (Xa (Xc rfl) rfl (Xa (Xc rfl) rfl (Xa (Xi rfl) rfl (Xa (Xi rfl) rfl (Xa (Xi rfl) rfl (Xa (Xi rfl) rfl (Xa (Xi rfl) rfl (Xa (Xi rfl) rfl (Xa (Xi rfl) rfl (Xa (Xi rfl) rfl (Xa (Xi rfl) rfl (Xa (Xi rfl) rfl (Xa (Xi rfl) rfl (Xa (Xi rfl) rfl (Xa (Xc rfl) rfl (Xa (qv_b (Xc rfl) hb44) rfl (Xa (Xc rfl) rfl (Xa (Xc rfl) rfl (Xa (Xc rfl) rfl Xe)))))))))))))))))))) (by kernel_rfl) (by decide) (Kj44 _ _ _ ⟨s38, _, rfl, (ue (ue (ue rfl rfl) rfl) rfl), (K8.st (Ye p12 p15 p38) rfl)⟩)
 rintro y44 _ _ ⟨s94, _, rfl, rfl, Ky44⟩
 exact Xb rfl (dn (re rfl func29 rfl (Xv rfl (Xv rfl (Xv rfl Xg))) rfl ⟨_, rfl, rfl, z.ky Ky44⟩))
def slices_Clone_byte_byte.f (a0 : (List Int)) : Option ((List Int)) :=
 (if ([] : (List Int)).length + a0.length ≤ Lim then (some (([] : (List Int)) ++ a0)) else none)
def slices_Clone_byte_byte.Q (w : World) (F : Nat → Prop) (r : (List Int)) (v : Value) (w' : World) : Prop :=
 FO Ym w w' [v] r ∧ Ky [] w w'
theorem slices_Clone_byte_byte.calls (a0 : (List Int)) (w : World) (F : Nat → Prop) (w0_0 : Value) (h0_0 : Ym.rd w [w0_0] a0 F) (r : (List Int)) (m : slices_Clone_byte_byte.f a0 = some r) :
  Calls prog 76 #[w0_0] w (RT (slices_Clone_byte_byte.Q w F) r) := by
 obtain ⟨s0, rfl, kp0, z⟩ := Xn w F
 have A0_0 := z.rd h0_0
 refine Xf (args := [w0_0]) func76 ntmps76 rfl rfl m ?_
 unfold slices_Clone_byte_byte.f
 refine sr (Xb rfl (dn (sq (sr (Xw w0_0 rfl (nq A0_0 u26 rfl rfl rfl rfl rfl rfl rfl (fun nb2 hn2 => ?_)))))))
 refine dn (cdb rfl (fun h3 => ?_) (fun h3 => ?_))
 ·
  obtain rfl := hn2 h3
  exact mg fun _ => (sr (Xb rfl (dn (re rfl func76 rfl (Xv rfl Xg) rfl ⟨_, rfl, (ow_nil 5 (Kd.int .u8) s0 40).fo kp0 rfl z.l, z.ky kp0⟩))))
 refine sk (sr (lt0 (K := (Kd.int .u8)) 40 u26 z5 rfl rfl rfl rfl rfl (fun v4 s4 p4 A4 => ?_)))
 refine Xw w0_0 rfl ?_
 have K6 := kp0.st p4 rfl
 refine apF Yd sl26 A4 (A0_0.kp K6) rfl rfl rfl rfl rfl rfl rfl (fun v8 s8 p8 A8 => ?_)
 refine asg' v8 rfl (dn ?_)
 have K10 := K6.st p8 rfl
 exact re rfl func76 rfl (Xv rfl Xg) rfl ⟨_, rfl, A8.fo K10 rfl z.l, z.ky K10⟩
def impl_Item_own.f (a0 : Item) : Option (Item) :=
 ((slices_Clone_byte_byte.f a0.T).bind fun r9 => (some (Item.mk a0.Kind a0.N a0.F r9)))
def impl_Item_own.Q (w : World) (F : Nat → Prop) (r : Item) (v : Value) (w' : World) : Prop :=
 ∃ (v0 : Value) (v1 : Value), v = (.agg #[(iI r.Kind), (iI r.N), v0, v1]) ∧ FO kd37 w w' [(iI r.Kind), (iI r.N), v0, v1] r ∧ Ky [] w w'
theorem impl_Item_own.calls (a0 : Item) (w : World) (F : Nat → Prop) (w0_0 : Value) (w0_1 : Value) (h0_0 : Kd.flt.rd w [w0_0] a0.F F) (h0_1 : Ym.rd w [w0_1] a0.T F) (r : Item) (m : impl_Item_own.f a0 = some r) :
  Calls prog 53 #[(.agg #[(iI a0.Kind), (iI a0.N), w0_0, w0_1])] w (RT (impl_Item_own.Q w F) r) := by
 obtain ⟨s0, rfl, kp0, z⟩ := Xn w F
 have A0_0 := Yj h0_0
 refine Xf (args := [(.agg #[(iI a0.Kind), (iI a0.N), w0_0, w0_1])]) func53 ntmps53 rfl rfl m ?_
 unfold impl_Item_own.f
 refine sr (bx' (cs := [(iI a0.Kind), (iI a0.N), w0_0, w0_1]) 40 rfl rfl (fun b2 s2 p2 B2 => ?_))
 refine al' (cs := [(iI 0), (iI 0), (.float .f64 0), (.slice none 0 0)]) 41 rfl o37 rfl (fun b4 s4 p4 B4 => ?_)
 refine dn (sr (Xs fa37_3 rfl ?_))
 have A6 := B2.st p4 rfl
 refine Yb A6 u26 rfl ?_
 have K7 := kp0.st (Xo p2 p4) rfl
 refine clO 42 rfl func76 rfl (slices_Clone_byte_byte.calls a0.T s4.w (mm [0] s4) w0_1 ((z.rd h0_1).kp K7)) (fun r9 v9_0 s10 p10 A9_0 => ?_)
 refine Xs fa37_3 rfl (sv' (A6.st p10 rfl) z26 rfl A9_0.rd.one rfl (fun s13 p13 B13 => ?_))
 refine dn (sr (Yl (es := [(iI a0.Kind), (iI a0.N), w0_0, v9_0]) B13 u37 z37 rfl ?_))
 have A16 := A9_0.st p13 rfl
 refine Yk (vs := [(iI a0.Kind), (iI a0.N), w0_0, v9_0]) (B4.st (Xo p10 p13) rfl) z37 rfl (Xd rfl (Xd rfl (Xd (FL.one A0_0) (Xd A16.rd.one Xt)))) rfl (fun s17 p17 B17 => ?_)
 refine dn ?_
 have A19 : OwF kd37 s17 [(iI a0.Kind), (iI a0.N), w0_0, v9_0] (Item.mk a0.Kind a0.N a0.F r9) 42 := (Xz (fun x : Item => (x.Kind, x.N, x.F, x.T)) (Item.mk a0.Kind a0.N a0.F r9) (ow_l (Yc .i64 a0.Kind) (ow_l (Yc .i64 a0.N) (ow_l (fz_flt A0_0) (A16.st p17 rfl)))))
 have K22 := K7.st (Ye p10 p13 p17) rfl
 exact re rfl func53 rfl (r_b B17 u37 rfl z37 rfl Xg) rfl ⟨_, rfl, w0_0, v9_0, rfl, A19.fo K22 rfl z.l, z.ky K22⟩
def impl_ownEntries.b0 (a0 : (List Entry)) (x2 : (List Entry) × Int) : Option (((List Entry) × Int) ⊕ (List Entry)) :=
 (if (decide (x2.2 < (a0.length : Int))) = true then (if 0 ≤ x2.2 ∧ x2.2 < (a0.length : Int) then ((impl_Item_own.f ((at_ a0 x2.2).Key)).bind fun r27 => (if x2.1.length + ([(Entry.mk r27 ((at_ a0 x2.2).Id))]).length ≤ Lim then (some (Sum.inl ((x2.1 ++ [(Entry.mk r27 ((at_ a0 x2.2).Id))]), (IntKind.wrap .i64 (x2.2 + (1 : Int)))))) else none)) else none) else ((some x2.1).bind fun o => some (Sum.inr o)))
def impl_ownEntries.f (a0 : (List Entry)) : Option ((List Entry)) :=
 (iter (impl_ownEntries.b0 a0) (([] : (List Entry)), (0 : Int)))
def impl_ownEntries.Q (w : World) (F : Nat → Prop) (r : (List Entry)) (v : Value) (w' : World) : Prop :=
 FO Yn w w' [v] r ∧ Ky [] w w'
theorem impl_ownEntries.calls (a0 : (List Entry)) (w : World) (F : Nat → Prop) (w0_0 : Value) (h0_0 : Yn.rd w [w0_0] a0 F) (r : (List Entry)) (m : impl_ownEntries.f a0 = some r) :
  Calls prog 51 #[w0_0] w (RT (impl_ownEntries.Q w F) r) := by
 obtain ⟨s0, rfl, kp0, z⟩ := Xn w F
 have A0_0 := z.rd h0_0
 refine Xf (args := [w0_0]) func51 ntmps51 rfl rfl m ?_
 unfold impl_ownEntries.f
 refine sr (Xb rfl (dn (sr (Xb rfl (dn (sq (sr (Xw w0_0 rfl (ln' A0_0 u52 rfl (Xb rfl (dn (bl (lpI (fun (x2 : (List Entry) × Int) e w => ∃ (s : St) (e0 : Env) (vx2_0 : Value), w = s.w ∧ e = upd (upd (upd (upd e0 3 vx2_0) 6 w0_0) 7 (iI (a0.length : Int))) 8 (iI x2.2) ∧ Kp s0 s ∧ OwF Yn s [vx2_0] x2.1 41) ⟨s0, _, (.slice none 0 0), rfl, (ue (ue (ue (ue rfl rfl) rfl) rfl) rfl), kp0, (ow_nil 48 kd48 _ 41)⟩ (fun g2 ih2 => ?_))))))))))))))
 rintro x2 _ _ ⟨s3, _, vx2_0, rfl, rfl, Kx2, Ax2_0⟩
 unfold impl_ownEntries.b0
 refine sr (Xb rfl (dn (sq (cd rfl (fun h5 => ?_) (fun h5 => ?_)))))
 ·
  refine sk (sq (bl (sr ?_)))
  refine ix' (A0_0.kp Kx2) u52 z48 rfl (fun ad7 es7 h0_7 h1_7 he7 ce7 ia7 => ?_)
  obtain ⟨v7_0, v7_1, rfl, A7_0, A7_1⟩ := op48 he7
  refine lca ce7 u48 z48 rfl rfl rfl rfl rfl rfl rfl (al' (cs := [(iI 0), (iI 0), (.float .f64 0), (.slice none 0 0), (iI 0)]) 42 rfl o48 rfl (fun b10 s10 p10 B10 => ?_))
  have A12 := A7_1.st p10 rfl
  refine Yk (vs := [(iI (((at_ a0 x2.2).Key).Kind)), (iI (((at_ a0 x2.2).Key).N)), v7_0, v7_1, (iI ((at_ a0 x2.2).Id))]) B10 z48 rfl (Xd rfl (Xd rfl (Xd (FL.one A7_0) (Xd A12.one (Xd rfl Xt))))) rfl (fun s13 p13 B13 => ?_)
  refine dn (Ya [[], [], [1], [2], [], [4], [3, 5], [6], [0, 7, 3], [8, 8, 0, 1, 2, 3, 4, 5, 6, 7, 8]] [some 12, some 13, some 14, some 15, some 16, some 17, some 18, some 19, some 20, some 3] [[3], [5], [13], [14], [5], [16], [15, 17], [18], [12, 19], [20]] [0, 1, 2, 3, 4, 5, 6, 7, 8, 9] ⟨by kernel_rfl, by kernel_rfl, by kernel_rfl⟩ (by kernel_rfl) (fun s15 p15 l15 tb15 zd15 => ?_))
  refine Xm 3 [some 17, some 16, some 12] tb15 (((((zd15.add 0 12 vx2_0 rfl).add 1 13 (pB b10) rfl).add 2 14 (.agg #[(iI (((at_ a0 x2.2).Key).Kind)), (iI (((at_ a0 x2.2).Key).N)), v7_0, v7_1]) rfl).add 4 16 (pO b10 4) rfl).add 5 17 (iI ((at_ a0 x2.2).Id)) rfl) (Xa (Xl (B13.st p15 rfl) u3 rfl) rfl (Xa (Xj fa48_1 rfl) rfl (Xa (Xp (es := [(iI (((at_ a0 x2.2).Key).Kind)), (iI (((at_ a0 x2.2).Key).N)), v7_0, v7_1]) (B13.st p15 rfl) u37 z37 rfl) rfl (Xa (Xj fa48_0 rfl) rfl (Xa (Xq vx2_0 rfl) rfl Xe))))) (by kernel_rfl) rfl (fun l23 e23 zd23 => ?_)
  refine cl' rfl func53 rfl (impl_Item_own.calls ((at_ a0 x2.2).Key) s15.w (mm [0] s15) v7_0 v7_1 ((Xk (s := s15) A7_0).sub (D := [0]) rfl) (A12.st (Xo p13 p15) rfl)) ?_
  rintro r27 _ w27 m27 ⟨v27_0, v27_1, rfl, f27_0, ky27⟩
  obtain ⟨s28, rfl, p28, n28⟩ := nwx s15 w27 43 ky27
  obtain ⟨hu27_0_0, Au27_0_1⟩ := ap37 (f27_0.c n28)
  refine Xh (L' := [5, 4, 0]) (D' := [1, 2, 3]) zd23 rfl (fun zd30 => ?_)
  refine Xm 7 [some 12] tb15 (zd30.add 6 18 (.agg #[(iI r27.Kind), (iI r27.N), v27_0, v27_1, (iI ((at_ a0 x2.2).Id))]) rfl) (Xa (bd_q' (cells := [(iI r27.Kind), (iI r27.N), v27_0, v27_1, (iI ((at_ a0 x2.2).Id))]) pl48 o48 rfl rfl) rfl (Xa (Xl (B13.st (Xo p15 p28) rfl) u3 rfl) rfl (Xa (Xj fa48_1 rfl) rfl (Xa (Xq vx2_0 rfl) rfl Xe)))) (by kernel_rfl) rfl (fun l32 e32 zd32 => ?_)
  have A34 : OwF kd48 s28 [(iI r27.Kind), (iI r27.N), v27_0, v27_1, (iI ((at_ a0 x2.2).Id))] (Entry.mk r27 ((at_ a0 x2.2).Id)) 43 := (Xz (fun x : Entry => (x.Key, x.Id)) (Entry.mk r27 ((at_ a0 x2.2).Id)) (ow_r (Xz (fun x : Item => (x.Kind, x.N, x.F, x.T)) r27 (ow_l (Yc .i64 r27.Kind) (ow_l (Yc .i64 r27.N) (ow_l (fz_flt hu27_0_0) Au27_0_1)))) (Yc .i64 ((at_ a0 x2.2).Id))))
  refine ltO (K := kd48) (cells := [(iI r27.Kind), (iI r27.N), v27_0, v27_1, (iI ((at_ a0 x2.2).Id))]) [(Entry.mk r27 ((at_ a0 x2.2).Id))] 43 u52 z48 o48 (lo_one A34) rfl rfl rfl rfl rfl rfl rfl rfl rfl rfl (fun v37 s37 p37 A37 => ?_)
  refine Xh (L' := [0]) (D' := [4, 5, 6, 7, 1, 2, 3]) zd32 rfl (fun zd39 => ?_)
  refine Xu [8, 9] tb15 zd39 (Xa (Xq vx2_0 rfl) rfl Xe) (by kernel_rfl) (by decide) (apO sl52 (Ax2_0.st (tr5 p10 p13 p15 p28 p37) rfl) A37 rfl rfl rfl rfl rfl rfl rfl rfl rfl (fun v41 s41 p41 A41 => ?_))
  refine asg' v41 rfl (dn (ib (rg (Xb rfl (Xb rfl (dn ?_))))))
  exact lb ih2 ⟨s41, _, v41, rfl, (ue (ue (ue (ue rfl rfl) rfl) rfl) rfl), (Kx2.st (tr6 p10 p13 p15 p28 p37 p41) rfl), A41⟩
 exact xt rfl (sgb (sr (Xw vx2_0 rfl (asg' vx2_0 rfl (dn (re rfl func51 rfl (Xv rfl Xg) rfl ⟨_, rfl, Ax2_0.fo Kx2 rfl z.l, z.ky Kx2⟩))))))
def slices_Clone_int_int.f (a0 : (List Int)) : Option ((List Int)) :=
 (if ([] : (List Int)).length + a0.length ≤ Lim then (some (([] : (List Int)) ++ a0)) else none)
def slices_Clone_int_int.Q (w : World) (F : Nat → Prop) (r : (List Int)) (v : Value) (w' : World) : Prop :=
 FO Yo w w' [v] r ∧ Ky [] w w'
theorem slices_Clone_int_int.calls (a0 : (List Int)) (w : World) (F : Nat → Prop) (w0_0 : Value) (h0_0 : Yo.rd w [w0_0] a0 F) (r : (List Int)) (m : slices_Clone_int_int.f a0 = some r) :
  Calls prog 52 #[w0_0] w (RT (slices_Clone_int_int.Q w F) r) := by
 obtain ⟨s0, rfl, kp0, z⟩ := Xn w F
 have A0_0 := z.rd h0_0
 refine Xf (args := [w0_0]) func52 ntmps52 rfl rfl m ?_
 unfold slices_Clone_int_int.f
 refine sr (Xb rfl (dn (sq (sr (Xw w0_0 rfl (nq A0_0 u59 rfl rfl rfl rfl rfl rfl rfl (fun nb2 hn2 => ?_)))))))
 refine dn (cdb rfl (fun h3 => ?_) (fun h3 => ?_))
 ·
  obtain rfl := hn2 h3
  exact mg fun _ => (sr (Xb rfl (dn (re rfl func52 rfl (Xv rfl Xg) rfl ⟨_, rfl, (ow_nil 3 (Kd.int .i64) s0 40).fo kp0 rfl z.l, z.ky kp0⟩))))
 refine sk (sr (lt0 (K := (Kd.int .i64)) 40 u59 z3 rfl rfl rfl rfl rfl (fun v4 s4 p4 A4 => ?_)))
 refine Xw w0_0 rfl ?_
 have K6 := kp0.st p4 rfl
 refine apF Yd sl59 A4 (A0_0.kp K6) rfl rfl rfl rfl rfl rfl rfl (fun v8 s8 p8 A8 => ?_)
 refine asg' v8 rfl (dn ?_)
 have K10 := K6.st p8 rfl
 exact re rfl func52 rfl (Xv rfl Xg) rfl ⟨_, rfl, A8.fo K10 rfl z.l, z.ky K10⟩
def impl_Tree_own.b0 (a0 : Tree) (x14 : Int × (List Node)) : Option ((Int × (List Node)) ⊕ Tree) :=
 (if (decide (x14.1 < (a0.Nodes.length : Int))) = true then (if 0 ≤ x14.1 ∧ x14.1 < (a0.Nodes.length : Int) then ((impl_ownEntries.f ((at_ a0.Nodes x14.1).Entries)).bind fun r51 => ((slices_Clone_int_int.f ((at_ a0.Nodes x14.1).Kids)).bind fun r60 => (if x14.2.length + ([(Node.mk ((at_ a0.Nodes x14.1).Leaf) r51 r60)]).length ≤ Lim then (some (Sum.inl ((IntKind.wrap .i64 (x14.1 + (1 : Int))), (x14.2 ++ [(Node.mk ((at_ a0.Nodes x14.1).Leaf) r51 r60)])))) else none))) else none) else ((some (Tree.mk x14.2 a0.Root)).bind fun o => some (Sum.inr o)))
def impl_Tree_own.f (a0 : Tree) : Option (Tree) :=
 (iter (impl_Tree_own.b0 a0) ((0 : Int), ([] : (List Node))))
def impl_Tree_own.Q (w : World) (F : Nat → Prop) (r : Tree) (v : Value) (w' : World) : Prop :=
 ∃ (v0 : Value), v = (.agg #[v0, (iI r.Root)]) ∧ FO kd33 w w' [v0, (iI r.Root)] r ∧ Ky [] w w'
theorem impl_Tree_own.calls (a0 : Tree) (w : World) (F : Nat → Prop) (w0_0 : Value) (h0_0 : Yp.rd w [w0_0] a0.Nodes F) (r : Tree) (m : impl_Tree_own.f a0 = some r) :
  Calls prog 30 #[(.agg #[w0_0, (iI a0.Root)])] w (RT (impl_Tree_own.Q w F) r) := by
 obtain ⟨s0, rfl, kp0, z⟩ := Xn w F
 have A0_0 := z.rd h0_0
 refine Xf (args := [(.agg #[w0_0, (iI a0.Root)])]) func30 ntmps30 rfl rfl m ?_
 unfold impl_Tree_own.f
 refine sr (bx' (cs := [w0_0, (iI a0.Root)]) 40 rfl rfl (fun b2 s2 p2 B2 => ?_))
 refine al' (cs := [(.slice none 0 0), (iI 0)]) 41 rfl o33 rfl (fun b4 s4 p4 B4 => ?_)
 refine dn (sr (Xs fa33_1 rfl ?_))
 have A6 := B2.st p4 rfl
 refine Yb A6 u3 rfl (bd (cells := [(.slice none 0 0), (iI a0.Root)]) pl33 o33 rfl rfl rfl rfl rfl rfl (al' (cs := [(.slice none 0 0), (iI 0)]) 42 rfl o33 rfl (fun b7 s7 p7 B7 => ?_)))
 refine Yk (vs := [(.slice none 0 0), (iI a0.Root)]) B7 z33 rfl (Xd rfl (Xd rfl Xt)) rfl (fun s9 p9 B9 => ?_)
 refine dn (sq (sr (Xs fa33_0 rfl ?_)))
 refine Yb (A6.st (Xo p7 p9) rfl) u31 rfl ?_
 have K12 := kp0.st (Yf p2 p4 p7 p9) rfl
 refine ln' (A0_0.kp K12) u31 rfl (Xb rfl (dn (bl ?_)))
 refine lpI (fun (x14 : Int × (List Node)) e w => ∃ (s : St) (e0 : Env) (vx14_0 : Value), w = s.w ∧ e = upd (upd (upd (upd (upd e0 2 (pB b4)) 3 (pB b7)) 10 w0_0) 11 (iI (a0.Nodes.length : Int))) 12 (iI x14.1) ∧ Kp s0 s ∧ OwF Yp s [vx14_0] x14.2 43 ∧ BlF s b7 33 [vx14_0, (iI a0.Root)] 42 ∧ BlF s b4 33 [(.slice none 0 0), (iI 0)] 41) ⟨s9, _, (.slice none 0 0), rfl, (ue (ue (ue (ue (ue rfl rfl) rfl) rfl) rfl) rfl), K12, (ow_nil 61 kd61 _ 43), B9, (B4.st (Xo p7 p9) rfl)⟩ (fun g14 ih14 => ?_)
 rintro x14 _ _ ⟨s16, _, vx14_0, rfl, rfl, Kx14, Ax14_0, Bx14_b7, Bx14_b4⟩
 unfold impl_Tree_own.b0
 refine sr (Xb rfl (dn (sq (cd rfl (fun h20 => ?_) (fun h20 => ?_)))))
 ·
  refine sk (sq (bl (sr ?_)))
  refine ix' (A0_0.kp Kx14) u31 z61 rfl (fun ad22 es22 h0_22 h1_22 he22 ce22 ia22 => ?_)
  obtain ⟨v22_0, v22_1, rfl, A22_0, A22_1⟩ := op61 he22
  refine lca ce22 u61 z61 rfl rfl rfl rfl rfl rfl rfl (al' (cs := [(.bool false), (.slice none 0 0), (.slice none 0 0)]) 44 rfl o61 rfl (fun b26 s26 p26 B26 => ?_))
  have A28 := A22_1.st p26 rfl
  have A29 := A22_0.st p26 rfl
  refine Yk (vs := [(.bool ((at_ a0.Nodes x14.1).Leaf)), v22_0, v22_1]) B26 z61 rfl (Xd rfl (Xd A29.one (Xd A28.one Xt))) rfl (fun s30 p30 B30 => ?_)
  refine dn (Ya [[], [0], [], [2], [], [4], [5], [], [7], [8, 6], [3, 6, 9], [10], [1, 11, 9], [0, 1, 2, 3, 4, 5, 6, 7, 8, 9, 10, 11, 12], [13, 12, 12, 0, 1, 2, 3, 4, 5, 6, 7, 8, 9, 10, 11, 12]] [some 16, some 17, some 18, some 19, some 20, some 21, some 22, some 23, some 24, some 25, some 26, some 27, some 28, some 29, none] [[3], [16], [5], [18], [5], [20], [21], [5], [23], [24], [19, 22, 25], [26], [17, 27], [3], [29, 28]] [0, 1, 2, 3, 4, 5, 6, 7, 8, 9, 10, 11, 12, 13, 14] ⟨by kernel_rfl, by kernel_rfl, by kernel_rfl⟩ (by kernel_rfl) (fun s32 p32 l32 tb32 zd32 => ?_))
  refine Xm 6 [some 24, some 23, some 19, some 18, some 17, some 16] tb32 ((((((((zd32.add 0 16 (pB b7) rfl).add 1 17 vx14_0 rfl).add 2 18 (pB b26) rfl).add 3 19 (.bool ((at_ a0.Nodes x14.1).Leaf)) rfl).add 4 20 (pO b26 1) rfl).add 5 21 v22_0 rfl).add 7 23 (pO b26 2) rfl).add 8 24 v22_1 rfl) (Xa (Xl (B30.st p32 rfl) u59 rfl) rfl (Xa (Xj fa61_2 rfl) rfl (Xa (Xl (B30.st p32 rfl) u52 rfl) rfl (Xa (Xj fa61_1 rfl) rfl (Xa (Xl (B30.st p32 rfl) u4 rfl) rfl (Xa (Xj fa61_0 rfl) rfl (Xa (Xl (Bx14_b7.st (Ye p26 p30 p32) rfl) u31 rfl) rfl (Xa (Xj fa33_0 rfl) rfl Xe)))))))) (by kernel_rfl) rfl (fun l45 e45 zd45 => ?_)
  refine clO 45 rfl func51 rfl (impl_ownEntries.calls ((at_ a0.Nodes x14.1).Entries) s32.w (mm [0] s32) v22_0 (A29.st (Xo p30 p32) rfl)) (fun r51 v51_0 s52 p52 A51_0 => ?_)
  refine Xh (L' := [8, 7, 3, 2, 1, 0]) (D' := [4, 5, 6]) zd45 rfl (fun zd54 => ?_)
  refine Xm 9 [some 19, some 18, some 17, some 16] tb32 zd54 (Xa (Xl (B30.st (Xo p32 p52) rfl) u59 rfl) rfl (Xa (Xj fa61_2 rfl) rfl (Xa (Xl (B30.st (Xo p32 p52) rfl) u4 rfl) rfl (Xa (Xj fa61_0 rfl) rfl (Xa (Xl (Bx14_b7.st (Yf p26 p30 p32 p52) rfl) u31 rfl) rfl (Xa (Xj fa33_0 rfl) rfl Xe)))))) (by kernel_rfl) rfl (fun l55 e55 zd55 => ?_)
  refine clO 46 rfl func52 rfl (slices_Clone_int_int.calls ((at_ a0.Nodes x14.1).Kids) s52.w (mm [0] s52) v22_1 (A28.st (Ye p30 p32 p52) rfl)) (fun r60 v60_0 s61 p61 A60_0 => ?_)
  refine Xh (L' := [3, 2, 1, 0]) (D' := [7, 8, 9, 4, 5, 6]) zd55 rfl (fun zd63 => ?_)
  refine Xm 11 [some 17, some 16] tb32 (zd63.add 10 26 (.agg #[(.bool ((at_ a0.Nodes x14.1).Leaf)), v51_0, v60_0]) rfl) (Xa (bd_q' (cells := [(.bool ((at_ a0.Nodes x14.1).Leaf)), v51_0, v60_0]) pl61 o61 rfl (Xx (Yh rfl (Yh (oc (A51_0.st p61 rfl).rd.one) (Yh (oc A60_0.rd.one) pc_n))) rfl)) rfl (Xa (Xl (B30.st (Ye p32 p52 p61) rfl) u4 rfl) rfl (Xa (Xj fa61_0 rfl) rfl (Xa (Xl (Bx14_b7.st (tr5 p26 p30 p32 p52 p61) rfl) u31 rfl) rfl (Xa (Xj fa33_0 rfl) rfl Xe))))) (by kernel_rfl) rfl (fun l66 e66 zd66 => ?_)
  obtain ⟨s71, hw71, p71, A71⟩ := ow_2 (A51_0.st p61 rfl) A60_0 rfl rfl
  rw [hw71]
  have A73 : OwF kd61 s71 [(.bool ((at_ a0.Nodes x14.1).Leaf)), v51_0, v60_0] (Node.mk ((at_ a0.Nodes x14.1).Leaf) r51 r60) 45 := (Xz (fun x : Node => (x.Leaf, x.Entries, x.Kids)) (Node.mk ((at_ a0.Nodes x14.1).Leaf) r51 r60) (ow_l (fz_bool ((at_ a0.Nodes x14.1).Leaf)) A71))
  refine ltO (K := kd61) (cells := [(.bool ((at_ a0.Nodes x14.1).Leaf)), v51_0, v60_0]) [(Node.mk ((at_ a0.Nodes x14.1).Leaf) r51 r60)] 45 u31 z61 o61 (lo_one A73) rfl rfl rfl rfl rfl rfl rfl rfl rfl rfl (fun v76 s76 p76 A76 => ?_)
  refine Xh (L' := [1, 0]) (D' := [2, 3, 10, 11, 7, 8, 9, 4, 5, 6]) zd66 rfl (fun zd78 => ?_)
  refine Xu [12, 13, 14] tb32 zd78 (Xa (Xl (Bx14_b7.st (tr7 p26 p30 p32 p52 p61 p71 p76) rfl) u31 rfl) rfl (Xa (Xj fa33_0 rfl) rfl Xe)) (by kernel_rfl) (by decide) (apO sl31 (Ax14_0.st (tr7 p26 p30 p32 p52 p61 p71 p76) rfl) A76 rfl rfl rfl rfl rfl rfl rfl rfl rfl (fun v81 s81 p81 A81 => ?_))
  refine Xs fa33_0 rfl (sv' (Bx14_b7.st (tr8 p26 p30 p32 p52 p61 p71 p76 p81) rfl) z31 rfl A81.rd.one rfl (fun s84 p84 B84 => ?_))
  refine dn (ib (rg (Xb rfl (Xb rfl (dn ?_)))))
  exact lb ih14 ⟨s84, _, v81, rfl, (ue (ue (ue (ue (ue rfl rfl) rfl) rfl) rfl) rfl), (Kx14.st (tr9 p26 p30 p32 p52 p61 p71 p76 p81 p84) rfl), (A81.st p84 rfl), B84, (Bx14_b4.st (tr9 p26 p30 p32 p52 p61 p71 p76 p81 p84) rfl)⟩
 refine xt rfl (sgb (sr (Yl (es := [vx14_0, (iI a0.Root)]) Bx14_b7 u33 z33 rfl (Yk (vs := [vx14_0, (iI a0.Root)]) Bx14_b4 z33 rfl (Xd Ax14_0.rd.one (Xd rfl Xt)) rfl (fun s89 p89 B89 => ?_)))))
 refine dn ?_
 have A91 : OwF kd33 s89 [vx14_0, (iI a0.Root)] (Tree.mk x14.2 a0.Root) 43 := (Xz (fun x : Tree => (x.Nodes, x.Root)) (Tree.mk x14.2 a0.Root) (ow_r (Ax14_0.st p89 rfl) (Yc .i64 a0.Root)))
 have K94 := Kx14.st p89 rfl
 exact re rfl func30 rfl (r_b B89 u33 rfl z33 rfl Xg) rfl ⟨_, rfl, vx14_0, rfl, A91.fo K94 rfl z.l, z.ky K94⟩
end Go.Proofs.YtlpbggnpiogioaaGreat
