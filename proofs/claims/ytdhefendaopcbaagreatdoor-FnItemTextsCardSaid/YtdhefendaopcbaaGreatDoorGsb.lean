/- The functions as models, and that the calls come to what the models tell. -/
import Derived.Test.YtdhefendaopcbaaGreatDoorGsa
import Derived.Shelf.Strconv.Itoa3
import Derived.Shelf.Lay
import Derived.Ground.NamesProg
import Derived.Shelf.Strconv.ErrVarAll
import Derived.Shelf.Strconv.AtoiAll
import Derived.Shelf.Small.Strs
import Derived.Shelf.Strings.OnBuilder
import Derived.Shelf.Strings.Split
set_option linter.unusedVariables false
set_option linter.unusedSimpArgs false
set_option maxHeartbeats 4000000
set_option maxRecDepth 100000
noncomputable section
namespace Go.Proofs.YtdhefendaopcbaaGreatDoor
open Go V Tryz
def spec_l15op.f (a0 : l1Cur) (a1 : (List Bool)) (a2 : Bool) : Option (Op × l1Cur) :=
 ((spec_l1Below.f a0 (4 : Int)).bind fun r8 => ((spec_l3key.f (l1Cur.mk a0.b r8.2.i r8.2.h)).bind fun r14 => ((spec_l3key.f (l1Cur.mk a0.b r14.2.i r14.2.h)).bind fun r20 => ((spec_l3value.f (l1Cur.mk a0.b r20.2.i r20.2.h)).bind fun r26 => ((spec_l1Once.f (l1Cur.mk a0.b r26.2.i r26.2.h) (4 : Int)).bind fun r39 => ((if r39.1 = true then (if 0 ≤ (40 : Int) ∧ (40 : Int) ≤ (Lim : Int) then (some ((3 : Int), (0 : Int), (0 : Nat), (List.replicate ((40 : Int)).toNat (0 : Int)))) else none) else (some (r26.1.Kind, r26.1.N, r26.1.F, r26.1.T))).bind fun y43 => ((spec_l1Once.f (l1Cur.mk a0.b r39.2.i r39.2.h) (3 : Int)).bind fun r72 => ((if r72.1 = true then ((spec_l1Below.f (l1Cur.mk a0.b r72.2.i r72.2.h) (3 : Int)).bind fun r79 => (some (r79.2.i, r79.2.h, (1 : Int), r79.1, (0 : Nat), ([] : (List Int))))) else (some (r72.2.i, r72.2.h, r14.1.Kind, r14.1.N, r14.1.F, r14.1.T))).bind fun y75 => ((spec_l1Once.f (l1Cur.mk a0.b y75.1 y75.2.1) (3 : Int)).bind fun r102 => ((if r102.1 = true then ((spec_l1Below.f (l1Cur.mk a0.b r102.2.i r102.2.h) (2 : Int)).bind fun r109 => (some (r109.2.i, r109.2.h, r109.1))) else (some (r102.2.i, r102.2.h, r8.1))).bind fun y105 => ((spec_l1Below.f (l1Cur.mk a0.b y105.1 y105.2.1) (2 : Int)).bind fun r132 => (if 0 ≤ y105.2.2 ∧ y105.2.2 < (a1.length : Int) then ((if (!(at_ a1 y105.2.2)) = true then ((spec_l1Once.f (l1Cur.mk a0.b r132.2.i r132.2.h) (9 : Int)).bind fun r144 => (some ((!r144.1), r144.2.i, r144.2.h))) else (some (false, r132.2.i, r132.2.h))).bind fun y142 => (if y142.1 = true then (some ((Op.mk (1 : Int) y105.2.2 r132.1 (0 : Int) (Item.mk y75.2.2.1 y75.2.2.2.1 y75.2.2.2.2.1 y75.2.2.2.2.2) r20.1 (Item.mk y43.1 y43.2.1 y43.2.2.1 y43.2.2.2) ([] : (List Bool))), (l1Cur.mk a0.b y142.2.1 y142.2.2))) else ((spec_l1Below.f (l1Cur.mk a0.b y142.2.1 y142.2.2) (16 : Int)).bind fun r185 => ((if (r185.1 == (0 : Int)) = true then (some (r185.1 == (0 : Int))) else ((if (r185.1 == (1 : Int)) = true then (some (r185.1 == (1 : Int))) else (some (r185.1 == (2 : Int)))).bind fun y196 => (some y196))).bind fun y188 => ((if y188 = true then (some (r185.2.i, r185.2.h, (2 : Int), (0 : Int))) else ((if (r185.1 == (3 : Int)) = true then (some (r185.1 == (3 : Int))) else ((if (r185.1 == (4 : Int)) = true then (some (r185.1 == (4 : Int))) else ((if (r185.1 == (5 : Int)) = true then (some (r185.1 == (5 : Int))) else ((if (r185.1 == (6 : Int)) = true then (some (r185.1 == (6 : Int))) else (some (r185.1 == (7 : Int)))).bind fun y234 => (some y234))).bind fun y232 => (some y232))).bind fun y230 => (some y230))).bind fun y228 => ((if y228 = true then (some (r185.2.i, r185.2.h, (3 : Int), (0 : Int))) else ((if (r185.1 == (8 : Int)) = true then (some (r185.1 == (8 : Int))) else (some (r185.1 == (9 : Int)))).bind fun y262 => ((if y262 = true then (some (r185.2.i, r185.2.h, (4 : Int), (0 : Int))) else ((if (r185.1 == (10 : Int)) = true then ((spec_l1Below.f (l1Cur.mk a0.b r185.2.i r185.2.h) (6 : Int)).bind fun r284 => (some (r284.2.i, r284.2.h, (5 : Int), r284.1))) else ((if (r185.1 == (11 : Int)) = true then (some (r185.2.i, r185.2.h, (6 : Int))) else ((if (r185.1 == (12 : Int)) = true then (some (r185.1 == (12 : Int))) else (some (r185.1 == (13 : Int)))).bind fun y307 => ((if y307 = true then (some (r185.2.i, r185.2.h, (7 : Int))) else ((if (r185.1 == (14 : Int)) = true then ((spec_l1Once.f (l1Cur.mk a0.b r185.2.i r185.2.h) (2 : Int)).bind fun r329 => ((if r329.1 = true then (some (9 : Int)) else (some (8 : Int))).bind fun y333 => (some (r329.2.i, r329.2.h, y333)))) else (some (r185.2.i, r185.2.h, (9 : Int)))).bind fun y323 => (some (y323.1, y323.2.1, y323.2.2)))).bind fun y313 => (some (y313.1, y313.2.1, y313.2.2))))).bind fun y297 => (some (y297.1, y297.2.1, y297.2.2, (0 : Int))))).bind fun y278 => (some (y278.1, y278.2.1, y278.2.2.1, y278.2.2.2)))).bind fun y268 => (some (y268.1, y268.2.1, y268.2.2.1, y268.2.2.2))))).bind fun y252 => (some (y252.1, y252.2.1, y252.2.2.1, y252.2.2.2))))).bind fun y218 => ((if ((y218.2.2.1 == (5 : Int)) || (y218.2.2.1 == (6 : Int))) = true then ((spec_l1Once.f (l1Cur.mk a0.b y218.1 y218.2.1) (2 : Int)).bind fun r393 => (some (r393.1, r393.2.i, r393.2.h))) else (some (false, y218.1, y218.2.1))).bind fun y391 => ((if y391.1 = true then (some ((1 : Int), (-9 : Int), (0 : Nat), ([] : (List Int)), (3 : Int), (0 : Int), (0 : Nat), [(122 : Int), (122 : Int)])) else (some (y75.2.2.1, y75.2.2.2.1, y75.2.2.2.2.1, y75.2.2.2.2.2, r20.1.Kind, r20.1.N, r20.1.F, r20.1.T))).bind fun y406 => ((if a2 = true then ((spec_l1Once.f (l1Cur.mk a0.b y391.2.1 y391.2.2) (25 : Int)).bind fun r439 => (some (r439.1, r439.2.i, r439.2.h))) else (some (false, y391.2.1, y391.2.2))).bind fun y437 => ((if y437.1 = true then ((spec_l1Below.f (l1Cur.mk a0.b y437.2.1 y437.2.2) (6 : Int)).bind fun r455 => ((if (r455.1 == (0 : Int)) = true then ((spec_l1Below.f (l1Cur.mk a0.b r455.2.i r455.2.h) (16 : Int)).bind fun r462 => (some (r462.2.i, r462.2.h, (IntKind.wrap .i64 (r462.1 - (1 : Int))), y105.2.2, r132.1, y218.2.2.2, y406.1, y406.2.1, y406.2.2.1, y406.2.2.2.1, y43.1, y43.2.1, y43.2.2.1, y43.2.2.2))) else ((if (r455.1 == (1 : Int)) = true then ((spec_l1PickInt.f (l1Cur.mk a0.b r455.2.i r455.2.h) ([(-1 : Int), (7 : Int), (8 : Int)])).bind fun r484 => (some (r484.2.i, r484.2.h, r484.1, r132.1, y218.2.2.2, y406.1, y406.2.1, y406.2.2.1, y406.2.2.2.1, y43.1, y43.2.1, y43.2.2.1, y43.2.2.2))) else ((if (r455.1 == (2 : Int)) = true then ((spec_l1PickInt.f (l1Cur.mk a0.b r455.2.i r455.2.h) ([(-1 : Int), (2 : Int)])).bind fun r507 => (some (r507.2.i, r507.2.h, r507.1, y218.2.2.2, y406.1, y406.2.1, y406.2.2.1, y406.2.2.2.1, y43.1, y43.2.1, y43.2.2.1, y43.2.2.2))) else ((if (r455.1 == (3 : Int)) = true then ((spec_l3any.f (l1Cur.mk a0.b r455.2.i r455.2.h)).bind fun r528 => (some (r528.2.i, r528.2.h, y218.2.2.2, r528.1.Kind, r528.1.N, r528.1.F, r528.1.T, y43.1, y43.2.1, y43.2.2.1, y43.2.2.2))) else ((if (r455.1 == (4 : Int)) = true then ((spec_l1PickInt.f (l1Cur.mk a0.b r455.2.i r455.2.h) ([(-1 : Int), (50 : Int), (51 : Int)])).bind fun r551 => (some (r551.2.i, r551.2.h, r551.1, y43.1, y43.2.1, y43.2.2.1, y43.2.2.2))) else ((if (r455.1 == (5 : Int)) = true then ((spec_l3any.f (l1Cur.mk a0.b r455.2.i r455.2.h)).bind fun r570 => (some (r570.2.i, r570.2.h, r570.1.Kind, r570.1.N, r570.1.F, r570.1.T))) else (some (r455.2.i, r455.2.h, y43.1, y43.2.1, y43.2.2.1, y43.2.2.2))).bind fun y566 => (some (y566.1, y566.2.1, y218.2.2.2, y566.2.2.1, y566.2.2.2.1, y566.2.2.2.2.1, y566.2.2.2.2.2)))).bind fun y545 => (some (y545.1, y545.2.1, y545.2.2.1, y406.1, y406.2.1, y406.2.2.1, y406.2.2.2.1, y545.2.2.2.1, y545.2.2.2.2.1, y545.2.2.2.2.2.1, y545.2.2.2.2.2.2)))).bind fun y524 => (some (y524.1, y524.2.1, r132.1, y524.2.2.1, y524.2.2.2.1, y524.2.2.2.2.1, y524.2.2.2.2.2.1, y524.2.2.2.2.2.2.1, y524.2.2.2.2.2.2.2.1, y524.2.2.2.2.2.2.2.2.1, y524.2.2.2.2.2.2.2.2.2.1, y524.2.2.2.2.2.2.2.2.2.2)))).bind fun y501 => (some (y501.1, y501.2.1, y105.2.2, y501.2.2.1, y501.2.2.2.1, y501.2.2.2.2.1, y501.2.2.2.2.2.1, y501.2.2.2.2.2.2.1, y501.2.2.2.2.2.2.2.1, y501.2.2.2.2.2.2.2.2.1, y501.2.2.2.2.2.2.2.2.2.1, y501.2.2.2.2.2.2.2.2.2.2.1, y501.2.2.2.2.2.2.2.2.2.2.2)))).bind fun y478 => (some (y478.1, y478.2.1, y218.2.2.1, y478.2.2.1, y478.2.2.2.1, y478.2.2.2.2.1, y478.2.2.2.2.2.1, y478.2.2.2.2.2.2.1, y478.2.2.2.2.2.2.2.1, y478.2.2.2.2.2.2.2.2.1, y478.2.2.2.2.2.2.2.2.2.1, y478.2.2.2.2.2.2.2.2.2.2.1, y478.2.2.2.2.2.2.2.2.2.2.2.1, y478.2.2.2.2.2.2.2.2.2.2.2.2)))).bind fun y458 => (some (y458.1, y458.2.1, y458.2.2.1, y458.2.2.2.1, y458.2.2.2.2.1, y458.2.2.2.2.2.1, y458.2.2.2.2.2.2.1, y458.2.2.2.2.2.2.2.1, y458.2.2.2.2.2.2.2.2.1, y458.2.2.2.2.2.2.2.2.2.1, y458.2.2.2.2.2.2.2.2.2.2.1, y458.2.2.2.2.2.2.2.2.2.2.2.1, y458.2.2.2.2.2.2.2.2.2.2.2.2.1, y458.2.2.2.2.2.2.2.2.2.2.2.2.2)))) else (some (y437.2.1, y437.2.2, y218.2.2.1, y105.2.2, r132.1, y218.2.2.2, y406.1, y406.2.1, y406.2.2.1, y406.2.2.2.1, y43.1, y43.2.1, y43.2.2.1, y43.2.2.2))).bind fun y452 => (some ((Op.mk y452.2.2.1 y452.2.2.2.1 y452.2.2.2.2.1 y452.2.2.2.2.2.1 (Item.mk y452.2.2.2.2.2.2.1 y452.2.2.2.2.2.2.2.1 y452.2.2.2.2.2.2.2.2.1 y452.2.2.2.2.2.2.2.2.2.1) (Item.mk y406.2.2.2.2.1 y406.2.2.2.2.2.1 y406.2.2.2.2.2.2.1 y406.2.2.2.2.2.2.2) (Item.mk y452.2.2.2.2.2.2.2.2.2.2.1 y452.2.2.2.2.2.2.2.2.2.2.2.1 y452.2.2.2.2.2.2.2.2.2.2.2.2.1 y452.2.2.2.2.2.2.2.2.2.2.2.2.2) ([] : (List Bool))), (l1Cur.mk a0.b y452.1 y452.2.1)))))))))))) else none))))))))))))
def spec_l15op.Q (w : World) (F : Nat → Prop) (p0 : Nat) (w0_0 : Value) (r : Op × l1Cur) (v : Value) (w' : World) : Prop :=
 ∃ (v0 : Value) (v1 : Value) (v2 : Value) (v3 : Value) (v4 : Value) (v5 : Value) (v6 : Value), v = (.agg #[(iI r.1.Kind), (iI r.1.Seat), (iI r.1.Level), (iI r.1.N), (iI r.1.Key.Kind), (iI r.1.Key.N), v0, v1, (iI r.1.To.Kind), (iI r.1.To.N), v2, v3, (iI r.1.Value.Kind), (iI r.1.Value.N), v4, v5, v6]) ∧ FO kd35 w w' [(iI r.1.Kind), (iI r.1.Seat), (iI r.1.Level), (iI r.1.N), (iI r.1.Key.Kind), (iI r.1.Key.N), v0, v1, (iI r.1.To.Kind), (iI r.1.To.N), v2, v3, (iI r.1.Value.Kind), (iI r.1.Value.N), v4, v5, v6] r.1 ∧ BlW w' p0 80 [w0_0, (iI r.2.i), (iI r.2.h)] ∧ Ky [p0] w w'
theorem spec_l15op.calls (a0 : l1Cur) (a1 : (List Bool)) (a2 : Bool) (w : World) (F : Nat → Prop) (p0 : Nat) (w0_0 : Value) (w1_0 : Value) (h0_0 : Ya.rd w [w0_0] a0.b F) (h1_0 : (Kd.sl 4 Kd.bool).rd w [w1_0] a1 F) (hb0 : BlW w p0 80 [w0_0, (iI a0.i), (iI a0.h)]) (hF : ∀ b, F b → b ∉ [p0]) (r : Op × l1Cur) (m : spec_l15op.f a0 a1 a2 = some r) :
  Calls prog 30 #[(pB p0), w1_0, (.bool a2)] w (RT (spec_l15op.Q w F p0 w0_0) r) := by
 obtain ⟨s0, rfl, kp0, z⟩ := start1 w F [p0] hF
 have A0_0 := z.rd h0_0
 have A1_0 := z.rd h1_0
 refine Xd (args := [(pB p0), w1_0, (.bool a2)]) func30 ntmps30 rfl rfl m ?_
 unfold spec_l15op.f
 refine sr (al (cs := [(iI 0), (iI 0), (iI 0), (iI 0), (iI 0), (iI 0), (.float .f64 0), (.slice none 0 0), (iI 0), (iI 0), (.float .f64 0), (.slice none 0 0), (iI 0), (iI 0), (.float .f64 0), (.slice none 0 0), (.slice none 0 0)]) 40 rfl rfl rfl rfl rfl o35 rfl (fun b4 s4 p4 B4 => ?_))
 refine dn (sr (Xc rfl ?_))
 have K6 := kp0.st p4 rfl
 have A9 := BlF.st (z.bl hb0 (by simp)) p4 rfl
 refine clB A9 rfl func31 rfl (spec_l1Below.calls a0 (4 : Int) s4.w (mm [0] s4) p0 w0_0 (A0_0.kp K6) A9.w (A9.apart rfl)) (fun r8 s10 p10 B10 => ?_)
 refine Xc rfl ?_
 have K12 := K6.st p10 rfl
 refine cl' rfl func57 rfl (spec_l3key.calls (l1Cur.mk a0.b r8.2.i r8.2.h) s10.w (mm [0] s10) p0 w0_0 (A0_0.kp K12) B10.w (B10.apart rfl)) ?_
 rintro r14 _ w14 m14 ⟨v14_0, v14_1, rfl, f14_0, bw14, ky14⟩
 obtain ⟨s15, rfl, p15, n15, g15⟩ := nwb 42 B10 ky14
 obtain ⟨hu14_0_0, Au14_0_1⟩ := ap26 (f14_0.c n15)
 have B15 := Xy bw14 g15
 refine Xc rfl ?_
 have K18 := K12.st p15 rfl
 refine cl' rfl func57 rfl (spec_l3key.calls (l1Cur.mk a0.b r14.2.i r14.2.h) s15.w (mm [0] s15) p0 w0_0 (A0_0.kp K18) B15.w (B15.apart rfl)) ?_
 rintro r20 _ w20 m20 ⟨v20_0, v20_1, rfl, f20_0, bw20, ky20⟩
 obtain ⟨s21, rfl, p21, n21, g21⟩ := nwb 43 B15 ky20
 obtain ⟨hu20_0_0, Au20_0_1⟩ := ap26 (f20_0.c n21)
 have B21 := Xy bw20 g21
 refine Xc rfl ?_
 have K24 := K18.st p21 rfl
 refine cl' rfl func56 rfl (spec_l3value.calls (l1Cur.mk a0.b r20.2.i r20.2.h) s21.w (mm [0] s21) p0 w0_0 (A0_0.kp K24) B21.w (B21.apart rfl)) ?_
 rintro r26 _ w26 m26 ⟨v26_0, v26_1, rfl, f26_0, bw26, ky26⟩
 obtain ⟨s27, rfl, p27, n27, g27⟩ := nwb 44 B21 ky26
 obtain ⟨hu26_0_0, Au26_0_1⟩ := ap26 (f26_0.c n27)
 have B27 := Xy bw26 g27
 refine bd (cells := [(iI 0), (iI r8.1), (iI 0), (iI 0), (iI r14.1.Kind), (iI r14.1.N), v14_0, v14_1, (iI r20.1.Kind), (iI r20.1.N), v20_0, v20_1, (iI r26.1.Kind), (iI r26.1.N), v26_0, v26_1, (.slice none 0 0)]) pl35 o35 rfl rfl rfl rfl rfl rfl (al (cs := [(iI 0), (iI 0), (iI 0), (iI 0), (iI 0), (iI 0), (.float .f64 0), (.slice none 0 0), (iI 0), (iI 0), (.float .f64 0), (.slice none 0 0), (iI 0), (iI 0), (.float .f64 0), (.slice none 0 0), (.slice none 0 0)]) 45 rfl rfl rfl rfl rfl o35 rfl (fun b30 s30 p30 B30 => ?_))
 have A32 := Au26_0_1.st p30 rfl
 have A33 := Au20_0_1.st (Xk p27 p30) rfl
 have A34 := Au14_0_1.st (Xw p21 p27 p30) rfl
 refine Xx (vs := [(iI 0), (iI r8.1), (iI 0), (iI 0), (iI r14.1.Kind), (iI r14.1.N), v14_0, v14_1, (iI r20.1.Kind), (iI r20.1.N), v20_0, v20_1, (iI r26.1.Kind), (iI r26.1.N), v26_0, v26_1, (.slice none 0 0)]) B30 z35 rfl (Xa rfl (Xa rfl (Xa rfl (Xa rfl (Xa rfl (Xa rfl (Xa (FL.one hu14_0_0) (Xa A34.rd.one (Xa rfl (Xa rfl (Xa (FL.one hu20_0_0) (Xa A33.rd.one (Xa rfl (Xa rfl (Xa (FL.one hu26_0_0) (Xa A32.rd.one (Xa rfl Xi))))))))))))))))) rfl (fun s35 p35 B35 => ?_)
 replace B35 : BlF s35 b30 35 [(iI 0), (iI r8.1), (iI 0), (iI 0), (iI r14.1.Kind), (iI r14.1.N), v14_0, v14_1, (iI r20.1.Kind), (iI r20.1.N), v20_0, v20_1, (iI r26.1.Kind), (iI r26.1.N), v26_0, v26_1, (.slice none 0 0)] 45 := B35
 refine dn (sq (sr (Xc rfl ?_)))
 have K37 := K24.st (Xw p27 p30 p35) rfl
 have A40 := B27.st (Xk p30 p35) rfl
 refine clB A40 rfl func24 rfl (spec_l1Once.calls (l1Cur.mk a0.b r26.2.i r26.2.h) (4 : Int) s35.w (mm [0] s35) p0 w0_0 (A0_0.kp K37) A40.w (A40.apart rfl)) (fun r39 s41 p41 B41 => ?_)
 refine dn (jc (fun (y43 : Int × Int × Nat × (List Int)) e w => ∃ (s : St) (e0 : Env) (vy43_0 uy43_0 : Value), w = s.w ∧ e = upd (upd (upd (upd (upd e0 0 (pB p0)) 1 w1_0) 2 (.bool a2)) 6 (pB b4)) 7 (pB b30) ∧ Kp s0 s ∧ OwF Ya s [vy43_0] y43.2.2.2 47 ∧ FL uy43_0 y43.2.2.1 ∧ BlF s p0 80 [w0_0, (iI r39.2.i), (iI r39.2.h)] 2 ∧ BlF s b30 35 [(iI 0), (iI r8.1), (iI 0), (iI 0), (iI r14.1.Kind), (iI r14.1.N), v14_0, v14_1, (iI r20.1.Kind), (iI r20.1.N), v20_0, v20_1, (iI y43.1), (iI y43.2.1), uy43_0, vy43_0, (.slice none 0 0)] 45 ∧ BlF s b4 35 [(iI 0), (iI 0), (iI 0), (iI 0), (iI 0), (iI 0), (.float .f64 0), (.slice none 0 0), (iI 0), (iI 0), (.float .f64 0), (.slice none 0 0), (iI 0), (iI 0), (.float .f64 0), (.slice none 0 0), (.slice none 0 0)] 40 ∧ OwF Ya s [v14_1] r14.1.T 42 ∧ OwF Ya s [v20_1] r20.1.T 43) (fun Gj43 Kj43 => ?_) ?_)
 ·
  refine cd rfl (fun h44 => ?_) (fun h44 => ?_)
  ·
   refine rg (mk (x0 := (0 : Int)) (K := (Kd.int .u8)) 48 sl22 o5 (fun _ => ⟨rfl, rfl⟩) rfl rfl rfl rfl rfl rfl rfl (fun v45 s45 p45 A45 => ?_))
   refine bd (cells := [(iI 3), (iI 0), (.float .f64 0), v45]) pl26 o26 rfl rfl rfl rfl rfl (lfill_pc (pc_c rfl (pc_c (oc A45.rd.one) pc_n)) rfl) (Xt fa35_6 rfl ?_)
   refine Xx (vs := [(iI 3), (iI 0), (.float .f64 0), v45]) (B35.st (Xk p41 p45) rfl) z26 rfl (Xa rfl (Xa rfl (Xa (FL.one (Xl rfl)) (Xa A45.rd.one Xi)))) rfl (fun s48 p48 B48 => ?_)
   replace B48 : BlF s48 b30 35 [(iI 0), (iI r8.1), (iI 0), (iI 0), (iI r14.1.Kind), (iI r14.1.N), v14_0, v14_1, (iI r20.1.Kind), (iI r20.1.N), v20_0, v20_1, (iI 3), (iI 0), (.float .f64 0), v45, (.slice none 0 0)] 45 := B48
   refine dn ?_
   obtain ⟨s51, hw51, p51, A51⟩ := (A45.st p48 rfl).rc 47 rfl
   rw [hw51]
   exact Kj43 _ _ _ ⟨s51, _, v45, (.float .f64 0), rfl, (ue (ue (ue (ue (ue rfl rfl) rfl) rfl) rfl) rfl), (K37.st (tr4 p41 p45 p48 p51) rfl), A51, (Xl rfl), (B41.st (Xw p45 p48 p51) rfl), (B48.st p51 rfl), (B4.st (tr10 p10 p15 p21 p27 p30 p35 p41 p45 p48 p51) rfl), (A34.st (tr5 p35 p41 p45 p48 p51) rfl), (A33.st (tr5 p35 p41 p45 p48 p51) rfl)⟩
  refine sk ?_
  obtain ⟨s59, hw59, p59, A59⟩ := (A32.st (Xk p35 p41) rfl).rc 47 rfl
  rw [hw59]
  exact Kj43 _ _ _ ⟨s59, _, v26_1, v26_0, rfl, (ue (ue (ue (ue (ue rfl rfl) rfl) rfl) rfl) rfl), (K37.st (Xk p41 p59) rfl), A59, hu26_0_0, (B41.st p59 rfl), (B35.st (Xk p41 p59) rfl), (B4.st (tr8 p10 p15 p21 p27 p30 p35 p41 p59) rfl), (A34.st (Xw p35 p41 p59) rfl), (A33.st (Xw p35 p41 p59) rfl)⟩
 rintro y43 _ _ ⟨s66, _, vy43_0, uy43_0, rfl, rfl, Ky43, Ay43_0, Fy43_0, By43_p0, By43_b30, By43_b4, Cy43_16, Cy43_22⟩
 refine sq (sr (Xc rfl ?_))
 refine clB By43_p0 rfl func24 rfl (spec_l1Once.calls (l1Cur.mk a0.b r39.2.i r39.2.h) (3 : Int) s66.w (mm [0] s66) p0 w0_0 (A0_0.kp Ky43) By43_p0.w (By43_p0.apart rfl)) (fun r72 s73 p73 B73 => ?_)
 refine dn (jc (fun (y75 : Int × Int × Int × Int × Nat × (List Int)) e w => ∃ (s : St) (e0 : Env) (vy75_0 uy75_0 : Value), w = s.w ∧ e = upd (upd (upd (upd (upd e0 0 (pB p0)) 1 w1_0) 2 (.bool a2)) 6 (pB b4)) 7 (pB b30) ∧ Kp s0 s ∧ OwF Ya s [vy75_0] y75.2.2.2.2.2 42 ∧ FL uy75_0 y75.2.2.2.2.1 ∧ BlF s p0 80 [w0_0, (iI y75.1), (iI y75.2.1)] 2 ∧ BlF s b30 35 [(iI 0), (iI r8.1), (iI 0), (iI 0), (iI y75.2.2.1), (iI y75.2.2.2.1), uy75_0, vy75_0, (iI r20.1.Kind), (iI r20.1.N), v20_0, v20_1, (iI y43.1), (iI y43.2.1), uy43_0, vy43_0, (.slice none 0 0)] 45 ∧ BlF s b4 35 [(iI 0), (iI 0), (iI 0), (iI 0), (iI 0), (iI 0), (.float .f64 0), (.slice none 0 0), (iI 0), (iI 0), (.float .f64 0), (.slice none 0 0), (iI 0), (iI 0), (.float .f64 0), (.slice none 0 0), (.slice none 0 0)] 40 ∧ OwF Ya s [v20_1] r20.1.T 43 ∧ OwF Ya s [vy43_0] y43.2.2.2 47) (fun Gj75 Kj75 => ?_) ?_)
 ·
  refine cd rfl (fun h76 => ?_) (fun h76 => ?_)
  ·
   refine rg (Xc rfl ?_)
   have K77 := Ky43.st p73 rfl
   refine clB B73 rfl func31 rfl (spec_l1Below.calls (l1Cur.mk a0.b r72.2.i r72.2.h) (3 : Int) s73.w (mm [0] s73) p0 w0_0 (A0_0.kp K77) B73.w (B73.apart rfl)) (fun r79 s80 p80 B80 => ?_)
   refine bd (cells := [(iI 1), (iI r79.1), (.float .f64 0), (.slice none 0 0)]) pl26 o26 rfl rfl rfl rfl rfl rfl (Xt fa35_4 rfl ?_)
   refine Xx (vs := [(iI 1), (iI r79.1), (.float .f64 0), (.slice none 0 0)]) (By43_b30.st (Xk p73 p80) rfl) z26 rfl (Xa rfl (Xa rfl (Xa (FL.one (Xl rfl)) (Xa rfl Xi)))) rfl (fun s83 p83 B83 => ?_)
   replace B83 : BlF s83 b30 35 [(iI 0), (iI r8.1), (iI 0), (iI 0), (iI 1), (iI r79.1), (.float .f64 0), (.slice none 0 0), (iI r20.1.Kind), (iI r20.1.N), v20_0, v20_1, (iI y43.1), (iI y43.2.1), uy43_0, vy43_0, (.slice none 0 0)] 45 := B83
   exact dn (Kj75 _ _ _ ⟨s83, _, (.slice none 0 0), (.float .f64 0), rfl, (ue (ue (ue (ue (ue rfl rfl) rfl) rfl) rfl) rfl), (K77.st (Xk p80 p83) rfl), (Xu 5 (Kd.int .u8) _ 42), (Xl rfl), (B80.st p83 rfl), B83, (By43_b4.st (Xw p73 p80 p83) rfl), (Cy43_22.st (Xw p73 p80 p83) rfl), (Ay43_0.st (Xw p73 p80 p83) rfl)⟩)
  exact sk (Kj75 _ _ _ ⟨s73, _, v14_1, v14_0, rfl, (ue (ue (ue (ue (ue rfl rfl) rfl) rfl) rfl) rfl), (Ky43.st p73 rfl), (Cy43_16.st p73 rfl), hu14_0_0, B73, (By43_b30.st p73 rfl), (By43_b4.st p73 rfl), (Cy43_22.st p73 rfl), (Ay43_0.st p73 rfl)⟩)
 rintro y75 _ _ ⟨s96, _, vy75_0, uy75_0, rfl, rfl, Ky75, Ay75_0, Fy75_0, By75_p0, By75_b30, By75_b4, Cy75_22, Cy75_67⟩
 refine sq (sr (Xc rfl ?_))
 refine clB By75_p0 rfl func24 rfl (spec_l1Once.calls (l1Cur.mk a0.b y75.1 y75.2.1) (3 : Int) s96.w (mm [0] s96) p0 w0_0 (A0_0.kp Ky75) By75_p0.w (By75_p0.apart rfl)) (fun r102 s103 p103 B103 => ?_)
 refine dn (jc (fun (y105 : Int × Int × Int) e w => ∃ (s : St) (e0 : Env), w = s.w ∧ e = upd (upd (upd (upd (upd e0 0 (pB p0)) 1 w1_0) 2 (.bool a2)) 6 (pB b4)) 7 (pB b30) ∧ Kp s0 s ∧ BlF s p0 80 [w0_0, (iI y105.1), (iI y105.2.1)] 2 ∧ BlF s b30 35 [(iI 0), (iI y105.2.2), (iI 0), (iI 0), (iI y75.2.2.1), (iI y75.2.2.2.1), uy75_0, vy75_0, (iI r20.1.Kind), (iI r20.1.N), v20_0, v20_1, (iI y43.1), (iI y43.2.1), uy43_0, vy43_0, (.slice none 0 0)] 45 ∧ BlF s b4 35 [(iI 0), (iI 0), (iI 0), (iI 0), (iI 0), (iI 0), (.float .f64 0), (.slice none 0 0), (iI 0), (iI 0), (.float .f64 0), (.slice none 0 0), (iI 0), (iI 0), (.float .f64 0), (.slice none 0 0), (.slice none 0 0)] 40 ∧ OwF Ya s [vy75_0] y75.2.2.2.2.2 42 ∧ OwF Ya s [v20_1] r20.1.T 43 ∧ OwF Ya s [vy43_0] y43.2.2.2 47) (fun Gj105 Kj105 => ?_) ?_)
 ·
  refine cd rfl (fun h106 => ?_) (fun h106 => ?_)
  ·
   refine rg (Xc rfl ?_)
   have K107 := Ky75.st p103 rfl
   refine clB B103 rfl func31 rfl (spec_l1Below.calls (l1Cur.mk a0.b r102.2.i r102.2.h) (2 : Int) s103.w (mm [0] s103) p0 w0_0 (A0_0.kp K107) B103.w (B103.apart rfl)) (fun r109 s110 p110 B110 => ?_)
   refine Xt fa35_1 rfl (sv' (By75_b30.st (Xk p103 p110) rfl) z3 rfl rfl rfl (fun s113 p113 B113 => ?_))
   replace B113 : BlF s113 b30 35 [(iI 0), (iI r109.1), (iI 0), (iI 0), (iI y75.2.2.1), (iI y75.2.2.2.1), uy75_0, vy75_0, (iI r20.1.Kind), (iI r20.1.N), v20_0, v20_1, (iI y43.1), (iI y43.2.1), uy43_0, vy43_0, (.slice none 0 0)] 45 := B113
   exact dn (Kj105 _ _ _ ⟨s113, _, rfl, (ue (ue (ue (ue (ue rfl rfl) rfl) rfl) rfl) rfl), (K107.st (Xk p110 p113) rfl), (B110.st p113 rfl), B113, (By75_b4.st (Xw p103 p110 p113) rfl), (Ay75_0.st (Xw p103 p110 p113) rfl), (Cy75_22.st (Xw p103 p110 p113) rfl), (Cy75_67.st (Xw p103 p110 p113) rfl)⟩)
  exact sk (Kj105 _ _ _ ⟨s103, _, rfl, (ue (ue (ue (ue (ue rfl rfl) rfl) rfl) rfl) rfl), (Ky75.st p103 rfl), B103, (By75_b30.st p103 rfl), (By75_b4.st p103 rfl), (Ay75_0.st p103 rfl), (Cy75_22.st p103 rfl), (Cy75_67.st p103 rfl)⟩)
 rintro y105 _ _ ⟨s127, _, rfl, rfl, Ky105, By105_p0, By105_b30, By105_b4, Cy105_97, Cy105_22, Cy105_67⟩
 refine sr (Xc rfl ?_)
 refine clB By105_p0 rfl func31 rfl (spec_l1Below.calls (l1Cur.mk a0.b y105.1 y105.2.1) (2 : Int) s127.w (mm [0] s127) p0 w0_0 (A0_0.kp Ky105) By105_p0.w (By105_p0.apart rfl)) (fun r132 s133 p133 B133 => ?_)
 refine Xt fa35_2 rfl (sv' (By105_b30.st p133 rfl) z3 rfl rfl rfl (fun s136 p136 B136 => ?_))
 replace B136 : BlF s136 b30 35 [(iI 0), (iI y105.2.2), (iI r132.1), (iI 0), (iI y75.2.2.1), (iI y75.2.2.2.1), uy75_0, vy75_0, (iI r20.1.Kind), (iI r20.1.N), v20_0, v20_1, (iI y43.1), (iI y43.2.1), uy43_0, vy43_0, (.slice none 0 0)] 45 := B136
 refine dn (sq (sr (mv' w1_0 rfl (Xt fa35_1 rfl (ld' B136 u3 rfl ?_)))))
 have K138 := Ky105.st (Xk p133 p136) rfl
 refine ix (A1_0.kp K138) u33 z4 rfl rfl rfl rfl rfl rfl rfl rfl (fun ad140 es140 h0_140 h1_140 he140 ce140 ia140 => ?_)
 obtain rfl := he140
 refine lc0 ce140 u4 rfl rfl rfl rfl rfl rfl rfl rfl (Xc rfl (Xc rfl (ji [] (fun (y142 : Bool × Int × Int) e w => ∃ (s : St) (e0 : Env), w = s.w ∧ e = upd (upd (upd (upd (upd e0 0 (pB p0)) 2 (.bool a2)) 6 (pB b4)) 7 (pB b30)) 46 (.bool y142.1) ∧ Kp s0 s ∧ BlF s p0 80 [w0_0, (iI y142.2.1), (iI y142.2.2)] 2 ∧ BlF s b30 35 [(iI 0), (iI y105.2.2), (iI r132.1), (iI 0), (iI y75.2.2.1), (iI y75.2.2.2.1), uy75_0, vy75_0, (iI r20.1.Kind), (iI r20.1.N), v20_0, v20_1, (iI y43.1), (iI y43.2.1), uy43_0, vy43_0, (.slice none 0 0)] 45 ∧ BlF s b4 35 [(iI 0), (iI 0), (iI 0), (iI 0), (iI 0), (iI 0), (.float .f64 0), (.slice none 0 0), (iI 0), (iI 0), (.float .f64 0), (.slice none 0 0), (iI 0), (iI 0), (.float .f64 0), (.slice none 0 0), (.slice none 0 0)] 40 ∧ OwF Ya s [vy75_0] y75.2.2.2.2.2 42 ∧ OwF Ya s [v20_1] r20.1.T 43 ∧ OwF Ya s [vy43_0] y43.2.2.2 47) (fun Gj142 Kj142 => ?_) ?_)))
 ·
  rcases bft (!(at_ a1 y105.2.2)) with hb142 | hb142
  ·
   refine sbT hb142 ?_
   rw [if_pos hb142]
   refine Xc rfl ?_
   have A145 := B133.st p136 rfl
   refine clB A145 rfl func24 rfl (spec_l1Once.calls (l1Cur.mk a0.b r132.2.i r132.2.h) (9 : Int) s136.w (mm [0] s136) p0 w0_0 (A0_0.kp K138) A145.w (A145.apart rfl)) (fun r144 s146 p146 B146 => ?_)
   refine Xc rfl (Xc rfl ?_)
   exact Kj142 _ _ _ ⟨s146, _, rfl, (ue (ue (ue (ue (ue rfl rfl) rfl) rfl) rfl) rfl), (K138.st p146 rfl), B146, (B136.st p146 rfl), (By105_b4.st (Xw p133 p136 p146) rfl), (Cy105_97.st (Xw p133 p136 p146) rfl), (Cy105_22.st (Xw p133 p136 p146) rfl), (Cy105_67.st (Xw p133 p136 p146) rfl)⟩
  refine sbT hb142 ?_
  rw [if_neg (by rw [hb142]; decide)]
  refine Xj rfl (Xj rfl (Xj rfl (Xc rfl ?_)))
  exact Kj142 _ _ _ ⟨s136, _, rfl, (ue (ue (ue (ue (ue rfl rfl) rfl) rfl) rfl) rfl), K138, (B133.st p136 rfl), B136, (By105_b4.st (Xk p133 p136) rfl), (Cy105_97.st (Xk p133 p136) rfl), (Cy105_22.st (Xk p133 p136) rfl), (Cy105_67.st (Xk p133 p136) rfl)⟩
 rintro y142 _ _ ⟨s159, _, rfl, rfl, Ky142, By142_p0, By142_b30, By142_b4, Cy142_97, Cy142_22, Cy142_67⟩
 refine dn (cd rfl (fun h163 => ?_) (fun h163 => ?_))
 ·
  refine sr (Xt fa35_0 rfl (sv' By142_b30 z3 rfl rfl rfl (fun s164 p164 B164 => ?_)))
  replace B164 : BlF s164 b30 35 [(iI 1), (iI y105.2.2), (iI r132.1), (iI 0), (iI y75.2.2.1), (iI y75.2.2.2.1), uy75_0, vy75_0, (iI r20.1.Kind), (iI r20.1.N), v20_0, v20_1, (iI y43.1), (iI y43.2.1), uy43_0, vy43_0, (.slice none 0 0)] 45 := B164
  refine dn (sr (lda' (es := [(iI 1), (iI y105.2.2), (iI r132.1), (iI 0), (iI y75.2.2.1), (iI y75.2.2.2.1), uy75_0, vy75_0, (iI r20.1.Kind), (iI r20.1.N), v20_0, v20_1, (iI y43.1), (iI y43.2.1), uy43_0, vy43_0, (.slice none 0 0)]) B164 u35 z35 rfl ?_))
  have A167 := Cy142_67.st p164 rfl
  have A168 := Cy142_22.st p164 rfl
  have A169 := Cy142_97.st p164 rfl
  refine Xx (vs := [(iI 1), (iI y105.2.2), (iI r132.1), (iI 0), (iI y75.2.2.1), (iI y75.2.2.2.1), uy75_0, vy75_0, (iI r20.1.Kind), (iI r20.1.N), v20_0, v20_1, (iI y43.1), (iI y43.2.1), uy43_0, vy43_0, (.slice none 0 0)]) (By142_b4.st p164 rfl) z35 rfl (Xa rfl (Xa rfl (Xa rfl (Xa rfl (Xa rfl (Xa rfl (Xa (FL.one Fy75_0) (Xa A169.rd.one (Xa rfl (Xa rfl (Xa (FL.one hu20_0_0) (Xa A168.rd.one (Xa rfl (Xa rfl (Xa (FL.one Fy43_0) (Xa A167.rd.one (Xa rfl Xi))))))))))))))))) rfl (fun s170 p170 B170 => ?_)
  replace B170 : BlF s170 b4 35 [(iI 1), (iI y105.2.2), (iI r132.1), (iI 0), (iI y75.2.2.1), (iI y75.2.2.2.1), uy75_0, vy75_0, (iI r20.1.Kind), (iI r20.1.N), v20_0, v20_1, (iI y43.1), (iI y43.2.1), uy43_0, vy43_0, (.slice none 0 0)] 40 := B170
  refine dn ?_
  obtain ⟨s174, hw174, p174, A174⟩ := ow_2 (Xs (fun x : Item => (x.Kind, x.N, x.F, x.T)) r20.1 (Xn (Xe .i64 r20.1.Kind) (Xn (Xe .i64 r20.1.N) (Xn (Xp hu20_0_0) (A168.st p170 rfl))))) (ow_r (Xs (fun x : Item => (x.Kind, x.N, x.F, x.T)) (Item.mk y43.1 y43.2.1 y43.2.2.1 y43.2.2.2) (Xn (Xe .i64 y43.1) (Xn (Xe .i64 y43.2.1) (Xn (Xp Fy43_0) (A167.st p170 rfl))))) (fz_nil 4 Kd.bool)) rfl rfl
  rw [hw174]
  obtain ⟨s177, hw177, p177, A177⟩ := ow_2 (Xs (fun x : Item => (x.Kind, x.N, x.F, x.T)) (Item.mk y75.2.2.1 y75.2.2.2.1 y75.2.2.2.2.1 y75.2.2.2.2.2) (Xn (Xe .i64 y75.2.2.1) (Xn (Xe .i64 y75.2.2.2.1) (Xn (Xp Fy75_0) (A169.st (Xk p170 p174) rfl))))) A174 rfl rfl
  rw [hw177]
  have A179 : OwF kd35 s177 [(iI 1), (iI y105.2.2), (iI r132.1), (iI 0), (iI y75.2.2.1), (iI y75.2.2.2.1), uy75_0, vy75_0, (iI r20.1.Kind), (iI r20.1.N), v20_0, v20_1, (iI y43.1), (iI y43.2.1), uy43_0, vy43_0, (.slice none 0 0)] (Op.mk (1 : Int) y105.2.2 r132.1 (0 : Int) (Item.mk y75.2.2.1 y75.2.2.2.1 y75.2.2.2.2.1 y75.2.2.2.2.2) r20.1 (Item.mk y43.1 y43.2.1 y43.2.2.1 y43.2.2.2) ([] : (List Bool))) 42 := (Xs (fun x : Op => (x.Kind, x.Seat, x.Level, x.N, x.Key, x.To, x.Value, x.Keep)) (Op.mk (1 : Int) y105.2.2 r132.1 (0 : Int) (Item.mk y75.2.2.1 y75.2.2.2.1 y75.2.2.2.2.1 y75.2.2.2.2.2) r20.1 (Item.mk y43.1 y43.2.1 y43.2.2.1 y43.2.2.2) ([] : (List Bool))) (Xn (Xe .i64 (1 : Int)) (Xn (Xe .i64 y105.2.2) (Xn (Xe .i64 r132.1) (Xn (Xe .i64 (0 : Int)) A177)))))
  have K182 := Ky142.st (tr4 p164 p170 p174 p177) rfl
  exact re rfl func30 rfl (r_b (B170.st (Xk p174 p177) rfl) u35 rfl z35 rfl Xg) rfl ⟨_, rfl, uy75_0, vy75_0, v20_0, v20_1, uy43_0, vy43_0, (.slice none 0 0), rfl, A179.fo K182 rfl z.l, (BlF.w (By142_p0.st (tr4 p164 p170 p174 p177) rfl)), z.ky K182⟩
 refine sk (sq (sr (Xc rfl ?_)))
 refine clB By142_p0 rfl func31 rfl (spec_l1Below.calls (l1Cur.mk a0.b y142.2.1 y142.2.2) (16 : Int) s159.w (mm [0] s159) p0 w0_0 (A0_0.kp Ky142) By142_p0.w (By142_p0.apart rfl)) (fun r185 s186 p186 B186 => ?_)
 refine dn (bl (sq (sr (Xc rfl (Xc rfl (dn (jc (fun (y188 : Bool) e w => ∃ (s : St) (e0 : Env), w = s.w ∧ e = upd (upd (upd (upd (upd (upd e0 0 (pB p0)) 2 (.bool a2)) 6 (pB b4)) 7 (pB b30)) 50 (iI r185.1)) 52 (.bool y188) ∧ Kp s0 s ∧ BlF s p0 80 [w0_0, (iI r185.2.i), (iI r185.2.h)] 2 ∧ BlF s b30 35 [(iI 0), (iI y105.2.2), (iI r132.1), (iI 0), (iI y75.2.2.1), (iI y75.2.2.2.1), uy75_0, vy75_0, (iI r20.1.Kind), (iI r20.1.N), v20_0, v20_1, (iI y43.1), (iI y43.2.1), uy43_0, vy43_0, (.slice none 0 0)] 45 ∧ BlF s b4 35 [(iI 0), (iI 0), (iI 0), (iI 0), (iI 0), (iI 0), (.float .f64 0), (.slice none 0 0), (iI 0), (iI 0), (.float .f64 0), (.slice none 0 0), (iI 0), (iI 0), (.float .f64 0), (.slice none 0 0), (.slice none 0 0)] 40 ∧ OwF Ya s [vy75_0] y75.2.2.2.2.2 42 ∧ OwF Ya s [v20_1] r20.1.T 43 ∧ OwF Ya s [vy43_0] y43.2.2.2 47) (fun Gj188 Kj188 => ?_) ?_)))))))
 ·
  refine cd rfl (fun h189 => ?_) (fun h189 => ?_)
  ·
   exact sk (Kj188 _ _ _ ⟨s186, _, rfl, (ue (ue (ue (ue (ue (ue rfl rfl) rfl) rfl) rfl) rfl) rfl), (Ky142.st p186 rfl), B186, (By142_b30.st p186 rfl), (By142_b4.st p186 rfl), (Cy142_97.st p186 rfl), (Cy142_22.st p186 rfl), (Cy142_67.st p186 rfl)⟩)
  refine sr (Xc rfl (Xc rfl (dn (jc (fun (y196 : Bool) e w => ∃ (s : St) (e0 : Env), w = s.w ∧ e = upd (upd (upd (upd (upd (upd e0 0 (pB p0)) 2 (.bool a2)) 6 (pB b4)) 7 (pB b30)) 50 (iI r185.1)) 52 (.bool y196) ∧ Kp s0 s ∧ BlF s p0 80 [w0_0, (iI r185.2.i), (iI r185.2.h)] 2 ∧ BlF s b30 35 [(iI 0), (iI y105.2.2), (iI r132.1), (iI 0), (iI y75.2.2.1), (iI y75.2.2.2.1), uy75_0, vy75_0, (iI r20.1.Kind), (iI r20.1.N), v20_0, v20_1, (iI y43.1), (iI y43.2.1), uy43_0, vy43_0, (.slice none 0 0)] 45 ∧ BlF s b4 35 [(iI 0), (iI 0), (iI 0), (iI 0), (iI 0), (iI 0), (.float .f64 0), (.slice none 0 0), (iI 0), (iI 0), (.float .f64 0), (.slice none 0 0), (iI 0), (iI 0), (.float .f64 0), (.slice none 0 0), (.slice none 0 0)] 40 ∧ OwF Ya s [vy75_0] y75.2.2.2.2.2 42 ∧ OwF Ya s [v20_1] r20.1.T 43 ∧ OwF Ya s [vy43_0] y43.2.2.2 47) (fun Gj196 Kj196 => ?_) ?_))))
  ·
   refine cd rfl (fun h197 => ?_) (fun h197 => ?_)
   ·
    exact sk (Kj196 _ _ _ ⟨s186, _, rfl, (ue (ue (ue (ue (ue (ue rfl rfl) rfl) rfl) rfl) rfl) rfl), (Ky142.st p186 rfl), B186, (By142_b30.st p186 rfl), (By142_b4.st p186 rfl), (Cy142_97.st p186 rfl), (Cy142_22.st p186 rfl), (Cy142_67.st p186 rfl)⟩)
   refine rg (Xc rfl (Xc rfl (dn ?_)))
   exact Kj196 _ _ _ ⟨s186, _, rfl, (ue (ue (ue (ue (ue (ue rfl rfl) rfl) rfl) rfl) rfl) rfl), (Ky142.st p186 rfl), B186, (By142_b30.st p186 rfl), (By142_b4.st p186 rfl), (Cy142_97.st p186 rfl), (Cy142_22.st p186 rfl), (Cy142_67.st p186 rfl)⟩
  rintro y196 _ _ ⟨s210, _, rfl, rfl, Ky196, By196_p0, By196_b30, By196_b4, Cy196_97, Cy196_22, Cy196_67⟩
  exact Kj188 _ _ _ ⟨s210, _, rfl, (ue (ue (ue (ue (ue (ue rfl rfl) rfl) rfl) rfl) rfl) rfl), Ky196, By196_p0, By196_b30, By196_b4, Cy196_97, Cy196_22, Cy196_67⟩
 rintro y188 _ _ ⟨s214, _, rfl, rfl, Ky188, By188_p0, By188_b30, By188_b4, Cy188_97, Cy188_22, Cy188_67⟩
 refine jc (fun (y218 : Int × Int × Int × Int) e w => ∃ (s : St) (e0 : Env), w = s.w ∧ e = upd (upd (upd (upd e0 0 (pB p0)) 2 (.bool a2)) 6 (pB b4)) 7 (pB b30) ∧ Kp s0 s ∧ BlF s p0 80 [w0_0, (iI y218.1), (iI y218.2.1)] 2 ∧ BlF s b30 35 [(iI y218.2.2.1), (iI y105.2.2), (iI r132.1), (iI y218.2.2.2), (iI y75.2.2.1), (iI y75.2.2.2.1), uy75_0, vy75_0, (iI r20.1.Kind), (iI r20.1.N), v20_0, v20_1, (iI y43.1), (iI y43.2.1), uy43_0, vy43_0, (.slice none 0 0)] 45 ∧ BlF s b4 35 [(iI 0), (iI 0), (iI 0), (iI 0), (iI 0), (iI 0), (.float .f64 0), (.slice none 0 0), (iI 0), (iI 0), (.float .f64 0), (.slice none 0 0), (iI 0), (iI 0), (.float .f64 0), (.slice none 0 0), (.slice none 0 0)] 40 ∧ OwF Ya s [vy75_0] y75.2.2.2.2.2 42 ∧ OwF Ya s [v20_1] r20.1.T 43 ∧ OwF Ya s [vy43_0] y43.2.2.2 47) (fun Gj218 Kj218 => ?_) ?_
 ·
  refine cd rfl (fun h219 => ?_) (fun h219 => ?_)
  ·
   refine rg (Xt fa35_0 rfl (sv' By188_b30 z3 rfl rfl rfl (fun s220 p220 B220 => ?_)))
   replace B220 : BlF s220 b30 35 [(iI 2), (iI y105.2.2), (iI r132.1), (iI 0), (iI y75.2.2.1), (iI y75.2.2.2.1), uy75_0, vy75_0, (iI r20.1.Kind), (iI r20.1.N), v20_0, v20_1, (iI y43.1), (iI y43.2.1), uy43_0, vy43_0, (.slice none 0 0)] 45 := B220
   exact dn (Kj218 _ _ _ ⟨s220, _, rfl, (ue (ue (ue (ue rfl rfl) rfl) rfl) rfl), (Ky188.st p220 rfl), (By188_p0.st p220 rfl), B220, (By188_b4.st p220 rfl), (Cy188_97.st p220 rfl), (Cy188_22.st p220 rfl), (Cy188_67.st p220 rfl)⟩)
  refine sq (sr (Xc rfl (Xc rfl (dn (jc (fun (y228 : Bool) e w => ∃ (s : St) (e0 : Env), w = s.w ∧ e = upd (upd (upd (upd (upd (upd e0 0 (pB p0)) 2 (.bool a2)) 6 (pB b4)) 7 (pB b30)) 50 (iI r185.1)) 57 (.bool y228) ∧ Kp s0 s ∧ BlF s p0 80 [w0_0, (iI r185.2.i), (iI r185.2.h)] 2 ∧ BlF s b30 35 [(iI 0), (iI y105.2.2), (iI r132.1), (iI 0), (iI y75.2.2.1), (iI y75.2.2.2.1), uy75_0, vy75_0, (iI r20.1.Kind), (iI r20.1.N), v20_0, v20_1, (iI y43.1), (iI y43.2.1), uy43_0, vy43_0, (.slice none 0 0)] 45 ∧ BlF s b4 35 [(iI 0), (iI 0), (iI 0), (iI 0), (iI 0), (iI 0), (.float .f64 0), (.slice none 0 0), (iI 0), (iI 0), (.float .f64 0), (.slice none 0 0), (iI 0), (iI 0), (.float .f64 0), (.slice none 0 0), (.slice none 0 0)] 40 ∧ OwF Ya s [vy75_0] y75.2.2.2.2.2 42 ∧ OwF Ya s [v20_1] r20.1.T 43 ∧ OwF Ya s [vy43_0] y43.2.2.2 47) (fun Gj228 Kj228 => ?_) ?_)))))
  ·
   refine cd rfl (fun h229 => ?_) (fun h229 => ?_)
   ·
    exact sk (Kj228 _ _ _ ⟨s214, _, rfl, (ue (ue (ue (ue (ue (ue rfl rfl) rfl) rfl) rfl) rfl) rfl), Ky188, By188_p0, By188_b30, By188_b4, Cy188_97, Cy188_22, Cy188_67⟩)
   refine sr (Xc rfl (Xc rfl (dn (jc (fun (y230 : Bool) e w => ∃ (s : St) (e0 : Env), w = s.w ∧ e = upd (upd (upd (upd (upd (upd e0 0 (pB p0)) 2 (.bool a2)) 6 (pB b4)) 7 (pB b30)) 50 (iI r185.1)) 57 (.bool y230) ∧ Kp s0 s ∧ BlF s p0 80 [w0_0, (iI r185.2.i), (iI r185.2.h)] 2 ∧ BlF s b30 35 [(iI 0), (iI y105.2.2), (iI r132.1), (iI 0), (iI y75.2.2.1), (iI y75.2.2.2.1), uy75_0, vy75_0, (iI r20.1.Kind), (iI r20.1.N), v20_0, v20_1, (iI y43.1), (iI y43.2.1), uy43_0, vy43_0, (.slice none 0 0)] 45 ∧ BlF s b4 35 [(iI 0), (iI 0), (iI 0), (iI 0), (iI 0), (iI 0), (.float .f64 0), (.slice none 0 0), (iI 0), (iI 0), (.float .f64 0), (.slice none 0 0), (iI 0), (iI 0), (.float .f64 0), (.slice none 0 0), (.slice none 0 0)] 40 ∧ OwF Ya s [vy75_0] y75.2.2.2.2.2 42 ∧ OwF Ya s [v20_1] r20.1.T 43 ∧ OwF Ya s [vy43_0] y43.2.2.2 47) (fun Gj230 Kj230 => ?_) ?_))))
   ·
    refine cd rfl (fun h231 => ?_) (fun h231 => ?_)
    ·
     exact sk (Kj230 _ _ _ ⟨s214, _, rfl, (ue (ue (ue (ue (ue (ue rfl rfl) rfl) rfl) rfl) rfl) rfl), Ky188, By188_p0, By188_b30, By188_b4, Cy188_97, Cy188_22, Cy188_67⟩)
    refine sr (Xc rfl (Xc rfl (dn (jc (fun (y232 : Bool) e w => ∃ (s : St) (e0 : Env), w = s.w ∧ e = upd (upd (upd (upd (upd (upd e0 0 (pB p0)) 2 (.bool a2)) 6 (pB b4)) 7 (pB b30)) 50 (iI r185.1)) 57 (.bool y232) ∧ Kp s0 s ∧ BlF s p0 80 [w0_0, (iI r185.2.i), (iI r185.2.h)] 2 ∧ BlF s b30 35 [(iI 0), (iI y105.2.2), (iI r132.1), (iI 0), (iI y75.2.2.1), (iI y75.2.2.2.1), uy75_0, vy75_0, (iI r20.1.Kind), (iI r20.1.N), v20_0, v20_1, (iI y43.1), (iI y43.2.1), uy43_0, vy43_0, (.slice none 0 0)] 45 ∧ BlF s b4 35 [(iI 0), (iI 0), (iI 0), (iI 0), (iI 0), (iI 0), (.float .f64 0), (.slice none 0 0), (iI 0), (iI 0), (.float .f64 0), (.slice none 0 0), (iI 0), (iI 0), (.float .f64 0), (.slice none 0 0), (.slice none 0 0)] 40 ∧ OwF Ya s [vy75_0] y75.2.2.2.2.2 42 ∧ OwF Ya s [v20_1] r20.1.T 43 ∧ OwF Ya s [vy43_0] y43.2.2.2 47) (fun Gj232 Kj232 => ?_) ?_))))
    ·
     refine cd rfl (fun h233 => ?_) (fun h233 => ?_)
     ·
      exact sk (Kj232 _ _ _ ⟨s214, _, rfl, (ue (ue (ue (ue (ue (ue rfl rfl) rfl) rfl) rfl) rfl) rfl), Ky188, By188_p0, By188_b30, By188_b4, Cy188_97, Cy188_22, Cy188_67⟩)
     refine sr (Xc rfl (Xc rfl (dn (jc (fun (y234 : Bool) e w => ∃ (s : St) (e0 : Env), w = s.w ∧ e = upd (upd (upd (upd (upd (upd e0 0 (pB p0)) 2 (.bool a2)) 6 (pB b4)) 7 (pB b30)) 50 (iI r185.1)) 57 (.bool y234) ∧ Kp s0 s ∧ BlF s p0 80 [w0_0, (iI r185.2.i), (iI r185.2.h)] 2 ∧ BlF s b30 35 [(iI 0), (iI y105.2.2), (iI r132.1), (iI 0), (iI y75.2.2.1), (iI y75.2.2.2.1), uy75_0, vy75_0, (iI r20.1.Kind), (iI r20.1.N), v20_0, v20_1, (iI y43.1), (iI y43.2.1), uy43_0, vy43_0, (.slice none 0 0)] 45 ∧ BlF s b4 35 [(iI 0), (iI 0), (iI 0), (iI 0), (iI 0), (iI 0), (.float .f64 0), (.slice none 0 0), (iI 0), (iI 0), (.float .f64 0), (.slice none 0 0), (iI 0), (iI 0), (.float .f64 0), (.slice none 0 0), (.slice none 0 0)] 40 ∧ OwF Ya s [vy75_0] y75.2.2.2.2.2 42 ∧ OwF Ya s [v20_1] r20.1.T 43 ∧ OwF Ya s [vy43_0] y43.2.2.2 47) (fun Gj234 Kj234 => ?_) ?_))))
     ·
      refine cd rfl (fun h235 => ?_) (fun h235 => ?_)
      ·
       exact sk (Kj234 _ _ _ ⟨s214, _, rfl, (ue (ue (ue (ue (ue (ue rfl rfl) rfl) rfl) rfl) rfl) rfl), Ky188, By188_p0, By188_b30, By188_b4, Cy188_97, Cy188_22, Cy188_67⟩)
      exact rg (Xc rfl (Xc rfl (dn (Kj234 _ _ _ ⟨s214, _, rfl, (ue (ue (ue (ue (ue (ue rfl rfl) rfl) rfl) rfl) rfl) rfl), Ky188, By188_p0, By188_b30, By188_b4, Cy188_97, Cy188_22, Cy188_67⟩))))
     rintro y234 _ _ ⟨s236, _, rfl, rfl, Ky234, By234_p0, By234_b30, By234_b4, Cy234_97, Cy234_22, Cy234_67⟩
     exact Kj232 _ _ _ ⟨s236, _, rfl, (ue (ue (ue (ue (ue (ue rfl rfl) rfl) rfl) rfl) rfl) rfl), Ky234, By234_p0, By234_b30, By234_b4, Cy234_97, Cy234_22, Cy234_67⟩
    rintro y232 _ _ ⟨s240, _, rfl, rfl, Ky232, By232_p0, By232_b30, By232_b4, Cy232_97, Cy232_22, Cy232_67⟩
    exact Kj230 _ _ _ ⟨s240, _, rfl, (ue (ue (ue (ue (ue (ue rfl rfl) rfl) rfl) rfl) rfl) rfl), Ky232, By232_p0, By232_b30, By232_b4, Cy232_97, Cy232_22, Cy232_67⟩
   rintro y230 _ _ ⟨s244, _, rfl, rfl, Ky230, By230_p0, By230_b30, By230_b4, Cy230_97, Cy230_22, Cy230_67⟩
   exact Kj228 _ _ _ ⟨s244, _, rfl, (ue (ue (ue (ue (ue (ue rfl rfl) rfl) rfl) rfl) rfl) rfl), Ky230, By230_p0, By230_b30, By230_b4, Cy230_97, Cy230_22, Cy230_67⟩
  rintro y228 _ _ ⟨s248, _, rfl, rfl, Ky228, By228_p0, By228_b30, By228_b4, Cy228_97, Cy228_22, Cy228_67⟩
  refine jc (fun (y252 : Int × Int × Int × Int) e w => ∃ (s : St) (e0 : Env), w = s.w ∧ e = upd (upd (upd (upd e0 0 (pB p0)) 2 (.bool a2)) 6 (pB b4)) 7 (pB b30) ∧ Kp s0 s ∧ BlF s p0 80 [w0_0, (iI y252.1), (iI y252.2.1)] 2 ∧ BlF s b30 35 [(iI y252.2.2.1), (iI y105.2.2), (iI r132.1), (iI y252.2.2.2), (iI y75.2.2.1), (iI y75.2.2.2.1), uy75_0, vy75_0, (iI r20.1.Kind), (iI r20.1.N), v20_0, v20_1, (iI y43.1), (iI y43.2.1), uy43_0, vy43_0, (.slice none 0 0)] 45 ∧ BlF s b4 35 [(iI 0), (iI 0), (iI 0), (iI 0), (iI 0), (iI 0), (.float .f64 0), (.slice none 0 0), (iI 0), (iI 0), (.float .f64 0), (.slice none 0 0), (iI 0), (iI 0), (.float .f64 0), (.slice none 0 0), (.slice none 0 0)] 40 ∧ OwF Ya s [vy75_0] y75.2.2.2.2.2 42 ∧ OwF Ya s [v20_1] r20.1.T 43 ∧ OwF Ya s [vy43_0] y43.2.2.2 47) (fun Gj252 Kj252 => ?_) ?_
  ·
   refine cd rfl (fun h253 => ?_) (fun h253 => ?_)
   ·
    refine rg (Xt fa35_0 rfl (sv' By228_b30 z3 rfl rfl rfl (fun s254 p254 B254 => ?_)))
    replace B254 : BlF s254 b30 35 [(iI 3), (iI y105.2.2), (iI r132.1), (iI 0), (iI y75.2.2.1), (iI y75.2.2.2.1), uy75_0, vy75_0, (iI r20.1.Kind), (iI r20.1.N), v20_0, v20_1, (iI y43.1), (iI y43.2.1), uy43_0, vy43_0, (.slice none 0 0)] 45 := B254
    exact dn (Kj252 _ _ _ ⟨s254, _, rfl, (ue (ue (ue (ue rfl rfl) rfl) rfl) rfl), (Ky228.st p254 rfl), (By228_p0.st p254 rfl), B254, (By228_b4.st p254 rfl), (Cy228_97.st p254 rfl), (Cy228_22.st p254 rfl), (Cy228_67.st p254 rfl)⟩)
   refine sq (sr (Xc rfl (Xc rfl (dn (jc (fun (y262 : Bool) e w => ∃ (s : St) (e0 : Env), w = s.w ∧ e = upd (upd (upd (upd (upd (upd e0 0 (pB p0)) 2 (.bool a2)) 6 (pB b4)) 7 (pB b30)) 50 (iI r185.1)) 64 (.bool y262) ∧ Kp s0 s ∧ BlF s p0 80 [w0_0, (iI r185.2.i), (iI r185.2.h)] 2 ∧ BlF s b30 35 [(iI 0), (iI y105.2.2), (iI r132.1), (iI 0), (iI y75.2.2.1), (iI y75.2.2.2.1), uy75_0, vy75_0, (iI r20.1.Kind), (iI r20.1.N), v20_0, v20_1, (iI y43.1), (iI y43.2.1), uy43_0, vy43_0, (.slice none 0 0)] 45 ∧ BlF s b4 35 [(iI 0), (iI 0), (iI 0), (iI 0), (iI 0), (iI 0), (.float .f64 0), (.slice none 0 0), (iI 0), (iI 0), (.float .f64 0), (.slice none 0 0), (iI 0), (iI 0), (.float .f64 0), (.slice none 0 0), (.slice none 0 0)] 40 ∧ OwF Ya s [vy75_0] y75.2.2.2.2.2 42 ∧ OwF Ya s [v20_1] r20.1.T 43 ∧ OwF Ya s [vy43_0] y43.2.2.2 47) (fun Gj262 Kj262 => ?_) ?_)))))
   ·
    refine cd rfl (fun h263 => ?_) (fun h263 => ?_)
    ·
     exact sk (Kj262 _ _ _ ⟨s248, _, rfl, (ue (ue (ue (ue (ue (ue rfl rfl) rfl) rfl) rfl) rfl) rfl), Ky228, By228_p0, By228_b30, By228_b4, Cy228_97, Cy228_22, Cy228_67⟩)
    exact rg (Xc rfl (Xc rfl (dn (Kj262 _ _ _ ⟨s248, _, rfl, (ue (ue (ue (ue (ue (ue rfl rfl) rfl) rfl) rfl) rfl) rfl), Ky228, By228_p0, By228_b30, By228_b4, Cy228_97, Cy228_22, Cy228_67⟩))))
   rintro y262 _ _ ⟨s264, _, rfl, rfl, Ky262, By262_p0, By262_b30, By262_b4, Cy262_97, Cy262_22, Cy262_67⟩
   refine jc (fun (y268 : Int × Int × Int × Int) e w => ∃ (s : St) (e0 : Env), w = s.w ∧ e = upd (upd (upd (upd e0 0 (pB p0)) 2 (.bool a2)) 6 (pB b4)) 7 (pB b30) ∧ Kp s0 s ∧ BlF s p0 80 [w0_0, (iI y268.1), (iI y268.2.1)] 2 ∧ BlF s b30 35 [(iI y268.2.2.1), (iI y105.2.2), (iI r132.1), (iI y268.2.2.2), (iI y75.2.2.1), (iI y75.2.2.2.1), uy75_0, vy75_0, (iI r20.1.Kind), (iI r20.1.N), v20_0, v20_1, (iI y43.1), (iI y43.2.1), uy43_0, vy43_0, (.slice none 0 0)] 45 ∧ BlF s b4 35 [(iI 0), (iI 0), (iI 0), (iI 0), (iI 0), (iI 0), (.float .f64 0), (.slice none 0 0), (iI 0), (iI 0), (.float .f64 0), (.slice none 0 0), (iI 0), (iI 0), (.float .f64 0), (.slice none 0 0), (.slice none 0 0)] 40 ∧ OwF Ya s [vy75_0] y75.2.2.2.2.2 42 ∧ OwF Ya s [v20_1] r20.1.T 43 ∧ OwF Ya s [vy43_0] y43.2.2.2 47) (fun Gj268 Kj268 => ?_) ?_
   ·
    refine cd rfl (fun h269 => ?_) (fun h269 => ?_)
    ·
     refine rg (Xt fa35_0 rfl (sv' By262_b30 z3 rfl rfl rfl (fun s270 p270 B270 => ?_)))
     replace B270 : BlF s270 b30 35 [(iI 4), (iI y105.2.2), (iI r132.1), (iI 0), (iI y75.2.2.1), (iI y75.2.2.2.1), uy75_0, vy75_0, (iI r20.1.Kind), (iI r20.1.N), v20_0, v20_1, (iI y43.1), (iI y43.2.1), uy43_0, vy43_0, (.slice none 0 0)] 45 := B270
     exact dn (Kj268 _ _ _ ⟨s270, _, rfl, (ue (ue (ue (ue rfl rfl) rfl) rfl) rfl), (Ky262.st p270 rfl), (By262_p0.st p270 rfl), B270, (By262_b4.st p270 rfl), (Cy262_97.st p270 rfl), (Cy262_22.st p270 rfl), (Cy262_67.st p270 rfl)⟩)
    refine sr (Xc rfl (Xc rfl (dn (jc (fun (y278 : Int × Int × Int × Int) e w => ∃ (s : St) (e0 : Env), w = s.w ∧ e = upd (upd (upd (upd e0 0 (pB p0)) 2 (.bool a2)) 6 (pB b4)) 7 (pB b30) ∧ Kp s0 s ∧ BlF s p0 80 [w0_0, (iI y278.1), (iI y278.2.1)] 2 ∧ BlF s b30 35 [(iI y278.2.2.1), (iI y105.2.2), (iI r132.1), (iI y278.2.2.2), (iI y75.2.2.1), (iI y75.2.2.2.1), uy75_0, vy75_0, (iI r20.1.Kind), (iI r20.1.N), v20_0, v20_1, (iI y43.1), (iI y43.2.1), uy43_0, vy43_0, (.slice none 0 0)] 45 ∧ BlF s b4 35 [(iI 0), (iI 0), (iI 0), (iI 0), (iI 0), (iI 0), (.float .f64 0), (.slice none 0 0), (iI 0), (iI 0), (.float .f64 0), (.slice none 0 0), (iI 0), (iI 0), (.float .f64 0), (.slice none 0 0), (.slice none 0 0)] 40 ∧ OwF Ya s [vy75_0] y75.2.2.2.2.2 42 ∧ OwF Ya s [v20_1] r20.1.T 43 ∧ OwF Ya s [vy43_0] y43.2.2.2 47) (fun Gj278 Kj278 => ?_) ?_))))
    ·
     refine cd rfl (fun h279 => ?_) (fun h279 => ?_)
     ·
      refine sr (Xt fa35_0 rfl (sv' By262_b30 z3 rfl rfl rfl (fun s280 p280 B280 => ?_)))
      replace B280 : BlF s280 b30 35 [(iI 5), (iI y105.2.2), (iI r132.1), (iI 0), (iI y75.2.2.1), (iI y75.2.2.2.1), uy75_0, vy75_0, (iI r20.1.Kind), (iI r20.1.N), v20_0, v20_1, (iI y43.1), (iI y43.2.1), uy43_0, vy43_0, (.slice none 0 0)] 45 := B280
      refine dn (rg (Xc rfl ?_))
      have K282 := Ky262.st p280 rfl
      have A285 := By262_p0.st p280 rfl
      refine clB A285 rfl func31 rfl (spec_l1Below.calls (l1Cur.mk a0.b r185.2.i r185.2.h) (6 : Int) s280.w (mm [0] s280) p0 w0_0 (A0_0.kp K282) A285.w (A285.apart rfl)) (fun r284 s286 p286 B286 => ?_)
      refine Xt fa35_3 rfl (sv' (B280.st p286 rfl) z3 rfl rfl rfl (fun s289 p289 B289 => ?_))
      replace B289 : BlF s289 b30 35 [(iI 5), (iI y105.2.2), (iI r132.1), (iI r284.1), (iI y75.2.2.1), (iI y75.2.2.2.1), uy75_0, vy75_0, (iI r20.1.Kind), (iI r20.1.N), v20_0, v20_1, (iI y43.1), (iI y43.2.1), uy43_0, vy43_0, (.slice none 0 0)] 45 := B289
      exact dn (Kj278 _ _ _ ⟨s289, _, rfl, (ue (ue (ue (ue rfl rfl) rfl) rfl) rfl), (K282.st (Xk p286 p289) rfl), (B286.st p289 rfl), B289, (By262_b4.st (Xw p280 p286 p289) rfl), (Cy262_97.st (Xw p280 p286 p289) rfl), (Cy262_22.st (Xw p280 p286 p289) rfl), (Cy262_67.st (Xw p280 p286 p289) rfl)⟩)
     refine sr (Xc rfl (Xc rfl (dn (jc (fun (y297 : Int × Int × Int) e w => ∃ (s : St) (e0 : Env), w = s.w ∧ e = upd (upd (upd (upd e0 0 (pB p0)) 2 (.bool a2)) 6 (pB b4)) 7 (pB b30) ∧ Kp s0 s ∧ BlF s p0 80 [w0_0, (iI y297.1), (iI y297.2.1)] 2 ∧ BlF s b30 35 [(iI y297.2.2), (iI y105.2.2), (iI r132.1), (iI 0), (iI y75.2.2.1), (iI y75.2.2.2.1), uy75_0, vy75_0, (iI r20.1.Kind), (iI r20.1.N), v20_0, v20_1, (iI y43.1), (iI y43.2.1), uy43_0, vy43_0, (.slice none 0 0)] 45 ∧ BlF s b4 35 [(iI 0), (iI 0), (iI 0), (iI 0), (iI 0), (iI 0), (.float .f64 0), (.slice none 0 0), (iI 0), (iI 0), (.float .f64 0), (.slice none 0 0), (iI 0), (iI 0), (.float .f64 0), (.slice none 0 0), (.slice none 0 0)] 40 ∧ OwF Ya s [vy75_0] y75.2.2.2.2.2 42 ∧ OwF Ya s [v20_1] r20.1.T 43 ∧ OwF Ya s [vy43_0] y43.2.2.2 47) (fun Gj297 Kj297 => ?_) ?_))))
     ·
      refine cd rfl (fun h298 => ?_) (fun h298 => ?_)
      ·
       refine rg (Xt fa35_0 rfl (sv' By262_b30 z3 rfl rfl rfl (fun s299 p299 B299 => ?_)))
       replace B299 : BlF s299 b30 35 [(iI 6), (iI y105.2.2), (iI r132.1), (iI 0), (iI y75.2.2.1), (iI y75.2.2.2.1), uy75_0, vy75_0, (iI r20.1.Kind), (iI r20.1.N), v20_0, v20_1, (iI y43.1), (iI y43.2.1), uy43_0, vy43_0, (.slice none 0 0)] 45 := B299
       exact dn (Kj297 _ _ _ ⟨s299, _, rfl, (ue (ue (ue (ue rfl rfl) rfl) rfl) rfl), (Ky262.st p299 rfl), (By262_p0.st p299 rfl), B299, (By262_b4.st p299 rfl), (Cy262_97.st p299 rfl), (Cy262_22.st p299 rfl), (Cy262_67.st p299 rfl)⟩)
      refine sq (sr (Xc rfl (Xc rfl (dn (jc (fun (y307 : Bool) e w => ∃ (s : St) (e0 : Env), w = s.w ∧ e = upd (upd (upd (upd (upd (upd e0 0 (pB p0)) 2 (.bool a2)) 6 (pB b4)) 7 (pB b30)) 50 (iI r185.1)) 77 (.bool y307) ∧ Kp s0 s ∧ BlF s p0 80 [w0_0, (iI r185.2.i), (iI r185.2.h)] 2 ∧ BlF s b30 35 [(iI 0), (iI y105.2.2), (iI r132.1), (iI 0), (iI y75.2.2.1), (iI y75.2.2.2.1), uy75_0, vy75_0, (iI r20.1.Kind), (iI r20.1.N), v20_0, v20_1, (iI y43.1), (iI y43.2.1), uy43_0, vy43_0, (.slice none 0 0)] 45 ∧ BlF s b4 35 [(iI 0), (iI 0), (iI 0), (iI 0), (iI 0), (iI 0), (.float .f64 0), (.slice none 0 0), (iI 0), (iI 0), (.float .f64 0), (.slice none 0 0), (iI 0), (iI 0), (.float .f64 0), (.slice none 0 0), (.slice none 0 0)] 40 ∧ OwF Ya s [vy75_0] y75.2.2.2.2.2 42 ∧ OwF Ya s [v20_1] r20.1.T 43 ∧ OwF Ya s [vy43_0] y43.2.2.2 47) (fun Gj307 Kj307 => ?_) ?_)))))
      ·
       refine cd rfl (fun h308 => ?_) (fun h308 => ?_)
       ·
        exact sk (Kj307 _ _ _ ⟨s264, _, rfl, (ue (ue (ue (ue (ue (ue rfl rfl) rfl) rfl) rfl) rfl) rfl), Ky262, By262_p0, By262_b30, By262_b4, Cy262_97, Cy262_22, Cy262_67⟩)
       exact rg (Xc rfl (Xc rfl (dn (Kj307 _ _ _ ⟨s264, _, rfl, (ue (ue (ue (ue (ue (ue rfl rfl) rfl) rfl) rfl) rfl) rfl), Ky262, By262_p0, By262_b30, By262_b4, Cy262_97, Cy262_22, Cy262_67⟩))))
      rintro y307 _ _ ⟨s309, _, rfl, rfl, Ky307, By307_p0, By307_b30, By307_b4, Cy307_97, Cy307_22, Cy307_67⟩
      refine jc (fun (y313 : Int × Int × Int) e w => ∃ (s : St) (e0 : Env), w = s.w ∧ e = upd (upd (upd (upd e0 0 (pB p0)) 2 (.bool a2)) 6 (pB b4)) 7 (pB b30) ∧ Kp s0 s ∧ BlF s p0 80 [w0_0, (iI y313.1), (iI y313.2.1)] 2 ∧ BlF s b30 35 [(iI y313.2.2), (iI y105.2.2), (iI r132.1), (iI 0), (iI y75.2.2.1), (iI y75.2.2.2.1), uy75_0, vy75_0, (iI r20.1.Kind), (iI r20.1.N), v20_0, v20_1, (iI y43.1), (iI y43.2.1), uy43_0, vy43_0, (.slice none 0 0)] 45 ∧ BlF s b4 35 [(iI 0), (iI 0), (iI 0), (iI 0), (iI 0), (iI 0), (.float .f64 0), (.slice none 0 0), (iI 0), (iI 0), (.float .f64 0), (.slice none 0 0), (iI 0), (iI 0), (.float .f64 0), (.slice none 0 0), (.slice none 0 0)] 40 ∧ OwF Ya s [vy75_0] y75.2.2.2.2.2 42 ∧ OwF Ya s [v20_1] r20.1.T 43 ∧ OwF Ya s [vy43_0] y43.2.2.2 47) (fun Gj313 Kj313 => ?_) ?_
      ·
       refine cd rfl (fun h314 => ?_) (fun h314 => ?_)
       ·
        refine rg (Xt fa35_0 rfl (sv' By307_b30 z3 rfl rfl rfl (fun s315 p315 B315 => ?_)))
        replace B315 : BlF s315 b30 35 [(iI 7), (iI y105.2.2), (iI r132.1), (iI 0), (iI y75.2.2.1), (iI y75.2.2.2.1), uy75_0, vy75_0, (iI r20.1.Kind), (iI r20.1.N), v20_0, v20_1, (iI y43.1), (iI y43.2.1), uy43_0, vy43_0, (.slice none 0 0)] 45 := B315
        exact dn (Kj313 _ _ _ ⟨s315, _, rfl, (ue (ue (ue (ue rfl rfl) rfl) rfl) rfl), (Ky307.st p315 rfl), (By307_p0.st p315 rfl), B315, (By307_b4.st p315 rfl), (Cy307_97.st p315 rfl), (Cy307_22.st p315 rfl), (Cy307_67.st p315 rfl)⟩)
       refine sr (Xc rfl (Xc rfl (dn (jc (fun (y323 : Int × Int × Int) e w => ∃ (s : St) (e0 : Env), w = s.w ∧ e = upd (upd (upd (upd e0 0 (pB p0)) 2 (.bool a2)) 6 (pB b4)) 7 (pB b30) ∧ Kp s0 s ∧ BlF s p0 80 [w0_0, (iI y323.1), (iI y323.2.1)] 2 ∧ BlF s b30 35 [(iI y323.2.2), (iI y105.2.2), (iI r132.1), (iI 0), (iI y75.2.2.1), (iI y75.2.2.2.1), uy75_0, vy75_0, (iI r20.1.Kind), (iI r20.1.N), v20_0, v20_1, (iI y43.1), (iI y43.2.1), uy43_0, vy43_0, (.slice none 0 0)] 45 ∧ BlF s b4 35 [(iI 0), (iI 0), (iI 0), (iI 0), (iI 0), (iI 0), (.float .f64 0), (.slice none 0 0), (iI 0), (iI 0), (.float .f64 0), (.slice none 0 0), (iI 0), (iI 0), (.float .f64 0), (.slice none 0 0), (.slice none 0 0)] 40 ∧ OwF Ya s [vy75_0] y75.2.2.2.2.2 42 ∧ OwF Ya s [v20_1] r20.1.T 43 ∧ OwF Ya s [vy43_0] y43.2.2.2 47) (fun Gj323 Kj323 => ?_) ?_))))
       ·
        refine cd rfl (fun h324 => ?_) (fun h324 => ?_)
        ·
         refine sr (Xt fa35_0 rfl (sv' By307_b30 z3 rfl rfl rfl (fun s325 p325 B325 => ?_)))
         replace B325 : BlF s325 b30 35 [(iI 8), (iI y105.2.2), (iI r132.1), (iI 0), (iI y75.2.2.1), (iI y75.2.2.2.1), uy75_0, vy75_0, (iI r20.1.Kind), (iI r20.1.N), v20_0, v20_1, (iI y43.1), (iI y43.2.1), uy43_0, vy43_0, (.slice none 0 0)] 45 := B325
         refine dn (sr (Xc rfl ?_))
         have K327 := Ky307.st p325 rfl
         have A330 := By307_p0.st p325 rfl
         refine clB A330 rfl func24 rfl (spec_l1Once.calls (l1Cur.mk a0.b r185.2.i r185.2.h) (2 : Int) s325.w (mm [0] s325) p0 w0_0 (A0_0.kp K327) A330.w (A330.apart rfl)) (fun r329 s331 p331 B331 => ?_)
         refine dn (jc (fun (y333 : Int) e w => ∃ (s : St) (e0 : Env), w = s.w ∧ e = upd (upd (upd (upd e0 0 (pB p0)) 2 (.bool a2)) 6 (pB b4)) 7 (pB b30) ∧ Kp s0 s ∧ BlF s p0 80 [w0_0, (iI r329.2.i), (iI r329.2.h)] 2 ∧ BlF s b30 35 [(iI y333), (iI y105.2.2), (iI r132.1), (iI 0), (iI y75.2.2.1), (iI y75.2.2.2.1), uy75_0, vy75_0, (iI r20.1.Kind), (iI r20.1.N), v20_0, v20_1, (iI y43.1), (iI y43.2.1), uy43_0, vy43_0, (.slice none 0 0)] 45 ∧ BlF s b4 35 [(iI 0), (iI 0), (iI 0), (iI 0), (iI 0), (iI 0), (.float .f64 0), (.slice none 0 0), (iI 0), (iI 0), (.float .f64 0), (.slice none 0 0), (iI 0), (iI 0), (.float .f64 0), (.slice none 0 0), (.slice none 0 0)] 40 ∧ OwF Ya s [vy75_0] y75.2.2.2.2.2 42 ∧ OwF Ya s [v20_1] r20.1.T 43 ∧ OwF Ya s [vy43_0] y43.2.2.2 47) (fun Gj333 Kj333 => ?_) ?_)
         ·
          refine cd rfl (fun h334 => ?_) (fun h334 => ?_)
          ·
           refine rg (Xt fa35_0 rfl ?_)
           refine sv' (B325.st p331 rfl) z3 rfl rfl rfl (fun s336 p336 B336 => ?_)
           replace B336 : BlF s336 b30 35 [(iI 9), (iI y105.2.2), (iI r132.1), (iI 0), (iI y75.2.2.1), (iI y75.2.2.2.1), uy75_0, vy75_0, (iI r20.1.Kind), (iI r20.1.N), v20_0, v20_1, (iI y43.1), (iI y43.2.1), uy43_0, vy43_0, (.slice none 0 0)] 45 := B336
           exact dn (Kj333 _ _ _ ⟨s336, _, rfl, (ue (ue (ue (ue rfl rfl) rfl) rfl) rfl), (K327.st (Xk p331 p336) rfl), (B331.st p336 rfl), B336, (By307_b4.st (Xw p325 p331 p336) rfl), (Cy307_97.st (Xw p325 p331 p336) rfl), (Cy307_22.st (Xw p325 p331 p336) rfl), (Cy307_67.st (Xw p325 p331 p336) rfl)⟩)
          exact sk (Kj333 _ _ _ ⟨s331, _, rfl, (ue (ue (ue (ue rfl rfl) rfl) rfl) rfl), (K327.st p331 rfl), B331, (B325.st p331 rfl), (By307_b4.st (Xk p325 p331) rfl), (Cy307_97.st (Xk p325 p331) rfl), (Cy307_22.st (Xk p325 p331) rfl), (Cy307_67.st (Xk p325 p331) rfl)⟩)
         rintro y333 _ _ ⟨s350, _, rfl, rfl, Ky333, By333_p0, By333_b30, By333_b4, Cy333_97, Cy333_22, Cy333_67⟩
         exact Kj323 _ _ _ ⟨s350, _, rfl, (ue (ue (ue (ue rfl rfl) rfl) rfl) rfl), Ky333, By333_p0, By333_b30, By333_b4, Cy333_97, Cy333_22, Cy333_67⟩
        refine rg (Xt fa35_0 rfl (sv' By307_b30 z3 rfl rfl rfl (fun s354 p354 B354 => ?_)))
        replace B354 : BlF s354 b30 35 [(iI 9), (iI y105.2.2), (iI r132.1), (iI 0), (iI y75.2.2.1), (iI y75.2.2.2.1), uy75_0, vy75_0, (iI r20.1.Kind), (iI r20.1.N), v20_0, v20_1, (iI y43.1), (iI y43.2.1), uy43_0, vy43_0, (.slice none 0 0)] 45 := B354
        exact dn (Kj323 _ _ _ ⟨s354, _, rfl, (ue (ue (ue (ue rfl rfl) rfl) rfl) rfl), (Ky307.st p354 rfl), (By307_p0.st p354 rfl), B354, (By307_b4.st p354 rfl), (Cy307_97.st p354 rfl), (Cy307_22.st p354 rfl), (Cy307_67.st p354 rfl)⟩)
       rintro y323 _ _ ⟨s362, _, rfl, rfl, Ky323, By323_p0, By323_b30, By323_b4, Cy323_97, Cy323_22, Cy323_67⟩
       exact Kj313 _ _ _ ⟨s362, _, rfl, (ue (ue (ue (ue rfl rfl) rfl) rfl) rfl), Ky323, By323_p0, By323_b30, By323_b4, Cy323_97, Cy323_22, Cy323_67⟩
      rintro y313 _ _ ⟨s366, _, rfl, rfl, Ky313, By313_p0, By313_b30, By313_b4, Cy313_97, Cy313_22, Cy313_67⟩
      exact Kj297 _ _ _ ⟨s366, _, rfl, (ue (ue (ue (ue rfl rfl) rfl) rfl) rfl), Ky313, By313_p0, By313_b30, By313_b4, Cy313_97, Cy313_22, Cy313_67⟩
     rintro y297 _ _ ⟨s370, _, rfl, rfl, Ky297, By297_p0, By297_b30, By297_b4, Cy297_97, Cy297_22, Cy297_67⟩
     exact Kj278 _ _ _ ⟨s370, _, rfl, (ue (ue (ue (ue rfl rfl) rfl) rfl) rfl), Ky297, By297_p0, By297_b30, By297_b4, Cy297_97, Cy297_22, Cy297_67⟩
    rintro y278 _ _ ⟨s374, _, rfl, rfl, Ky278, By278_p0, By278_b30, By278_b4, Cy278_97, Cy278_22, Cy278_67⟩
    exact Kj268 _ _ _ ⟨s374, _, rfl, (ue (ue (ue (ue rfl rfl) rfl) rfl) rfl), Ky278, By278_p0, By278_b30, By278_b4, Cy278_97, Cy278_22, Cy278_67⟩
   rintro y268 _ _ ⟨s378, _, rfl, rfl, Ky268, By268_p0, By268_b30, By268_b4, Cy268_97, Cy268_22, Cy268_67⟩
   exact Kj252 _ _ _ ⟨s378, _, rfl, (ue (ue (ue (ue rfl rfl) rfl) rfl) rfl), Ky268, By268_p0, By268_b30, By268_b4, Cy268_97, Cy268_22, Cy268_67⟩
  rintro y252 _ _ ⟨s382, _, rfl, rfl, Ky252, By252_p0, By252_b30, By252_b4, Cy252_97, Cy252_22, Cy252_67⟩
  exact Kj218 _ _ _ ⟨s382, _, rfl, (ue (ue (ue (ue rfl rfl) rfl) rfl) rfl), Ky252, By252_p0, By252_b30, By252_b4, Cy252_97, Cy252_22, Cy252_67⟩
 rintro y218 _ _ ⟨s386, _, rfl, rfl, Ky218, By218_p0, By218_b30, By218_b4, Cy218_97, Cy218_22, Cy218_67⟩
 refine ib (sq (sr (Xt fa35_0 rfl (ld' By218_b30 u3 rfl (Xc rfl (Xc rfl (jy [90, 91, 92, 93, 94] [8, 9, 10, 11] 94 (.bool ((y218.2.2.1 == (5 : Int)) || (y218.2.2.1 == (6 : Int)))) rfl (fun Kg390 => ?_) (fun j390 => ?_))))))))
 ·
  rcases bft (y218.2.2.1 == (5 : Int)) with hb390 | hb390
  ·
   exact sbT hb390 (Xj rfl (Xj rfl (Xj rfl (Xc rfl (Kg390 _ (Ag.put ((Ag.put ((Ag.put ((Ag.put (Ag.base rfl) rfl)) rfl)) rfl)) rfl) (by rw [hb390]; rfl))))))
  exact sbT hb390 (Xt fa35_0 rfl (ld' By218_b30 u3 rfl (Xc rfl (Xc rfl (Kg390 _ (Ag.put ((Ag.put ((Ag.put ((Ag.put (Ag.base rfl) rfl)) rfl)) rfl)) rfl) (by rw [hb390]; rfl))))))
 refine Xc rfl (ji [] (fun (y391 : Bool × Int × Int) e w => ∃ (s : St) (e0 : Env), w = s.w ∧ e = upd (upd (upd (upd (upd e0 0 (pB p0)) 2 (.bool a2)) 6 (pB b4)) 7 (pB b30)) 98 (.bool y391.1) ∧ Kp s0 s ∧ BlF s p0 80 [w0_0, (iI y391.2.1), (iI y391.2.2)] 2 ∧ BlF s b30 35 [(iI y218.2.2.1), (iI y105.2.2), (iI r132.1), (iI y218.2.2.2), (iI y75.2.2.1), (iI y75.2.2.2.1), uy75_0, vy75_0, (iI r20.1.Kind), (iI r20.1.N), v20_0, v20_1, (iI y43.1), (iI y43.2.1), uy43_0, vy43_0, (.slice none 0 0)] 45 ∧ BlF s b4 35 [(iI 0), (iI 0), (iI 0), (iI 0), (iI 0), (iI 0), (.float .f64 0), (.slice none 0 0), (iI 0), (iI 0), (.float .f64 0), (.slice none 0 0), (iI 0), (iI 0), (.float .f64 0), (.slice none 0 0), (.slice none 0 0)] 40 ∧ OwF Ya s [vy75_0] y75.2.2.2.2.2 42 ∧ OwF Ya s [v20_1] r20.1.T 43 ∧ OwF Ya s [vy43_0] y43.2.2.2 47) (fun Gj391 Kj391 => ?_) ?_)
 ·
  rcases bft ((y218.2.2.1 == (5 : Int)) || (y218.2.2.1 == (6 : Int))) with hb391 | hb391
  ·
   refine sbT hb391 ?_
   rw [if_pos hb391]
   refine Xc rfl (clB By218_p0 rfl func24 rfl (spec_l1Once.calls (l1Cur.mk a0.b y218.1 y218.2.1) (2 : Int) s386.w (mm [0] s386) p0 w0_0 (A0_0.kp Ky218) By218_p0.w (By218_p0.apart rfl)) (fun r393 s394 p394 B394 => ?_))
   exact Xc rfl (Kj391 _ _ _ ⟨s394, _, rfl, (ue (ue (ue (ue (ue rfl rfl) rfl) rfl) rfl) rfl), (Ky218.st p394 rfl), B394, (By218_b30.st p394 rfl), (By218_b4.st p394 rfl), (Cy218_97.st p394 rfl), (Cy218_22.st p394 rfl), (Cy218_67.st p394 rfl)⟩)
  refine sbT hb391 ?_
  rw [if_neg (by rw [hb391]; decide)]
  exact Xj rfl (Xj rfl (Xc rfl (Kj391 _ _ _ ⟨s386, _, rfl, (ue (ue (ue (ue (ue rfl rfl) rfl) rfl) rfl) rfl), Ky218, By218_p0, By218_b30, By218_b4, Cy218_97, Cy218_22, Cy218_67⟩)))
 rintro y391 _ _ ⟨s402, _, rfl, rfl, Ky391, By391_p0, By391_b30, By391_b4, Cy391_97, Cy391_22, Cy391_67⟩
 refine dn (jc (fun (y406 : Int × Int × Nat × (List Int) × Int × Int × Nat × (List Int)) e w => ∃ (s : St) (e0 : Env) (vy406_0 vy406_1 uy406_0 uy406_1 : Value), w = s.w ∧ e = upd (upd (upd (upd e0 0 (pB p0)) 2 (.bool a2)) 6 (pB b4)) 7 (pB b30) ∧ Kp s0 s ∧ OwF Ya s [vy406_0] y406.2.2.2.1 42 ∧ OwF Ya s [vy406_1] y406.2.2.2.2.2.2.2 59 ∧ FL uy406_0 y406.2.2.1 ∧ FL uy406_1 y406.2.2.2.2.2.2.1 ∧ BlF s p0 80 [w0_0, (iI y391.2.1), (iI y391.2.2)] 2 ∧ BlF s b30 35 [(iI y218.2.2.1), (iI y105.2.2), (iI r132.1), (iI y218.2.2.2), (iI y406.1), (iI y406.2.1), uy406_0, vy406_0, (iI y406.2.2.2.2.1), (iI y406.2.2.2.2.2.1), uy406_1, vy406_1, (iI y43.1), (iI y43.2.1), uy43_0, vy43_0, (.slice none 0 0)] 45 ∧ BlF s b4 35 [(iI 0), (iI 0), (iI 0), (iI 0), (iI 0), (iI 0), (.float .f64 0), (.slice none 0 0), (iI 0), (iI 0), (.float .f64 0), (.slice none 0 0), (iI 0), (iI 0), (.float .f64 0), (.slice none 0 0), (.slice none 0 0)] 40 ∧ OwF Ya s [vy43_0] y43.2.2.2 47) (fun Gj406 Kj406 => ?_) ?_)
 ·
  refine cd rfl (fun h407 => ?_) (fun h407 => ?_)
  ·
   refine sr (bd (cells := [(iI 1), (iI (-9)), (.float .f64 0), (.slice none 0 0)]) pl26 o26 rfl rfl rfl rfl rfl rfl (Xt fa35_4 rfl (Xx (vs := [(iI 1), (iI (-9)), (.float .f64 0), (.slice none 0 0)]) By391_b30 z26 rfl (Xa rfl (Xa rfl (Xa (FL.one (Xl rfl)) (Xa rfl Xi)))) rfl (fun s408 p408 B408 => ?_))))
   replace B408 : BlF s408 b30 35 [(iI y218.2.2.1), (iI y105.2.2), (iI r132.1), (iI y218.2.2.2), (iI 1), (iI (-9)), (.float .f64 0), (.slice none 0 0), (iI r20.1.Kind), (iI r20.1.N), v20_0, v20_1, (iI y43.1), (iI y43.2.1), uy43_0, vy43_0, (.slice none 0 0)] 45 := B408
   refine dn (rg (ltF' (K := (Kd.int .u8)) (cells := [(.int .u8 (122 : Int)), (.int .u8 (122 : Int))]) [(122 : Int), (122 : Int)] 60 fl_int u22 z5 o5 (fun w => (Xv _ _ _)) rfl rfl (fun v410 s410 p410 A410 => ?_)))
   refine cvm A410 rfl u22 u5 rfl rfl rfl rfl rfl rfl (fun s412 p412 A412 => ?_)
   refine bd (cells := [(iI 3), (iI 0), (.float .f64 0), v410]) pl26 o26 rfl rfl rfl rfl rfl (lfill_pc (pc_c rfl (pc_c (oc A412.rd.one) pc_n)) rfl) (Xt fa35_5 rfl ?_)
   refine Xx (vs := [(iI 3), (iI 0), (.float .f64 0), v410]) (B408.st (Xk p410 p412) rfl) z26 rfl (Xa rfl (Xa rfl (Xa (FL.one (Xl rfl)) (Xa A412.rd.one Xi)))) rfl (fun s415 p415 B415 => ?_)
   replace B415 : BlF s415 b30 35 [(iI y218.2.2.1), (iI y105.2.2), (iI r132.1), (iI y218.2.2.2), (iI 1), (iI (-9)), (.float .f64 0), (.slice none 0 0), (iI 3), (iI 0), (.float .f64 0), v410, (iI y43.1), (iI y43.2.1), uy43_0, vy43_0, (.slice none 0 0)] 45 := B415
   refine dn ?_
   obtain ⟨s418, hw418, p418, A418⟩ := (A412.st p415 rfl).rc 59 rfl
   rw [hw418]
   exact Kj406 _ _ _ ⟨s418, _, (.slice none 0 0), v410, (.float .f64 0), (.float .f64 0), rfl, (ue (ue (ue (ue rfl rfl) rfl) rfl) rfl), (Ky391.st (tr5 p408 p410 p412 p415 p418) rfl), (Xu 5 (Kd.int .u8) _ 42), A418, (Xl rfl), (Xl rfl), (By391_p0.st (tr5 p408 p410 p412 p415 p418) rfl), (B415.st p418 rfl), (By391_b4.st (tr5 p408 p410 p412 p415 p418) rfl), (Cy391_67.st (tr5 p408 p410 p412 p415 p418) rfl)⟩
  refine sk ?_
  obtain ⟨s424, hw424, p424, A424⟩ := Cy391_22.rc 59 rfl
  rw [hw424]
  exact Kj406 _ _ _ ⟨s424, _, vy75_0, v20_1, uy75_0, v20_0, rfl, (ue (ue (ue (ue rfl rfl) rfl) rfl) rfl), (Ky391.st p424 rfl), (Cy391_97.st p424 rfl), A424, Fy75_0, hu20_0_0, (By391_p0.st p424 rfl), (By391_b30.st p424 rfl), (By391_b4.st p424 rfl), (Cy391_67.st p424 rfl)⟩
 rintro y406 _ _ ⟨s431, _, vy406_0, vy406_1, uy406_0, uy406_1, rfl, rfl, Ky406, Ay406_0, Ay406_1, Fy406_0, Fy406_1, By406_p0, By406_b30, By406_b4, Cy406_67⟩
 refine sq (sr (Xc rfl (Xc rfl (ji [] (fun (y437 : Bool × Int × Int) e w => ∃ (s : St) (e0 : Env), w = s.w ∧ e = upd (upd (upd (upd e0 0 (pB p0)) 6 (pB b4)) 7 (pB b30)) 109 (.bool y437.1) ∧ Kp s0 s ∧ BlF s p0 80 [w0_0, (iI y437.2.1), (iI y437.2.2)] 2 ∧ BlF s b30 35 [(iI y218.2.2.1), (iI y105.2.2), (iI r132.1), (iI y218.2.2.2), (iI y406.1), (iI y406.2.1), uy406_0, vy406_0, (iI y406.2.2.2.2.1), (iI y406.2.2.2.2.2.1), uy406_1, vy406_1, (iI y43.1), (iI y43.2.1), uy43_0, vy43_0, (.slice none 0 0)] 45 ∧ BlF s b4 35 [(iI 0), (iI 0), (iI 0), (iI 0), (iI 0), (iI 0), (.float .f64 0), (.slice none 0 0), (iI 0), (iI 0), (.float .f64 0), (.slice none 0 0), (iI 0), (iI 0), (.float .f64 0), (.slice none 0 0), (.slice none 0 0)] 40 ∧ OwF Ya s [vy406_0] y406.2.2.2.1 42 ∧ OwF Ya s [vy406_1] y406.2.2.2.2.2.2.2 59 ∧ OwF Ya s [vy43_0] y43.2.2.2 47) (fun Gj437 Kj437 => ?_) ?_))))
 ·
  rcases bft a2 with hb437 | hb437
  ·
   refine sbT hb437 ?_
   rw [if_pos hb437]
   refine Xc rfl (clB By406_p0 rfl func24 rfl (spec_l1Once.calls (l1Cur.mk a0.b y391.2.1 y391.2.2) (25 : Int) s431.w (mm [0] s431) p0 w0_0 (A0_0.kp Ky406) By406_p0.w (By406_p0.apart rfl)) (fun r439 s440 p440 B440 => ?_))
   exact Xc rfl (Kj437 _ _ _ ⟨s440, _, rfl, (ue (ue (ue (ue rfl rfl) rfl) rfl) rfl), (Ky406.st p440 rfl), B440, (By406_b30.st p440 rfl), (By406_b4.st p440 rfl), (Ay406_0.st p440 rfl), (Ay406_1.st p440 rfl), (Cy406_67.st p440 rfl)⟩)
  refine sbT hb437 ?_
  rw [if_neg (by rw [hb437]; decide)]
  exact Xj rfl (Xj rfl (Xc rfl (Kj437 _ _ _ ⟨s431, _, rfl, (ue (ue (ue (ue rfl rfl) rfl) rfl) rfl), Ky406, By406_p0, By406_b30, By406_b4, Ay406_0, Ay406_1, Cy406_67⟩)))
 rintro y437 _ _ ⟨s448, _, rfl, rfl, Ky437, By437_p0, By437_b30, By437_b4, Cy437_432, Cy437_433, Cy437_67⟩
 refine dn (jc (fun (y452 : Int × Int × Int × Int × Int × Int × Int × Int × Nat × (List Int) × Int × Int × Nat × (List Int)) e w => ∃ (s : St) (e0 : Env) (vy452_0 vy452_1 uy452_0 uy452_1 : Value), w = s.w ∧ e = upd (upd e0 6 (pB b4)) 7 (pB b30) ∧ Kp s0 s ∧ OwF Ya s [vy452_0] y452.2.2.2.2.2.2.2.2.2.1 62 ∧ OwF Ya s [vy452_1] y452.2.2.2.2.2.2.2.2.2.2.2.2.2 63 ∧ FL uy452_0 y452.2.2.2.2.2.2.2.2.1 ∧ FL uy452_1 y452.2.2.2.2.2.2.2.2.2.2.2.2.1 ∧ BlF s p0 80 [w0_0, (iI y452.1), (iI y452.2.1)] 2 ∧ BlF s b30 35 [(iI y452.2.2.1), (iI y452.2.2.2.1), (iI y452.2.2.2.2.1), (iI y452.2.2.2.2.2.1), (iI y452.2.2.2.2.2.2.1), (iI y452.2.2.2.2.2.2.2.1), uy452_0, vy452_0, (iI y406.2.2.2.2.1), (iI y406.2.2.2.2.2.1), uy406_1, vy406_1, (iI y452.2.2.2.2.2.2.2.2.2.2.1), (iI y452.2.2.2.2.2.2.2.2.2.2.2.1), uy452_1, vy452_1, (.slice none 0 0)] 45 ∧ BlF s b4 35 [(iI 0), (iI 0), (iI 0), (iI 0), (iI 0), (iI 0), (.float .f64 0), (.slice none 0 0), (iI 0), (iI 0), (.float .f64 0), (.slice none 0 0), (iI 0), (iI 0), (.float .f64 0), (.slice none 0 0), (.slice none 0 0)] 40 ∧ OwF Ya s [vy406_1] y406.2.2.2.2.2.2.2 59) (fun Gj452 Kj452 => ?_) ?_)
 ·
  refine cd rfl (fun h453 => ?_) (fun h453 => ?_)
  ·
   refine sr (Xc rfl ?_)
   refine clB By437_p0 rfl func31 rfl (spec_l1Below.calls (l1Cur.mk a0.b y437.2.1 y437.2.2) (6 : Int) s448.w (mm [0] s448) p0 w0_0 (A0_0.kp Ky437) By437_p0.w (By437_p0.apart rfl)) (fun r455 s456 p456 B456 => ?_)
   refine dn (bl (sr (Xc rfl (Xc rfl (dn (jc (fun (y458 : Int × Int × Int × Int × Int × Int × Int × Int × Nat × (List Int) × Int × Int × Nat × (List Int)) e w => ∃ (s : St) (e0 : Env) (vy458_0 vy458_1 uy458_0 uy458_1 : Value), w = s.w ∧ e = upd (upd e0 6 (pB b4)) 7 (pB b30) ∧ Kp s0 s ∧ OwF Ya s [vy458_0] y458.2.2.2.2.2.2.2.2.2.1 65 ∧ OwF Ya s [vy458_1] y458.2.2.2.2.2.2.2.2.2.2.2.2.2 66 ∧ FL uy458_0 y458.2.2.2.2.2.2.2.2.1 ∧ FL uy458_1 y458.2.2.2.2.2.2.2.2.2.2.2.2.1 ∧ BlF s p0 80 [w0_0, (iI y458.1), (iI y458.2.1)] 2 ∧ BlF s b30 35 [(iI y458.2.2.1), (iI y458.2.2.2.1), (iI y458.2.2.2.2.1), (iI y458.2.2.2.2.2.1), (iI y458.2.2.2.2.2.2.1), (iI y458.2.2.2.2.2.2.2.1), uy458_0, vy458_0, (iI y406.2.2.2.2.1), (iI y406.2.2.2.2.2.1), uy406_1, vy406_1, (iI y458.2.2.2.2.2.2.2.2.2.2.1), (iI y458.2.2.2.2.2.2.2.2.2.2.2.1), uy458_1, vy458_1, (.slice none 0 0)] 45 ∧ BlF s b4 35 [(iI 0), (iI 0), (iI 0), (iI 0), (iI 0), (iI 0), (.float .f64 0), (.slice none 0 0), (iI 0), (iI 0), (.float .f64 0), (.slice none 0 0), (iI 0), (iI 0), (.float .f64 0), (.slice none 0 0), (.slice none 0 0)] 40 ∧ OwF Ya s [vy406_1] y406.2.2.2.2.2.2.2 59) (fun Gj458 Kj458 => ?_) ?_))))))
   ·
    refine cd rfl (fun h459 => ?_) (fun h459 => ?_)
    ·
     refine rg (Xc rfl ?_)
     have K460 := Ky437.st p456 rfl
     refine clB B456 rfl func31 rfl (spec_l1Below.calls (l1Cur.mk a0.b r455.2.i r455.2.h) (16 : Int) s456.w (mm [0] s456) p0 w0_0 (A0_0.kp K460) B456.w (B456.apart rfl)) (fun r462 s463 p463 B463 => ?_)
     refine Xc rfl (Xt fa35_0 rfl ?_)
     refine sv' (By437_b30.st (Xk p456 p463) rfl) z3 rfl rfl rfl (fun s466 p466 B466 => ?_)
     replace B466 : BlF s466 b30 35 [(iI (IntKind.wrap .i64 (r462.1 - (1 : Int)))), (iI y105.2.2), (iI r132.1), (iI y218.2.2.2), (iI y406.1), (iI y406.2.1), uy406_0, vy406_0, (iI y406.2.2.2.2.1), (iI y406.2.2.2.2.2.1), uy406_1, vy406_1, (iI y43.1), (iI y43.2.1), uy43_0, vy43_0, (.slice none 0 0)] 45 := B466
     refine dn ?_
     obtain ⟨s469, hw469, p469, A469⟩ := (Cy437_432.st (Xw p456 p463 p466) rfl).rc 65 rfl
     rw [hw469]
     obtain ⟨s471, hw471, p471, A471⟩ := (Cy437_67.st (tr4 p456 p463 p466 p469) rfl).rc 66 rfl
     rw [hw471]
     exact Kj458 _ _ _ ⟨s471, _, vy406_0, vy43_0, uy406_0, uy43_0, rfl, (ue (ue rfl rfl) rfl), (K460.st (tr4 p463 p466 p469 p471) rfl), (A469.st p471 rfl), A471, Fy406_0, Fy43_0, (B463.st (Xw p466 p469 p471) rfl), (B466.st (Xk p469 p471) rfl), (By437_b4.st (tr5 p456 p463 p466 p469 p471) rfl), (Cy437_433.st (tr5 p456 p463 p466 p469 p471) rfl)⟩
    refine sr (Xc rfl (Xc rfl (dn (jc (fun (y478 : Int × Int × Int × Int × Int × Int × Int × Nat × (List Int) × Int × Int × Nat × (List Int)) e w => ∃ (s : St) (e0 : Env) (vy478_0 vy478_1 uy478_0 uy478_1 : Value), w = s.w ∧ e = upd (upd e0 6 (pB b4)) 7 (pB b30) ∧ Kp s0 s ∧ OwF Ya s [vy478_0] y478.2.2.2.2.2.2.2.2.1 68 ∧ OwF Ya s [vy478_1] y478.2.2.2.2.2.2.2.2.2.2.2.2 69 ∧ FL uy478_0 y478.2.2.2.2.2.2.2.1 ∧ FL uy478_1 y478.2.2.2.2.2.2.2.2.2.2.2.1 ∧ BlF s p0 80 [w0_0, (iI y478.1), (iI y478.2.1)] 2 ∧ BlF s b30 35 [(iI y218.2.2.1), (iI y478.2.2.1), (iI y478.2.2.2.1), (iI y478.2.2.2.2.1), (iI y478.2.2.2.2.2.1), (iI y478.2.2.2.2.2.2.1), uy478_0, vy478_0, (iI y406.2.2.2.2.1), (iI y406.2.2.2.2.2.1), uy406_1, vy406_1, (iI y478.2.2.2.2.2.2.2.2.2.1), (iI y478.2.2.2.2.2.2.2.2.2.2.1), uy478_1, vy478_1, (.slice none 0 0)] 45 ∧ BlF s b4 35 [(iI 0), (iI 0), (iI 0), (iI 0), (iI 0), (iI 0), (.float .f64 0), (.slice none 0 0), (iI 0), (iI 0), (.float .f64 0), (.slice none 0 0), (iI 0), (iI 0), (.float .f64 0), (.slice none 0 0), (.slice none 0 0)] 40 ∧ OwF Ya s [vy406_1] y406.2.2.2.2.2.2.2 59) (fun Gj478 Kj478 => ?_) ?_))))
    ·
     refine cd rfl (fun h479 => ?_) (fun h479 => ?_)
     ·
      refine rg (Xc rfl (ltF' (K := (Kd.int .i64)) (cells := [(iI (-1)), (iI 7), (iI 8)]) [(-1 : Int), (7 : Int), (8 : Int)] 70 fl_int u96 z3 o3 (fun w => (Xv _ _ _)) rfl rfl (fun v480 s480 p480 A480 => ?_)))
      have K482 := Ky437.st (Xk p456 p480) rfl
      have A485 := B456.st p480 rfl
      refine clB A485 rfl func69 rfl (spec_l1PickInt.calls (l1Cur.mk a0.b r455.2.i r455.2.h) ([(-1 : Int), (7 : Int), (8 : Int)]) s480.w (mm [0, 70] s480) p0 w0_0 v480 ((A0_0.kp K482).sub (D := [0, 70]) rfl) (A480.rd.sub (D := [0, 70]) rfl) A485.w (A485.apart rfl)) (fun r484 s486 p486 B486 => ?_)
      refine Xt fa35_1 rfl (sv' (By437_b30.st (Xw p456 p480 p486) rfl) z3 rfl rfl rfl (fun s489 p489 B489 => ?_))
      replace B489 : BlF s489 b30 35 [(iI y218.2.2.1), (iI r484.1), (iI r132.1), (iI y218.2.2.2), (iI y406.1), (iI y406.2.1), uy406_0, vy406_0, (iI y406.2.2.2.2.1), (iI y406.2.2.2.2.2.1), uy406_1, vy406_1, (iI y43.1), (iI y43.2.1), uy43_0, vy43_0, (.slice none 0 0)] 45 := B489
      refine dn ?_
      obtain ⟨s492, hw492, p492, A492⟩ := (Cy437_432.st (tr4 p456 p480 p486 p489) rfl).rc 68 rfl
      rw [hw492]
      obtain ⟨s494, hw494, p494, A494⟩ := (Cy437_67.st (tr5 p456 p480 p486 p489 p492) rfl).rc 69 rfl
      rw [hw494]
      exact Kj478 _ _ _ ⟨s494, _, vy406_0, vy43_0, uy406_0, uy43_0, rfl, (ue (ue rfl rfl) rfl), (K482.st (tr4 p486 p489 p492 p494) rfl), (A492.st p494 rfl), A494, Fy406_0, Fy43_0, (B486.st (Xw p489 p492 p494) rfl), (B489.st (Xk p492 p494) rfl), (By437_b4.st (tr6 p456 p480 p486 p489 p492 p494) rfl), (Cy437_433.st (tr6 p456 p480 p486 p489 p492 p494) rfl)⟩
     refine sr (Xc rfl (Xc rfl (dn (jc (fun (y501 : Int × Int × Int × Int × Int × Int × Nat × (List Int) × Int × Int × Nat × (List Int)) e w => ∃ (s : St) (e0 : Env) (vy501_0 vy501_1 uy501_0 uy501_1 : Value), w = s.w ∧ e = upd (upd e0 6 (pB b4)) 7 (pB b30) ∧ Kp s0 s ∧ OwF Ya s [vy501_0] y501.2.2.2.2.2.2.2.1 72 ∧ OwF Ya s [vy501_1] y501.2.2.2.2.2.2.2.2.2.2.2 73 ∧ FL uy501_0 y501.2.2.2.2.2.2.1 ∧ FL uy501_1 y501.2.2.2.2.2.2.2.2.2.2.1 ∧ BlF s p0 80 [w0_0, (iI y501.1), (iI y501.2.1)] 2 ∧ BlF s b30 35 [(iI y218.2.2.1), (iI y105.2.2), (iI y501.2.2.1), (iI y501.2.2.2.1), (iI y501.2.2.2.2.1), (iI y501.2.2.2.2.2.1), uy501_0, vy501_0, (iI y406.2.2.2.2.1), (iI y406.2.2.2.2.2.1), uy406_1, vy406_1, (iI y501.2.2.2.2.2.2.2.2.1), (iI y501.2.2.2.2.2.2.2.2.2.1), uy501_1, vy501_1, (.slice none 0 0)] 45 ∧ BlF s b4 35 [(iI 0), (iI 0), (iI 0), (iI 0), (iI 0), (iI 0), (.float .f64 0), (.slice none 0 0), (iI 0), (iI 0), (.float .f64 0), (.slice none 0 0), (iI 0), (iI 0), (.float .f64 0), (.slice none 0 0), (.slice none 0 0)] 40 ∧ OwF Ya s [vy406_1] y406.2.2.2.2.2.2.2 59) (fun Gj501 Kj501 => ?_) ?_))))
     ·
      refine cd rfl (fun h502 => ?_) (fun h502 => ?_)
      ·
       refine rg (Xc rfl (ltF' (K := (Kd.int .i64)) (cells := [(iI (-1)), (iI 2)]) [(-1 : Int), (2 : Int)] 74 fl_int u96 z3 o3 (fun w => (Xv _ _ _)) rfl rfl (fun v503 s503 p503 A503 => ?_)))
       have K505 := Ky437.st (Xk p456 p503) rfl
       have A508 := B456.st p503 rfl
       refine clB A508 rfl func69 rfl (spec_l1PickInt.calls (l1Cur.mk a0.b r455.2.i r455.2.h) ([(-1 : Int), (2 : Int)]) s503.w (mm [0, 74] s503) p0 w0_0 v503 ((A0_0.kp K505).sub (D := [0, 74]) rfl) (A503.rd.sub (D := [0, 74]) rfl) A508.w (A508.apart rfl)) (fun r507 s509 p509 B509 => ?_)
       refine Xt fa35_2 rfl (sv' (By437_b30.st (Xw p456 p503 p509) rfl) z3 rfl rfl rfl (fun s512 p512 B512 => ?_))
       replace B512 : BlF s512 b30 35 [(iI y218.2.2.1), (iI y105.2.2), (iI r507.1), (iI y218.2.2.2), (iI y406.1), (iI y406.2.1), uy406_0, vy406_0, (iI y406.2.2.2.2.1), (iI y406.2.2.2.2.2.1), uy406_1, vy406_1, (iI y43.1), (iI y43.2.1), uy43_0, vy43_0, (.slice none 0 0)] 45 := B512
       refine dn ?_
       obtain ⟨s515, hw515, p515, A515⟩ := (Cy437_432.st (tr4 p456 p503 p509 p512) rfl).rc 72 rfl
       rw [hw515]
       obtain ⟨s517, hw517, p517, A517⟩ := (Cy437_67.st (tr5 p456 p503 p509 p512 p515) rfl).rc 73 rfl
       rw [hw517]
       exact Kj501 _ _ _ ⟨s517, _, vy406_0, vy43_0, uy406_0, uy43_0, rfl, (ue (ue rfl rfl) rfl), (K505.st (tr4 p509 p512 p515 p517) rfl), (A515.st p517 rfl), A517, Fy406_0, Fy43_0, (B509.st (Xw p512 p515 p517) rfl), (B512.st (Xk p515 p517) rfl), (By437_b4.st (tr6 p456 p503 p509 p512 p515 p517) rfl), (Cy437_433.st (tr6 p456 p503 p509 p512 p515 p517) rfl)⟩
      refine sr (Xc rfl (Xc rfl (dn (jc (fun (y524 : Int × Int × Int × Int × Int × Nat × (List Int) × Int × Int × Nat × (List Int)) e w => ∃ (s : St) (e0 : Env) (vy524_0 vy524_1 uy524_0 uy524_1 : Value), w = s.w ∧ e = upd (upd e0 6 (pB b4)) 7 (pB b30) ∧ Kp s0 s ∧ OwF Ya s [vy524_0] y524.2.2.2.2.2.2.1 76 ∧ OwF Ya s [vy524_1] y524.2.2.2.2.2.2.2.2.2.2 77 ∧ FL uy524_0 y524.2.2.2.2.2.1 ∧ FL uy524_1 y524.2.2.2.2.2.2.2.2.2.1 ∧ BlF s p0 80 [w0_0, (iI y524.1), (iI y524.2.1)] 2 ∧ BlF s b30 35 [(iI y218.2.2.1), (iI y105.2.2), (iI r132.1), (iI y524.2.2.1), (iI y524.2.2.2.1), (iI y524.2.2.2.2.1), uy524_0, vy524_0, (iI y406.2.2.2.2.1), (iI y406.2.2.2.2.2.1), uy406_1, vy406_1, (iI y524.2.2.2.2.2.2.2.1), (iI y524.2.2.2.2.2.2.2.2.1), uy524_1, vy524_1, (.slice none 0 0)] 45 ∧ BlF s b4 35 [(iI 0), (iI 0), (iI 0), (iI 0), (iI 0), (iI 0), (.float .f64 0), (.slice none 0 0), (iI 0), (iI 0), (.float .f64 0), (.slice none 0 0), (iI 0), (iI 0), (.float .f64 0), (.slice none 0 0), (.slice none 0 0)] 40 ∧ OwF Ya s [vy406_1] y406.2.2.2.2.2.2.2 59) (fun Gj524 Kj524 => ?_) ?_))))
      ·
       refine cd rfl (fun h525 => ?_) (fun h525 => ?_)
       ·
        refine rg (Xc rfl ?_)
        have K526 := Ky437.st p456 rfl
        refine cl' rfl func23 rfl (spec_l3any.calls (l1Cur.mk a0.b r455.2.i r455.2.h) s456.w (mm [0] s456) p0 w0_0 (A0_0.kp K526) B456.w (B456.apart rfl)) ?_
        rintro r528 _ w528 m528 ⟨v528_0, v528_1, rfl, f528_0, bw528, ky528⟩
        obtain ⟨s529, rfl, p529, n529, g529⟩ := nwb 78 B456 ky528
        obtain ⟨hu528_0_0, Au528_0_1⟩ := ap26 (f528_0.c n529)
        have B529 := Xy bw528 g529
        refine Xt fa35_4 rfl (Xx (vs := [(iI r528.1.Kind), (iI r528.1.N), v528_0, v528_1]) (By437_b30.st (Xk p456 p529) rfl) z26 rfl (Xa rfl (Xa rfl (Xa (FL.one hu528_0_0) (Xa Au528_0_1.rd.one Xi)))) rfl (fun s533 p533 B533 => ?_))
        replace B533 : BlF s533 b30 35 [(iI y218.2.2.1), (iI y105.2.2), (iI r132.1), (iI y218.2.2.2), (iI r528.1.Kind), (iI r528.1.N), v528_0, v528_1, (iI y406.2.2.2.2.1), (iI y406.2.2.2.2.2.1), uy406_1, vy406_1, (iI y43.1), (iI y43.2.1), uy43_0, vy43_0, (.slice none 0 0)] 45 := B533
        refine dn ?_
        obtain ⟨s536, hw536, p536, A536⟩ := (Au528_0_1.st p533 rfl).rc 76 rfl
        rw [hw536]
        obtain ⟨s538, hw538, p538, A538⟩ := (Cy437_67.st (tr4 p456 p529 p533 p536) rfl).rc 77 rfl
        rw [hw538]
        exact Kj524 _ _ _ ⟨s538, _, v528_1, vy43_0, v528_0, uy43_0, rfl, (ue (ue rfl rfl) rfl), (K526.st (tr4 p529 p533 p536 p538) rfl), (A536.st p538 rfl), A538, hu528_0_0, Fy43_0, (B529.st (Xw p533 p536 p538) rfl), (B533.st (Xk p536 p538) rfl), (By437_b4.st (tr5 p456 p529 p533 p536 p538) rfl), (Cy437_433.st (tr5 p456 p529 p533 p536 p538) rfl)⟩
       refine sr (Xc rfl (Xc rfl (dn (jc (fun (y545 : Int × Int × Int × Int × Int × Nat × (List Int)) e w => ∃ (s : St) (e0 : Env) (vy545_0 uy545_0 : Value), w = s.w ∧ e = upd (upd e0 6 (pB b4)) 7 (pB b30) ∧ Kp s0 s ∧ OwF Ya s [vy545_0] y545.2.2.2.2.2.2 79 ∧ FL uy545_0 y545.2.2.2.2.2.1 ∧ BlF s p0 80 [w0_0, (iI y545.1), (iI y545.2.1)] 2 ∧ BlF s b30 35 [(iI y218.2.2.1), (iI y105.2.2), (iI r132.1), (iI y545.2.2.1), (iI y406.1), (iI y406.2.1), uy406_0, vy406_0, (iI y406.2.2.2.2.1), (iI y406.2.2.2.2.2.1), uy406_1, vy406_1, (iI y545.2.2.2.1), (iI y545.2.2.2.2.1), uy545_0, vy545_0, (.slice none 0 0)] 45 ∧ BlF s b4 35 [(iI 0), (iI 0), (iI 0), (iI 0), (iI 0), (iI 0), (.float .f64 0), (.slice none 0 0), (iI 0), (iI 0), (.float .f64 0), (.slice none 0 0), (iI 0), (iI 0), (.float .f64 0), (.slice none 0 0), (.slice none 0 0)] 40 ∧ OwF Ya s [vy406_0] y406.2.2.2.1 42 ∧ OwF Ya s [vy406_1] y406.2.2.2.2.2.2.2 59) (fun Gj545 Kj545 => ?_) ?_))))
       ·
        refine cd rfl (fun h546 => ?_) (fun h546 => ?_)
        ·
         refine rg (Xc rfl (ltF' (K := (Kd.int .i64)) (cells := [(iI (-1)), (iI 50), (iI 51)]) [(-1 : Int), (50 : Int), (51 : Int)] 80 fl_int u96 z3 o3 (fun w => (Xv _ _ _)) rfl rfl (fun v547 s547 p547 A547 => ?_)))
         have K549 := Ky437.st (Xk p456 p547) rfl
         have A552 := B456.st p547 rfl
         refine clB A552 rfl func69 rfl (spec_l1PickInt.calls (l1Cur.mk a0.b r455.2.i r455.2.h) ([(-1 : Int), (50 : Int), (51 : Int)]) s547.w (mm [0, 80] s547) p0 w0_0 v547 ((A0_0.kp K549).sub (D := [0, 80]) rfl) (A547.rd.sub (D := [0, 80]) rfl) A552.w (A552.apart rfl)) (fun r551 s553 p553 B553 => ?_)
         refine Xt fa35_3 rfl (sv' (By437_b30.st (Xw p456 p547 p553) rfl) z3 rfl rfl rfl (fun s556 p556 B556 => ?_))
         replace B556 : BlF s556 b30 35 [(iI y218.2.2.1), (iI y105.2.2), (iI r132.1), (iI r551.1), (iI y406.1), (iI y406.2.1), uy406_0, vy406_0, (iI y406.2.2.2.2.1), (iI y406.2.2.2.2.2.1), uy406_1, vy406_1, (iI y43.1), (iI y43.2.1), uy43_0, vy43_0, (.slice none 0 0)] 45 := B556
         refine dn ?_
         obtain ⟨s559, hw559, p559, A559⟩ := (Cy437_67.st (tr4 p456 p547 p553 p556) rfl).rc 79 rfl
         rw [hw559]
         exact Kj545 _ _ _ ⟨s559, _, vy43_0, uy43_0, rfl, (ue (ue rfl rfl) rfl), (K549.st (Xw p553 p556 p559) rfl), A559, Fy43_0, (B553.st (Xk p556 p559) rfl), (B556.st p559 rfl), (By437_b4.st (tr5 p456 p547 p553 p556 p559) rfl), (Cy437_432.st (tr5 p456 p547 p553 p556 p559) rfl), (Cy437_433.st (tr5 p456 p547 p553 p556 p559) rfl)⟩
        refine sr (Xc rfl (Xc rfl (dn (jc (fun (y566 : Int × Int × Int × Int × Nat × (List Int)) e w => ∃ (s : St) (e0 : Env) (vy566_0 uy566_0 : Value), w = s.w ∧ e = upd (upd e0 6 (pB b4)) 7 (pB b30) ∧ Kp s0 s ∧ OwF Ya s [vy566_0] y566.2.2.2.2.2 82 ∧ FL uy566_0 y566.2.2.2.2.1 ∧ BlF s p0 80 [w0_0, (iI y566.1), (iI y566.2.1)] 2 ∧ BlF s b30 35 [(iI y218.2.2.1), (iI y105.2.2), (iI r132.1), (iI y218.2.2.2), (iI y406.1), (iI y406.2.1), uy406_0, vy406_0, (iI y406.2.2.2.2.1), (iI y406.2.2.2.2.2.1), uy406_1, vy406_1, (iI y566.2.2.1), (iI y566.2.2.2.1), uy566_0, vy566_0, (.slice none 0 0)] 45 ∧ BlF s b4 35 [(iI 0), (iI 0), (iI 0), (iI 0), (iI 0), (iI 0), (.float .f64 0), (.slice none 0 0), (iI 0), (iI 0), (.float .f64 0), (.slice none 0 0), (iI 0), (iI 0), (.float .f64 0), (.slice none 0 0), (.slice none 0 0)] 40 ∧ OwF Ya s [vy406_0] y406.2.2.2.1 42 ∧ OwF Ya s [vy406_1] y406.2.2.2.2.2.2.2 59) (fun Gj566 Kj566 => ?_) ?_))))
        ·
         refine cd rfl (fun h567 => ?_) (fun h567 => ?_)
         ·
          refine rg (Xc rfl ?_)
          have K568 := Ky437.st p456 rfl
          refine cl' rfl func23 rfl (spec_l3any.calls (l1Cur.mk a0.b r455.2.i r455.2.h) s456.w (mm [0] s456) p0 w0_0 (A0_0.kp K568) B456.w (B456.apart rfl)) ?_
          rintro r570 _ w570 m570 ⟨v570_0, v570_1, rfl, f570_0, bw570, ky570⟩
          obtain ⟨s571, rfl, p571, n571, g571⟩ := nwb 83 B456 ky570
          obtain ⟨hu570_0_0, Au570_0_1⟩ := ap26 (f570_0.c n571)
          have B571 := Xy bw570 g571
          refine Xt fa35_6 rfl (Xx (vs := [(iI r570.1.Kind), (iI r570.1.N), v570_0, v570_1]) (By437_b30.st (Xk p456 p571) rfl) z26 rfl (Xa rfl (Xa rfl (Xa (FL.one hu570_0_0) (Xa Au570_0_1.rd.one Xi)))) rfl (fun s575 p575 B575 => ?_))
          replace B575 : BlF s575 b30 35 [(iI y218.2.2.1), (iI y105.2.2), (iI r132.1), (iI y218.2.2.2), (iI y406.1), (iI y406.2.1), uy406_0, vy406_0, (iI y406.2.2.2.2.1), (iI y406.2.2.2.2.2.1), uy406_1, vy406_1, (iI r570.1.Kind), (iI r570.1.N), v570_0, v570_1, (.slice none 0 0)] 45 := B575
          refine dn ?_
          obtain ⟨s578, hw578, p578, A578⟩ := (Au570_0_1.st p575 rfl).rc 82 rfl
          rw [hw578]
          exact Kj566 _ _ _ ⟨s578, _, v570_1, v570_0, rfl, (ue (ue rfl rfl) rfl), (K568.st (Xw p571 p575 p578) rfl), A578, hu570_0_0, (B571.st (Xk p575 p578) rfl), (B575.st p578 rfl), (By437_b4.st (tr4 p456 p571 p575 p578) rfl), (Cy437_432.st (tr4 p456 p571 p575 p578) rfl), (Cy437_433.st (tr4 p456 p571 p575 p578) rfl)⟩
         refine sk ?_
         obtain ⟨s586, hw586, p586, A586⟩ := (Cy437_67.st p456 rfl).rc 82 rfl
         rw [hw586]
         exact Kj566 _ _ _ ⟨s586, _, vy43_0, uy43_0, rfl, (ue (ue rfl rfl) rfl), (Ky437.st (Xk p456 p586) rfl), A586, Fy43_0, (B456.st p586 rfl), (By437_b30.st (Xk p456 p586) rfl), (By437_b4.st (Xk p456 p586) rfl), (Cy437_432.st (Xk p456 p586) rfl), (Cy437_433.st (Xk p456 p586) rfl)⟩
        rintro y566 _ _ ⟨s593, _, vy566_0, uy566_0, rfl, rfl, Ky566, Ay566_0, Fy566_0, By566_p0, By566_b30, By566_b4, Cy566_432, Cy566_433⟩
        obtain ⟨s598, hw598, p598, A598⟩ := Ay566_0.rc 79 rfl
        rw [hw598]
        exact Kj545 _ _ _ ⟨s598, _, vy566_0, uy566_0, rfl, (ue (ue rfl rfl) rfl), (Ky566.st p598 rfl), A598, Fy566_0, (By566_p0.st p598 rfl), (By566_b30.st p598 rfl), (By566_b4.st p598 rfl), (Cy566_432.st p598 rfl), (Cy566_433.st p598 rfl)⟩
       rintro y545 _ _ ⟨s605, _, vy545_0, uy545_0, rfl, rfl, Ky545, Ay545_0, Fy545_0, By545_p0, By545_b30, By545_b4, Cy545_432, Cy545_433⟩
       obtain ⟨s610, hw610, p610, A610⟩ := Cy545_432.rc 76 rfl
       rw [hw610]
       obtain ⟨s612, hw612, p612, A612⟩ := (Ay545_0.st p610 rfl).rc 77 rfl
       rw [hw612]
       exact Kj524 _ _ _ ⟨s612, _, vy406_0, vy545_0, uy406_0, uy545_0, rfl, (ue (ue rfl rfl) rfl), (Ky545.st (Xk p610 p612) rfl), (A610.st p612 rfl), A612, Fy406_0, Fy545_0, (By545_p0.st (Xk p610 p612) rfl), (By545_b30.st (Xk p610 p612) rfl), (By545_b4.st (Xk p610 p612) rfl), (Cy545_433.st (Xk p610 p612) rfl)⟩
      rintro y524 _ _ ⟨s619, _, vy524_0, vy524_1, uy524_0, uy524_1, rfl, rfl, Ky524, Ay524_0, Ay524_1, Fy524_0, Fy524_1, By524_p0, By524_b30, By524_b4, Cy524_433⟩
      obtain ⟨s625, hw625, p625, A625⟩ := Ay524_0.rc 72 rfl
      rw [hw625]
      obtain ⟨s627, hw627, p627, A627⟩ := (Ay524_1.st p625 rfl).rc 73 rfl
      rw [hw627]
      exact Kj501 _ _ _ ⟨s627, _, vy524_0, vy524_1, uy524_0, uy524_1, rfl, (ue (ue rfl rfl) rfl), (Ky524.st (Xk p625 p627) rfl), (A625.st p627 rfl), A627, Fy524_0, Fy524_1, (By524_p0.st (Xk p625 p627) rfl), (By524_b30.st (Xk p625 p627) rfl), (By524_b4.st (Xk p625 p627) rfl), (Cy524_433.st (Xk p625 p627) rfl)⟩
     rintro y501 _ _ ⟨s634, _, vy501_0, vy501_1, uy501_0, uy501_1, rfl, rfl, Ky501, Ay501_0, Ay501_1, Fy501_0, Fy501_1, By501_p0, By501_b30, By501_b4, Cy501_433⟩
     obtain ⟨s640, hw640, p640, A640⟩ := Ay501_0.rc 68 rfl
     rw [hw640]
     obtain ⟨s642, hw642, p642, A642⟩ := (Ay501_1.st p640 rfl).rc 69 rfl
     rw [hw642]
     exact Kj478 _ _ _ ⟨s642, _, vy501_0, vy501_1, uy501_0, uy501_1, rfl, (ue (ue rfl rfl) rfl), (Ky501.st (Xk p640 p642) rfl), (A640.st p642 rfl), A642, Fy501_0, Fy501_1, (By501_p0.st (Xk p640 p642) rfl), (By501_b30.st (Xk p640 p642) rfl), (By501_b4.st (Xk p640 p642) rfl), (Cy501_433.st (Xk p640 p642) rfl)⟩
    rintro y478 _ _ ⟨s649, _, vy478_0, vy478_1, uy478_0, uy478_1, rfl, rfl, Ky478, Ay478_0, Ay478_1, Fy478_0, Fy478_1, By478_p0, By478_b30, By478_b4, Cy478_433⟩
    obtain ⟨s655, hw655, p655, A655⟩ := Ay478_0.rc 65 rfl
    rw [hw655]
    obtain ⟨s657, hw657, p657, A657⟩ := (Ay478_1.st p655 rfl).rc 66 rfl
    rw [hw657]
    exact Kj458 _ _ _ ⟨s657, _, vy478_0, vy478_1, uy478_0, uy478_1, rfl, (ue (ue rfl rfl) rfl), (Ky478.st (Xk p655 p657) rfl), (A655.st p657 rfl), A657, Fy478_0, Fy478_1, (By478_p0.st (Xk p655 p657) rfl), (By478_b30.st (Xk p655 p657) rfl), (By478_b4.st (Xk p655 p657) rfl), (Cy478_433.st (Xk p655 p657) rfl)⟩
   rintro y458 _ _ ⟨s664, _, vy458_0, vy458_1, uy458_0, uy458_1, rfl, rfl, Ky458, Ay458_0, Ay458_1, Fy458_0, Fy458_1, By458_p0, By458_b30, By458_b4, Cy458_433⟩
   refine ib ?_
   obtain ⟨s670, hw670, p670, A670⟩ := Ay458_0.rc 62 rfl
   rw [hw670]
   obtain ⟨s672, hw672, p672, A672⟩ := (Ay458_1.st p670 rfl).rc 63 rfl
   rw [hw672]
   exact Kj452 _ _ _ ⟨s672, _, vy458_0, vy458_1, uy458_0, uy458_1, rfl, (ue (ue rfl rfl) rfl), (Ky458.st (Xk p670 p672) rfl), (A670.st p672 rfl), A672, Fy458_0, Fy458_1, (By458_p0.st (Xk p670 p672) rfl), (By458_b30.st (Xk p670 p672) rfl), (By458_b4.st (Xk p670 p672) rfl), (Cy458_433.st (Xk p670 p672) rfl)⟩
  refine sk ?_
  obtain ⟨s679, hw679, p679, A679⟩ := Cy437_432.rc 62 rfl
  rw [hw679]
  obtain ⟨s681, hw681, p681, A681⟩ := (Cy437_67.st p679 rfl).rc 63 rfl
  rw [hw681]
  exact Kj452 _ _ _ ⟨s681, _, vy406_0, vy43_0, uy406_0, uy43_0, rfl, (ue (ue rfl rfl) rfl), (Ky437.st (Xk p679 p681) rfl), (A679.st p681 rfl), A681, Fy406_0, Fy43_0, (By437_p0.st (Xk p679 p681) rfl), (By437_b30.st (Xk p679 p681) rfl), (By437_b4.st (Xk p679 p681) rfl), (Cy437_433.st (Xk p679 p681) rfl)⟩
 rintro y452 _ _ ⟨s688, _, vy452_0, vy452_1, uy452_0, uy452_1, rfl, rfl, Ky452, Ay452_0, Ay452_1, Fy452_0, Fy452_1, By452_p0, By452_b30, By452_b4, Cy452_433⟩
 refine sr (lda' (es := [(iI y452.2.2.1), (iI y452.2.2.2.1), (iI y452.2.2.2.2.1), (iI y452.2.2.2.2.2.1), (iI y452.2.2.2.2.2.2.1), (iI y452.2.2.2.2.2.2.2.1), uy452_0, vy452_0, (iI y406.2.2.2.2.1), (iI y406.2.2.2.2.2.1), uy406_1, vy406_1, (iI y452.2.2.2.2.2.2.2.2.2.2.1), (iI y452.2.2.2.2.2.2.2.2.2.2.2.1), uy452_1, vy452_1, (.slice none 0 0)]) By452_b30 u35 z35 rfl (Xx (vs := [(iI y452.2.2.1), (iI y452.2.2.2.1), (iI y452.2.2.2.2.1), (iI y452.2.2.2.2.2.1), (iI y452.2.2.2.2.2.2.1), (iI y452.2.2.2.2.2.2.2.1), uy452_0, vy452_0, (iI y406.2.2.2.2.1), (iI y406.2.2.2.2.2.1), uy406_1, vy406_1, (iI y452.2.2.2.2.2.2.2.2.2.2.1), (iI y452.2.2.2.2.2.2.2.2.2.2.2.1), uy452_1, vy452_1, (.slice none 0 0)]) By452_b4 z35 rfl (Xa rfl (Xa rfl (Xa rfl (Xa rfl (Xa rfl (Xa rfl (Xa (FL.one Fy452_0) (Xa Ay452_0.rd.one (Xa rfl (Xa rfl (Xa (FL.one Fy406_1) (Xa Cy452_433.rd.one (Xa rfl (Xa rfl (Xa (FL.one Fy452_1) (Xa Ay452_1.rd.one (Xa rfl Xi))))))))))))))))) rfl (fun s694 p694 B694 => ?_)))
 replace B694 : BlF s694 b4 35 [(iI y452.2.2.1), (iI y452.2.2.2.1), (iI y452.2.2.2.2.1), (iI y452.2.2.2.2.2.1), (iI y452.2.2.2.2.2.2.1), (iI y452.2.2.2.2.2.2.2.1), uy452_0, vy452_0, (iI y406.2.2.2.2.1), (iI y406.2.2.2.2.2.1), uy406_1, vy406_1, (iI y452.2.2.2.2.2.2.2.2.2.2.1), (iI y452.2.2.2.2.2.2.2.2.2.2.2.1), uy452_1, vy452_1, (.slice none 0 0)] 40 := B694
 refine dn ?_
 obtain ⟨s698, hw698, p698, A698⟩ := ow_2 (Xs (fun x : Item => (x.Kind, x.N, x.F, x.T)) (Item.mk y406.2.2.2.2.1 y406.2.2.2.2.2.1 y406.2.2.2.2.2.2.1 y406.2.2.2.2.2.2.2) (Xn (Xe .i64 y406.2.2.2.2.1) (Xn (Xe .i64 y406.2.2.2.2.2.1) (Xn (Xp Fy406_1) (Cy452_433.st p694 rfl))))) (ow_r (Xs (fun x : Item => (x.Kind, x.N, x.F, x.T)) (Item.mk y452.2.2.2.2.2.2.2.2.2.2.1 y452.2.2.2.2.2.2.2.2.2.2.2.1 y452.2.2.2.2.2.2.2.2.2.2.2.2.1 y452.2.2.2.2.2.2.2.2.2.2.2.2.2) (Xn (Xe .i64 y452.2.2.2.2.2.2.2.2.2.2.1) (Xn (Xe .i64 y452.2.2.2.2.2.2.2.2.2.2.2.1) (Xn (Xp Fy452_1) (Ay452_1.st p694 rfl))))) (fz_nil 4 Kd.bool)) rfl rfl
 rw [hw698]
 obtain ⟨s701, hw701, p701, A701⟩ := ow_2 (Xs (fun x : Item => (x.Kind, x.N, x.F, x.T)) (Item.mk y452.2.2.2.2.2.2.1 y452.2.2.2.2.2.2.2.1 y452.2.2.2.2.2.2.2.2.1 y452.2.2.2.2.2.2.2.2.2.1) (Xn (Xe .i64 y452.2.2.2.2.2.2.1) (Xn (Xe .i64 y452.2.2.2.2.2.2.2.1) (Xn (Xp Fy452_0) (Ay452_0.st (Xk p694 p698) rfl))))) A698 rfl rfl
 rw [hw701]
 have A703 : OwF kd35 s701 [(iI y452.2.2.1), (iI y452.2.2.2.1), (iI y452.2.2.2.2.1), (iI y452.2.2.2.2.2.1), (iI y452.2.2.2.2.2.2.1), (iI y452.2.2.2.2.2.2.2.1), uy452_0, vy452_0, (iI y406.2.2.2.2.1), (iI y406.2.2.2.2.2.1), uy406_1, vy406_1, (iI y452.2.2.2.2.2.2.2.2.2.2.1), (iI y452.2.2.2.2.2.2.2.2.2.2.2.1), uy452_1, vy452_1, (.slice none 0 0)] (Op.mk y452.2.2.1 y452.2.2.2.1 y452.2.2.2.2.1 y452.2.2.2.2.2.1 (Item.mk y452.2.2.2.2.2.2.1 y452.2.2.2.2.2.2.2.1 y452.2.2.2.2.2.2.2.2.1 y452.2.2.2.2.2.2.2.2.2.1) (Item.mk y406.2.2.2.2.1 y406.2.2.2.2.2.1 y406.2.2.2.2.2.2.1 y406.2.2.2.2.2.2.2) (Item.mk y452.2.2.2.2.2.2.2.2.2.2.1 y452.2.2.2.2.2.2.2.2.2.2.2.1 y452.2.2.2.2.2.2.2.2.2.2.2.2.1 y452.2.2.2.2.2.2.2.2.2.2.2.2.2) ([] : (List Bool))) 62 := (Xs (fun x : Op => (x.Kind, x.Seat, x.Level, x.N, x.Key, x.To, x.Value, x.Keep)) (Op.mk y452.2.2.1 y452.2.2.2.1 y452.2.2.2.2.1 y452.2.2.2.2.2.1 (Item.mk y452.2.2.2.2.2.2.1 y452.2.2.2.2.2.2.2.1 y452.2.2.2.2.2.2.2.2.1 y452.2.2.2.2.2.2.2.2.2.1) (Item.mk y406.2.2.2.2.1 y406.2.2.2.2.2.1 y406.2.2.2.2.2.2.1 y406.2.2.2.2.2.2.2) (Item.mk y452.2.2.2.2.2.2.2.2.2.2.1 y452.2.2.2.2.2.2.2.2.2.2.2.1 y452.2.2.2.2.2.2.2.2.2.2.2.2.1 y452.2.2.2.2.2.2.2.2.2.2.2.2.2) ([] : (List Bool))) (Xn (Xe .i64 y452.2.2.1) (Xn (Xe .i64 y452.2.2.2.1) (Xn (Xe .i64 y452.2.2.2.2.1) (Xn (Xe .i64 y452.2.2.2.2.2.1) A701)))))
 have K706 := Ky452.st (Xw p694 p698 p701) rfl
 exact re rfl func30 rfl (r_b (B694.st (Xk p698 p701) rfl) u35 rfl z35 rfl Xg) rfl ⟨_, rfl, uy452_0, vy452_0, uy406_1, vy406_1, uy452_1, vy452_1, (.slice none 0 0), rfl, A703.fo K706 rfl z.l, (BlF.w (By452_p0.st (Xw p694 p698 p701) rfl)), z.ky K706⟩
def spec_l4keep.b0 (a0 : l1Cur) (x6 : (List Bool) × Int × Int × Int) : Option (((List Bool) × Int × Int × Int) ⊕ ((List Bool) × l1Cur)) :=
 (if (decide (x6.2.1 > (0 : Int))) = true then ((spec_l1Once.f (l1Cur.mk a0.b x6.2.2.1 x6.2.2.2) (2 : Int)).bind fun r13 => (if x6.1.length + ([r13.1]).length ≤ Lim then (some (Sum.inl ((x6.1 ++ [r13.1]), (IntKind.wrap .i64 (x6.2.1 - (1 : Int))), r13.2.i, r13.2.h))) else none)) else ((some (x6.1, (l1Cur.mk a0.b x6.2.2.1 x6.2.2.2))).bind fun o => some (Sum.inr o)))
def spec_l4keep.f (a0 : l1Cur) (a1 : Int) : Option ((List Bool) × l1Cur) :=
 ((spec_l1Below.f a0 (IntKind.wrap .i64 (a1 + (1 : Int)))).bind fun r3 => (iter (spec_l4keep.b0 a0) (([] : (List Bool)), r3.1, r3.2.i, r3.2.h)))
def spec_l4keep.Q (w : World) (F : Nat → Prop) (p0 : Nat) (w0_0 : Value) (r : (List Bool) × l1Cur) (v : Value) (w' : World) : Prop :=
 FO (Kd.sl 4 Kd.bool) w w' [v] r.1 ∧ BlW w' p0 80 [w0_0, (iI r.2.i), (iI r.2.h)] ∧ Ky [p0] w w'
theorem spec_l4keep.calls (a0 : l1Cur) (a1 : Int) (w : World) (F : Nat → Prop) (p0 : Nat) (w0_0 : Value) (h0_0 : Ya.rd w [w0_0] a0.b F) (hb0 : BlW w p0 80 [w0_0, (iI a0.i), (iI a0.h)]) (hF : ∀ b, F b → b ∉ [p0]) (r : (List Bool) × l1Cur) (m : spec_l4keep.f a0 a1 = some r) :
  Calls prog 32 #[(pB p0), (iI a1)] w (RT (spec_l4keep.Q w F p0 w0_0) r) := by
 obtain ⟨s0, rfl, kp0, z⟩ := start1 w F [p0] hF
 have A0_0 := z.rd h0_0
 have B0 := z.bl hb0 (by simp)
 refine Xd (args := [(pB p0), (iI a1)]) func32 ntmps32 rfl rfl m ?_
 unfold spec_l4keep.f
 refine sr (Xc rfl (dn (sr (Xc rfl (dn (sq (sr (Xc rfl (Xc rfl (Xc rfl (clB B0 rfl func31 rfl (spec_l1Below.calls a0 (IntKind.wrap .i64 (a1 + (1 : Int))) s0.w (mm [0] s0) p0 w0_0 A0_0 B0.w (B0.apart rfl)) (fun r3 s4 p4 B4 => ?_))))))))))))
 refine Xc rfl (dn (bl ?_))
 refine lpI (fun (x6 : (List Bool) × Int × Int × Int) e w => ∃ (s : St) (e0 : Env) (vx6_0 : Value), w = s.w ∧ e = upd (upd (upd e0 0 (pB p0)) 5 vx6_0) 6 (iI x6.2.1) ∧ Kp s0 s ∧ OwF (Kd.sl 4 Kd.bool) s [vx6_0] x6.1 42 ∧ BlF s p0 80 [w0_0, (iI x6.2.2.1), (iI x6.2.2.2)] 2) ⟨s4, _, (.slice none 0 0), rfl, (ue (ue (ue rfl rfl) rfl) rfl), (kp0.st p4 rfl), (Xu 4 Kd.bool _ 42), B4⟩ (fun g6 ih6 => ?_)
 rintro x6 _ _ ⟨s8, _, vx6_0, rfl, rfl, Kx6, Ax6_0, Bx6_p0⟩
 unfold spec_l4keep.b0
 refine sq (sr (Xc rfl (Xc rfl (dn (cd rfl (fun h11 => ?_) (fun h11 => ?_))))))
 ·
  refine sk (sq (bl (rg (mv' vx6_0 rfl (Xc rfl ?_)))))
  refine clB Bx6_p0 rfl func24 rfl (spec_l1Once.calls (l1Cur.mk a0.b x6.2.2.1 x6.2.2.2) (2 : Int) s8.w (mm [0] s8) p0 w0_0 (A0_0.kp Kx6) Bx6_p0.w (Bx6_p0.apart rfl)) (fun r13 s14 p14 B14 => ?_)
  refine ltF' (K := Kd.bool) (cells := [(.bool r13.1)]) [r13.1] 44 fl_bool u33 z4 o4 (fun w => (Xv _ _ _)) rfl rfl (fun v16 s16 p16 A16 => ?_)
  refine apF fl_bool sl33 (Ax6_0.st (Xk p14 p16) rfl) A16.rd rfl rfl rfl rfl rfl rfl rfl (fun v19 s19 p19 A19 => ?_)
  refine asg' v19 rfl (dn (ib (rg (Xc rfl (Xc rfl (Xc rfl (dn ?_)))))))
  exact lb ih6 ⟨s19, _, v19, rfl, (ue (ue (ue rfl rfl) rfl) rfl), (Kx6.st (Xw p14 p16 p19) rfl), A19, (B14.st (Xk p16 p19) rfl)⟩
 exact xt rfl (sgb (sr (mv' vx6_0 rfl (asg' vx6_0 rfl (dn (re rfl func32 rfl (r_t rfl Xg) rfl ⟨_, rfl, Ax6_0.fo Kx6 rfl z.l, Bx6_p0.w, z.ky Kx6⟩))))))
def spec_DrawOpText.f (a0 : (List Int)) : Option (Op) :=
 ((spec_l1New.f a0).bind fun r6 => (if 0 ≤ (8 : Int) ∧ (8 : Int) ≤ (Lim : Int) then ((spec_l15op.f r6 (List.replicate ((8 : Int)).toNat false) true).bind fun r13 => ((spec_l1Below.f (l1Cur.mk r6.b r13.2.i r13.2.h) (13 : Int)).bind fun r31 => ((spec_l1Below.f (l1Cur.mk r6.b r31.2.i r31.2.h) (12 : Int)).bind fun r39 => ((if ((IntKind.wrap .i64 ((1 : Int) + r31.1)) == (13 : Int)) = true then ((spec_l4keep.f (l1Cur.mk r6.b r39.2.i r39.2.h) (9 : Int)).bind fun r49 => (some r49.1)) else (some r13.1.Keep)).bind fun y46 => (some (Op.mk (IntKind.wrap .i64 ((1 : Int) + r31.1)) r13.1.Seat r13.1.Level r39.1 r13.1.Key r13.1.To r13.1.Value y46)))))) else none))
def spec_DrawOpText.Q (w : World) (F : Nat → Prop) (r : Op) (v : Value) (w' : World) : Prop :=
 ∃ (v0 : Value) (v1 : Value) (v2 : Value) (v3 : Value) (v4 : Value) (v5 : Value) (v6 : Value), v = (.agg #[(iI r.Kind), (iI r.Seat), (iI r.Level), (iI r.N), (iI r.Key.Kind), (iI r.Key.N), v0, v1, (iI r.To.Kind), (iI r.To.N), v2, v3, (iI r.Value.Kind), (iI r.Value.N), v4, v5, v6]) ∧ FO kd35 w w' [(iI r.Kind), (iI r.Seat), (iI r.Level), (iI r.N), (iI r.Key.Kind), (iI r.Key.N), v0, v1, (iI r.To.Kind), (iI r.To.N), v2, v3, (iI r.Value.Kind), (iI r.Value.N), v4, v5, v6] r ∧ Ky [] w w'
theorem spec_DrawOpText.calls (a0 : (List Int)) (w : World) (F : Nat → Prop) (w0_0 : Value) (h0_0 : Ya.rd w [w0_0] a0 F) (r : Op) (m : spec_DrawOpText.f a0 = some r) :
  Calls prog 11 #[w0_0] w (RT (spec_DrawOpText.Q w F) r) := by
 obtain ⟨s0, rfl, kp0, z⟩ := Xq w F
 refine Xd (args := [w0_0]) func11 ntmps11 rfl rfl m ?_
 unfold spec_DrawOpText.f
 refine sr (al (cs := [(iI 0), (iI 0), (iI 0), (iI 0), (iI 0), (iI 0), (.float .f64 0), (.slice none 0 0), (iI 0), (iI 0), (.float .f64 0), (.slice none 0 0), (iI 0), (iI 0), (.float .f64 0), (.slice none 0 0), (.slice none 0 0)]) 40 rfl rfl rfl rfl rfl o35 rfl (fun b2 s2 p2 B2 => ?_))
 refine dn (sr (mv' w0_0 rfl ?_))
 have K4 := kp0.st p2 rfl
 refine cl' rfl func22 rfl (spec_l1New.calls a0 s2.w (mm [0] s2) w0_0 ((z.rd h0_0).kp K4)) ?_
 rintro r6 _ w6 m6 ⟨v6_0, v6_1, rfl, f6_0, f6_1, ky6⟩
 obtain ⟨s7, rfl, p7, n7⟩ := nwx s2 w6 41 ky6
 refine Xc rfl (dn (sr (Xc rfl (mk (x0 := false) (K := Kd.bool) 42 sl33 o4 (fun _ => ⟨rfl, rfl⟩) rfl rfl rfl rfl rfl rfl rfl (fun v10 s10 p10 A10 => ?_)))))
 have A12 := (f6_1.c n7).st p10 rfl
 have A14 := BlF.st (f6_0.c n7) p10 rfl
 refine cl' rfl func30 rfl (spec_l15op.calls r6 (List.replicate ((8 : Int)).toNat false) true s10.w (mm [0, 42] s10) v6_0 v6_1 v10 (A12.sub (D := [0, 42]) rfl) (A10.rd.sub (D := [0, 42]) rfl) A14.w (A14.apart rfl)) ?_
 rintro r13 _ w13 m13 ⟨v13_0, v13_1, v13_2, v13_3, v13_4, v13_5, v13_6, rfl, f13_0, bw13, ky13⟩
 obtain ⟨s15, rfl, p15, n15, g15⟩ := nwb 43 A14 ky13
 obtain ⟨s16, hw16, p16, hu13_0_0, Au13_0_1, hu13_0_2, Au13_0_3, hu13_0_4, Au13_0_5, Au13_0_6⟩ := ap35 44 45 46 (f13_0.c n15) rfl
 rw [hw16]
 have B15 := Xy bw13 g15
 refine al (cs := [(iI 0), (iI 0), (iI 0), (iI 0), (iI 0), (iI 0), (.float .f64 0), (.slice none 0 0), (iI 0), (iI 0), (.float .f64 0), (.slice none 0 0), (iI 0), (iI 0), (.float .f64 0), (.slice none 0 0), (.slice none 0 0)]) 47 rfl rfl rfl rfl rfl o35 rfl (fun b22 s22 p22 B22 => ?_)
 have A24 := Au13_0_6.st p22 rfl
 have A25 := Au13_0_5.st p22 rfl
 have A26 := Au13_0_3.st p22 rfl
 have A27 := Au13_0_1.st p22 rfl
 refine Xx (vs := [(iI r13.1.Kind), (iI r13.1.Seat), (iI r13.1.Level), (iI r13.1.N), (iI r13.1.Key.Kind), (iI r13.1.Key.N), v13_0, v13_1, (iI r13.1.To.Kind), (iI r13.1.To.N), v13_2, v13_3, (iI r13.1.Value.Kind), (iI r13.1.Value.N), v13_4, v13_5, v13_6]) B22 z35 rfl (Xa rfl (Xa rfl (Xa rfl (Xa rfl (Xa rfl (Xa rfl (Xa (FL.one hu13_0_0) (Xa A27.rd.one (Xa rfl (Xa rfl (Xa (FL.one hu13_0_2) (Xa A26.rd.one (Xa rfl (Xa rfl (Xa (FL.one hu13_0_4) (Xa A25.rd.one (Xa A24.rd.one Xi))))))))))))))))) rfl (fun s28 p28 B28 => ?_)
 replace B28 : BlF s28 b22 35 [(iI r13.1.Kind), (iI r13.1.Seat), (iI r13.1.Level), (iI r13.1.N), (iI r13.1.Key.Kind), (iI r13.1.Key.N), v13_0, v13_1, (iI r13.1.To.Kind), (iI r13.1.To.N), v13_2, v13_3, (iI r13.1.Value.Kind), (iI r13.1.Value.N), v13_4, v13_5, v13_6] 47 := B28
 refine dn (sr (Xc rfl ?_))
 have A30 := A12.st (tr4 p15 p16 p22 p28) rfl
 have A32 := B15.st (Xw p16 p22 p28) rfl
 refine clB A32 rfl func31 rfl (spec_l1Below.calls (l1Cur.mk r6.b r13.2.i r13.2.h) (13 : Int) s28.w (mm [0] s28) v6_0 v6_1 A30 A32.w (A32.apart rfl)) (fun r31 s33 p33 B33 => ?_)
 refine Xc rfl (Xt fa35_0 rfl ?_)
 refine sv' (B28.st p33 rfl) z3 rfl rfl rfl (fun s36 p36 B36 => ?_)
 replace B36 : BlF s36 b22 35 [(iI (IntKind.wrap .i64 ((1 : Int) + r31.1))), (iI r13.1.Seat), (iI r13.1.Level), (iI r13.1.N), (iI r13.1.Key.Kind), (iI r13.1.Key.N), v13_0, v13_1, (iI r13.1.To.Kind), (iI r13.1.To.N), v13_2, v13_3, (iI r13.1.Value.Kind), (iI r13.1.Value.N), v13_4, v13_5, v13_6] 47 := B36
 refine dn (sr (Xc rfl ?_))
 have A38 := A30.st (Xk p33 p36) rfl
 have A40 := B33.st p36 rfl
 refine clB A40 rfl func31 rfl (spec_l1Below.calls (l1Cur.mk r6.b r31.2.i r31.2.h) (12 : Int) s36.w (mm [0] s36) v6_0 v6_1 A38 A40.w (A40.apart rfl)) (fun r39 s41 p41 B41 => ?_)
 refine Xt fa35_3 rfl (sv' (B36.st p41 rfl) z3 rfl rfl rfl (fun s44 p44 B44 => ?_))
 replace B44 : BlF s44 b22 35 [(iI (IntKind.wrap .i64 ((1 : Int) + r31.1))), (iI r13.1.Seat), (iI r13.1.Level), (iI r39.1), (iI r13.1.Key.Kind), (iI r13.1.Key.N), v13_0, v13_1, (iI r13.1.To.Kind), (iI r13.1.To.N), v13_2, v13_3, (iI r13.1.Value.Kind), (iI r13.1.Value.N), v13_4, v13_5, v13_6] 47 := B44
 refine dn (sq (sr (Xt fa35_0 rfl (ld' B44 u3 rfl (Xc rfl (dn (jc (fun (y46 : (List Bool)) e w => ∃ (s : St) (e0 : Env) (vy46_0 : Value), w = s.w ∧ e = upd (upd e0 2 (pB b2)) 4 (pB b22) ∧ Kp s0 s ∧ OwF (Kd.sl 4 Kd.bool) s [vy46_0] y46 50 ∧ BlF s b22 35 [(iI (IntKind.wrap .i64 ((1 : Int) + r31.1))), (iI r13.1.Seat), (iI r13.1.Level), (iI r39.1), (iI r13.1.Key.Kind), (iI r13.1.Key.N), v13_0, v13_1, (iI r13.1.To.Kind), (iI r13.1.To.N), v13_2, v13_3, (iI r13.1.Value.Kind), (iI r13.1.Value.N), v13_4, v13_5, vy46_0] 47 ∧ BlF s b2 35 [(iI 0), (iI 0), (iI 0), (iI 0), (iI 0), (iI 0), (.float .f64 0), (.slice none 0 0), (iI 0), (iI 0), (.float .f64 0), (.slice none 0 0), (iI 0), (iI 0), (.float .f64 0), (.slice none 0 0), (.slice none 0 0)] 40 ∧ OwF Ya s [v13_1] r13.1.Key.T 43 ∧ OwF Ya s [v13_3] r13.1.To.T 44 ∧ OwF Ya s [v13_5] r13.1.Value.T 45) (fun Gj46 Kj46 => ?_) ?_)))))))
 ·
  refine cd rfl (fun h47 => ?_) (fun h47 => ?_)
  ·
   refine rg (Xc rfl ?_)
   have A50 := B41.st p44 rfl
   refine cl' rfl func32 rfl (spec_l4keep.calls (l1Cur.mk r6.b r39.2.i r39.2.h) (9 : Int) s44.w (mm [0] s44) v6_0 v6_1 (A38.st (Xk p41 p44) rfl) A50.w (A50.apart rfl)) ?_
   rintro r49 v49_0 w49 m49 ⟨f49_0, bw49, ky49⟩
   obtain ⟨s51, rfl, p51, n51, g51⟩ := nwb 51 A50 ky49
   have A49_0 := f49_0.c n51
   refine Xt fa35_7 rfl (sv' (B44.st p51 rfl) z33 rfl A49_0.rd.one rfl (fun s55 p55 B55 => ?_))
   replace B55 : BlF s55 b22 35 [(iI (IntKind.wrap .i64 ((1 : Int) + r31.1))), (iI r13.1.Seat), (iI r13.1.Level), (iI r39.1), (iI r13.1.Key.Kind), (iI r13.1.Key.N), v13_0, v13_1, (iI r13.1.To.Kind), (iI r13.1.To.N), v13_2, v13_3, (iI r13.1.Value.Kind), (iI r13.1.Value.N), v13_4, v13_5, v49_0] 47 := B55
   refine dn ?_
   obtain ⟨s58, hw58, p58, A58⟩ := (A49_0.st p55 rfl).rc 50 rfl
   rw [hw58]
   exact Kj46 _ _ _ ⟨s58, _, v49_0, rfl, (ue (ue rfl rfl) rfl), (K4.st (Xk (tr12 p7 p10 p15 p16 p22 p28 p33 p36 p41 p44 p51 p55) p58) rfl), A58, (B55.st p58 rfl), (B2.st (Xk (tr12 p7 p10 p15 p16 p22 p28 p33 p36 p41 p44 p51 p55) p58) rfl), (A27.st (tr8 p28 p33 p36 p41 p44 p51 p55 p58) rfl), (A26.st (tr8 p28 p33 p36 p41 p44 p51 p55 p58) rfl), (A25.st (tr8 p28 p33 p36 p41 p44 p51 p55 p58) rfl)⟩
  refine sk ?_
  obtain ⟨s66, hw66, p66, A66⟩ := (A24.st (tr5 p28 p33 p36 p41 p44) rfl).rc 50 rfl
  rw [hw66]
  exact Kj46 _ _ _ ⟨s66, _, v13_6, rfl, (ue (ue rfl rfl) rfl), (K4.st (tr11 p7 p10 p15 p16 p22 p28 p33 p36 p41 p44 p66) rfl), A66, (B44.st p66 rfl), (B2.st (tr11 p7 p10 p15 p16 p22 p28 p33 p36 p41 p44 p66) rfl), (A27.st (tr6 p28 p33 p36 p41 p44 p66) rfl), (A26.st (tr6 p28 p33 p36 p41 p44 p66) rfl), (A25.st (tr6 p28 p33 p36 p41 p44 p66) rfl)⟩
 rintro y46 _ _ ⟨s73, _, vy46_0, rfl, rfl, Ky46, Ay46_0, By46_b22, By46_b2, Cy46_17, Cy46_18, Cy46_19⟩
 refine sr (lda' (es := [(iI (IntKind.wrap .i64 ((1 : Int) + r31.1))), (iI r13.1.Seat), (iI r13.1.Level), (iI r39.1), (iI r13.1.Key.Kind), (iI r13.1.Key.N), v13_0, v13_1, (iI r13.1.To.Kind), (iI r13.1.To.N), v13_2, v13_3, (iI r13.1.Value.Kind), (iI r13.1.Value.N), v13_4, v13_5, vy46_0]) By46_b22 u35 z35 rfl (Xx (vs := [(iI (IntKind.wrap .i64 ((1 : Int) + r31.1))), (iI r13.1.Seat), (iI r13.1.Level), (iI r39.1), (iI r13.1.Key.Kind), (iI r13.1.Key.N), v13_0, v13_1, (iI r13.1.To.Kind), (iI r13.1.To.N), v13_2, v13_3, (iI r13.1.Value.Kind), (iI r13.1.Value.N), v13_4, v13_5, vy46_0]) By46_b2 z35 rfl (Xa rfl (Xa rfl (Xa rfl (Xa rfl (Xa rfl (Xa rfl (Xa (FL.one hu13_0_0) (Xa Cy46_17.rd.one (Xa rfl (Xa rfl (Xa (FL.one hu13_0_2) (Xa Cy46_18.rd.one (Xa rfl (Xa rfl (Xa (FL.one hu13_0_4) (Xa Cy46_19.rd.one (Xa Ay46_0.rd.one Xi))))))))))))))))) rfl (fun s77 p77 B77 => ?_)))
 replace B77 : BlF s77 b2 35 [(iI (IntKind.wrap .i64 ((1 : Int) + r31.1))), (iI r13.1.Seat), (iI r13.1.Level), (iI r39.1), (iI r13.1.Key.Kind), (iI r13.1.Key.N), v13_0, v13_1, (iI r13.1.To.Kind), (iI r13.1.To.N), v13_2, v13_3, (iI r13.1.Value.Kind), (iI r13.1.Value.N), v13_4, v13_5, vy46_0] 40 := B77
 refine dn ?_
 obtain ⟨s81, hw81, p81, A81⟩ := ow_2 (Xs (fun x : Item => (x.Kind, x.N, x.F, x.T)) r13.1.Value (Xn (Xe .i64 r13.1.Value.Kind) (Xn (Xe .i64 r13.1.Value.N) (Xn (Xp hu13_0_4) (Cy46_19.st p77 rfl))))) (Ay46_0.st p77 rfl) rfl rfl
 rw [hw81]
 obtain ⟨s84, hw84, p84, A84⟩ := ow_2 (Xs (fun x : Item => (x.Kind, x.N, x.F, x.T)) r13.1.To (Xn (Xe .i64 r13.1.To.Kind) (Xn (Xe .i64 r13.1.To.N) (Xn (Xp hu13_0_2) (Cy46_18.st (Xk p77 p81) rfl))))) A81 rfl rfl
 rw [hw84]
 obtain ⟨s87, hw87, p87, A87⟩ := ow_2 (Xs (fun x : Item => (x.Kind, x.N, x.F, x.T)) r13.1.Key (Xn (Xe .i64 r13.1.Key.Kind) (Xn (Xe .i64 r13.1.Key.N) (Xn (Xp hu13_0_0) (Cy46_17.st (Xw p77 p81 p84) rfl))))) A84 rfl rfl
 rw [hw87]
 have A89 : OwF kd35 s87 [(iI (IntKind.wrap .i64 ((1 : Int) + r31.1))), (iI r13.1.Seat), (iI r13.1.Level), (iI r39.1), (iI r13.1.Key.Kind), (iI r13.1.Key.N), v13_0, v13_1, (iI r13.1.To.Kind), (iI r13.1.To.N), v13_2, v13_3, (iI r13.1.Value.Kind), (iI r13.1.Value.N), v13_4, v13_5, vy46_0] (Op.mk (IntKind.wrap .i64 ((1 : Int) + r31.1)) r13.1.Seat r13.1.Level r39.1 r13.1.Key r13.1.To r13.1.Value y46) 43 := (Xs (fun x : Op => (x.Kind, x.Seat, x.Level, x.N, x.Key, x.To, x.Value, x.Keep)) (Op.mk (IntKind.wrap .i64 ((1 : Int) + r31.1)) r13.1.Seat r13.1.Level r39.1 r13.1.Key r13.1.To r13.1.Value y46) (Xn (Xe .i64 (IntKind.wrap .i64 ((1 : Int) + r31.1))) (Xn (Xe .i64 r13.1.Seat) (Xn (Xe .i64 r13.1.Level) (Xn (Xe .i64 r39.1) A87)))))
 have K92 := Ky46.st (tr4 p77 p81 p84 p87) rfl
 exact re rfl func11 rfl (r_b (B77.st (Xw p81 p84 p87) rfl) u35 rfl z35 rfl Xg) rfl ⟨_, rfl, v13_0, v13_1, v13_2, v13_3, v13_4, v13_5, vy46_0, rfl, A89.fo K92 rfl z.l, z.ky K92⟩
def slices_Clone_byte_byte.f (a0 : (List Int)) : Option ((List Int)) :=
 (if ([] : (List Int)).length + a0.length ≤ Lim then (some (([] : (List Int)) ++ a0)) else none)
def slices_Clone_byte_byte.Q (w : World) (F : Nat → Prop) (r : (List Int)) (v : Value) (w' : World) : Prop :=
 FO Ya w w' [v] r ∧ Ky [] w w'
theorem slices_Clone_byte_byte.calls (a0 : (List Int)) (w : World) (F : Nat → Prop) (w0_0 : Value) (h0_0 : Ya.rd w [w0_0] a0 F) (r : (List Int)) (m : slices_Clone_byte_byte.f a0 = some r) :
  Calls prog 125 #[w0_0] w (RT (slices_Clone_byte_byte.Q w F) r) := by
 obtain ⟨s0, rfl, kp0, z⟩ := Xq w F
 have A0_0 := z.rd h0_0
 refine Xd (args := [w0_0]) func125 ntmps125 rfl rfl m ?_
 unfold slices_Clone_byte_byte.f
 refine sr (Xc rfl (dn (sq (sr (mv' w0_0 rfl (nq A0_0 u22 rfl rfl rfl rfl rfl rfl rfl (fun nb2 hn2 => ?_)))))))
 refine dn (cdb rfl (fun h3 => ?_) (fun h3 => ?_))
 ·
  obtain rfl := hn2 h3
  exact mg fun _ => (sr (Xc rfl (dn (re rfl func125 rfl (r_t rfl Xg) rfl ⟨_, rfl, (Xu 5 (Kd.int .u8) s0 40).fo kp0 rfl z.l, z.ky kp0⟩))))
 refine sk (sr (lt0 (K := (Kd.int .u8)) 40 u22 z5 rfl rfl rfl rfl rfl (fun v4 s4 p4 A4 => ?_)))
 refine mv' w0_0 rfl ?_
 have K6 := kp0.st p4 rfl
 refine apF fl_int sl22 A4 (A0_0.kp K6) rfl rfl rfl rfl rfl rfl rfl (fun v8 s8 p8 A8 => ?_)
 refine asg' v8 rfl (dn ?_)
 have K10 := K6.st p8 rfl
 exact re rfl func125 rfl (r_t rfl Xg) rfl ⟨_, rfl, A8.fo K10 rfl z.l, z.ky K10⟩
def impl_Item_own.f (a0 : Item) : Option (Item) :=
 ((slices_Clone_byte_byte.f a0.T).bind fun r9 => (some (Item.mk a0.Kind a0.N a0.F r9)))
def impl_Item_own.Q (w : World) (F : Nat → Prop) (r : Item) (v : Value) (w' : World) : Prop :=
 ∃ (v0 : Value) (v1 : Value), v = (.agg #[(iI r.Kind), (iI r.N), v0, v1]) ∧ FO kd26 w w' [(iI r.Kind), (iI r.N), v0, v1] r ∧ Ky [] w w'
theorem impl_Item_own.calls (a0 : Item) (w : World) (F : Nat → Prop) (w0_0 : Value) (w0_1 : Value) (h0_0 : Kd.flt.rd w [w0_0] a0.F F) (h0_1 : Ya.rd w [w0_1] a0.T F) (r : Item) (m : impl_Item_own.f a0 = some r) :
  Calls prog 110 #[(.agg #[(iI a0.Kind), (iI a0.N), w0_0, w0_1])] w (RT (impl_Item_own.Q w F) r) := by
 obtain ⟨s0, rfl, kp0, z⟩ := Xq w F
 have A0_0 := fl_of h0_0
 refine Xd (args := [(.agg #[(iI a0.Kind), (iI a0.N), w0_0, w0_1])]) func110 ntmps110 rfl rfl m ?_
 unfold impl_Item_own.f
 refine sr (bx (cs := [(iI a0.Kind), (iI a0.N), w0_0, w0_1]) 40 rfl rfl rfl rfl rfl rfl (fun b2 s2 p2 B2 => ?_))
 refine al (cs := [(iI 0), (iI 0), (.float .f64 0), (.slice none 0 0)]) 41 rfl rfl rfl rfl rfl o26 rfl (fun b4 s4 p4 B4 => ?_)
 refine dn (sr (Xt fa26_3 rfl ?_))
 have A6 := B2.st p4 rfl
 refine ld' A6 u22 rfl ?_
 have K7 := kp0.st (Xk p2 p4) rfl
 refine clO 42 rfl func125 rfl (slices_Clone_byte_byte.calls a0.T s4.w (mm [0] s4) w0_1 ((z.rd h0_1).kp K7)) (fun r9 v9_0 s10 p10 A9_0 => ?_)
 refine Xt fa26_3 rfl (sv' (A6.st p10 rfl) z22 rfl A9_0.rd.one rfl (fun s13 p13 B13 => ?_))
 refine dn (sr (lda' (es := [(iI a0.Kind), (iI a0.N), w0_0, v9_0]) B13 u26 z26 rfl ?_))
 have A16 := A9_0.st p13 rfl
 refine Xx (vs := [(iI a0.Kind), (iI a0.N), w0_0, v9_0]) (B4.st (Xk p10 p13) rfl) z26 rfl (Xa rfl (Xa rfl (Xa (FL.one A0_0) (Xa A16.rd.one Xi)))) rfl (fun s17 p17 B17 => ?_)
 refine dn ?_
 have A19 : OwF kd26 s17 [(iI a0.Kind), (iI a0.N), w0_0, v9_0] (Item.mk a0.Kind a0.N a0.F r9) 42 := (Xs (fun x : Item => (x.Kind, x.N, x.F, x.T)) (Item.mk a0.Kind a0.N a0.F r9) (Xn (Xe .i64 a0.Kind) (Xn (Xe .i64 a0.N) (Xn (Xp A0_0) (A16.st p17 rfl)))))
 have K22 := K7.st (Xw p10 p13 p17) rfl
 exact re rfl func110 rfl (r_b B17 u26 rfl z26 rfl Xg) rfl ⟨_, rfl, w0_0, v9_0, rfl, A19.fo K22 rfl z.l, z.ky K22⟩
def impl_ItemClean.f (a0 : Item) : Option (Item) :=
 ((impl_ItemOk.f a0).bind fun r9 => (if (!r9) = true then (some (Item.mk (0 : Int) (0 : Int) (0 : Nat) ([] : (List Int)))) else ((if (fcmp .f64 a0.F (0 : Nat) == some .eq) = true then (some (0 : Nat)) else (some a0.F)).bind fun y19 => ((impl_Item_own.f (Item.mk a0.Kind a0.N y19 a0.T)).bind fun r31 => (some r31)))))
def impl_ItemClean.Q (w : World) (F : Nat → Prop) (r : Item) (v : Value) (w' : World) : Prop :=
 ∃ (v0 : Value) (v1 : Value), v = (.agg #[(iI r.Kind), (iI r.N), v0, v1]) ∧ FO kd26 w w' [(iI r.Kind), (iI r.N), v0, v1] r ∧ Ky [] w w'
theorem impl_ItemClean.calls (a0 : Item) (w : World) (F : Nat → Prop) (w0_0 : Value) (w0_1 : Value) (h0_0 : Kd.flt.rd w [w0_0] a0.F F) (h0_1 : Ya.rd w [w0_1] a0.T F) (r : Item) (m : impl_ItemClean.f a0 = some r) :
  Calls prog 94 #[(.agg #[(iI a0.Kind), (iI a0.N), w0_0, w0_1])] w (RT (impl_ItemClean.Q w F) r) := by
 obtain ⟨s0, rfl, kp0, z⟩ := Xq w F
 have A0_0 := fl_of h0_0
 have A0_1 := z.rd h0_1
 refine Xd (args := [(.agg #[(iI a0.Kind), (iI a0.N), w0_0, w0_1])]) func94 ntmps94 rfl rfl m ?_
 unfold impl_ItemClean.f
 refine sr (bx (cs := [(iI a0.Kind), (iI a0.N), w0_0, w0_1]) 40 rfl rfl rfl rfl rfl rfl (fun b2 s2 p2 B2 => ?_))
 refine al (cs := [(iI 0), (iI 0), (.float .f64 0), (.slice none 0 0)]) 41 rfl rfl rfl rfl rfl o26 rfl (fun b4 s4 p4 B4 => ?_)
 refine dn (sq (sr ?_))
 have A6 := B2.st p4 rfl
 refine lda' (es := [(iI a0.Kind), (iI a0.N), w0_0, w0_1]) A6 u26 z26 rfl ?_
 have K7 := kp0.st (Xk p2 p4) rfl
 refine clV 42 rfl func26 rfl (impl_ItemOk.calls a0 s4.w (mm [0] s4) w0_0 w0_1 ((Xh (s := s4) A0_0).sub (D := [0]) rfl) (A0_1.kp K7)) (fun r9 s10 p10 n10 => ?_)
 refine Xc rfl (dn (cd rfl (fun h11 => ?_) (fun h11 => ?_)))
 ·
  refine sr (bd (cells := [(iI 0), (iI 0), (.float .f64 0), (.slice none 0 0)]) pl26 o26 rfl rfl rfl rfl rfl rfl ?_)
  refine Xx (vs := [(iI 0), (iI 0), (.float .f64 0), (.slice none 0 0)]) (B4.st p10 rfl) z26 rfl (Xa rfl (Xa rfl (Xa (FL.one (Xl rfl)) (Xa rfl Xi)))) rfl (fun s13 p13 B13 => ?_)
  refine dn ?_
  have A15 : OwF kd26 s13 [(iI 0), (iI 0), (.float .f64 0), (.slice none 0 0)] (Item.mk (0 : Int) (0 : Int) (0 : Nat) ([] : (List Int))) 43 := ow_z _ _ (fz_iso (fun x : Item => (x.Kind, x.N, x.F, x.T)) (Item.mk (0 : Int) (0 : Int) (0 : Nat) ([] : (List Int))) (Xf (Xe .i64 (0 : Int)) (Xf (Xe .i64 (0 : Int)) (Xf (Xp (Xl rfl)) (fz_nil 5 (Kd.int .u8))))))
  have K17 := K7.st (Xk p10 p13) rfl
  exact re rfl func94 rfl (r_b B13 u26 rfl z26 rfl Xg) rfl ⟨_, rfl, (.float .f64 0), (.slice none 0 0), rfl, A15.fo K17 rfl z.l, z.ky K17⟩
 refine sk (sq (sr (Xt fa26_2 rfl ?_)))
 have A18 := A6.st p10 rfl
 refine ld' A18 u24 rfl (fq_ A0_0 (Xl rfl) rfl rfl rfl rfl rfl rfl rfl rfl (dn (jc (fun (y19 : Nat) e w => ∃ (s : St) (e0 : Env) (uy19_0 : Value), w = s.w ∧ e = upd (upd e0 1 (pB b2)) 2 (pB b4) ∧ Kp s0 s ∧ FL uy19_0 y19 ∧ BlF s b4 26 [(iI 0), (iI 0), (.float .f64 0), (.slice none 0 0)] 41 ∧ BlF s b2 26 [(iI a0.Kind), (iI a0.N), uy19_0, w0_1] 40) (fun Gj19 Kj19 => ?_) ?_)))
 ·
  refine cd rfl (fun h20 => ?_) (fun h20 => ?_)
  ·
   refine rg (Xt fa26_2 rfl (sv' A18 z24 rfl (FL.one (Xl rfl)) rfl (fun s21 p21 B21 => ?_)))
   exact dn (Kj19 _ _ _ ⟨s21, _, (.float .f64 0), rfl, (ue (ue rfl rfl) rfl), (K7.st (Xk p10 p21) rfl), (Xl rfl), (B4.st (Xk p10 p21) rfl), B21⟩)
  exact sk (Kj19 _ _ _ ⟨s10, _, w0_0, rfl, (ue (ue rfl rfl) rfl), (K7.st p10 rfl), A0_0, (B4.st p10 rfl), A18⟩)
 rintro y19 _ _ ⟨s27, _, uy19_0, rfl, rfl, Ky19, Fy19_0, By19_b4, By19_b2⟩
 refine sr (lda' (es := [(iI a0.Kind), (iI a0.N), uy19_0, w0_1]) By19_b2 u26 z26 rfl ?_)
 refine cl' rfl func110 rfl (impl_Item_own.calls (Item.mk a0.Kind a0.N y19 a0.T) s27.w (mm [0] s27) uy19_0 w0_1 ((Xh (s := s27) Fy19_0).sub (D := [0]) rfl) (A0_1.kp Ky19)) ?_
 rintro r31 _ w31 m31 ⟨v31_0, v31_1, rfl, f31_0, ky31⟩
 obtain ⟨s32, rfl, p32, n32⟩ := nwx s27 w31 44 ky31
 obtain ⟨hu31_0_0, Au31_0_1⟩ := ap26 (f31_0.c n32)
 refine Xx (vs := [(iI r31.Kind), (iI r31.N), v31_0, v31_1]) (By19_b4.st p32 rfl) z26 rfl (Xa rfl (Xa rfl (Xa (FL.one hu31_0_0) (Xa Au31_0_1.rd.one Xi)))) rfl (fun s35 p35 B35 => ?_)
 refine dn ?_
 have A37 : OwF kd26 s35 [(iI r31.Kind), (iI r31.N), v31_0, v31_1] r31 44 := (Xs (fun x : Item => (x.Kind, x.N, x.F, x.T)) r31 (Xn (Xe .i64 r31.Kind) (Xn (Xe .i64 r31.N) (Xn (Xp hu31_0_0) (Au31_0_1.st p35 rfl)))))
 have K40 := Ky19.st (Xk p32 p35) rfl
 exact re rfl func94 rfl (r_b B35 u26 rfl z26 rfl Xg) rfl ⟨_, rfl, v31_0, v31_1, rfl, A37.fo K40 rfl z.l, z.ky K40⟩
def impl_KeyOk.f (a0 : Item) : Option (Bool) :=
 ((impl_ItemOk.f a0).bind fun r6 => (some ((r6 && (a0.Kind != (0 : Int))) && ((fcmp .f64 a0.F (0 : Nat) != some .eq) || ((a0.F : Int) == 0)))))
def impl_KeyOk.Q (w : World) (F : Nat → Prop) (r : Bool) (v : Value) (w' : World) : Prop :=
 v = (.bool r) ∧ Ky [] w w'
theorem impl_KeyOk.calls (a0 : Item) (w : World) (F : Nat → Prop) (w0_0 : Value) (w0_1 : Value) (h0_0 : Kd.flt.rd w [w0_0] a0.F F) (h0_1 : Ya.rd w [w0_1] a0.T F) (r : Bool) (m : impl_KeyOk.f a0 = some r) :
  Calls prog 93 #[(.agg #[(iI a0.Kind), (iI a0.N), w0_0, w0_1])] w (RT (impl_KeyOk.Q w F) r) := by
 obtain ⟨s0, rfl, kp0, z⟩ := Xq w F
 have A0_0 := fl_of h0_0
 refine Xd (args := [(.agg #[(iI a0.Kind), (iI a0.N), w0_0, w0_1])]) func93 ntmps93 rfl rfl m ?_
 unfold impl_KeyOk.f
 refine sr (bx (cs := [(iI a0.Kind), (iI a0.N), w0_0, w0_1]) 40 rfl rfl rfl rfl rfl rfl (fun b2 s2 p2 B2 => ?_))
 refine Xc rfl (dn (sr (lda' (es := [(iI a0.Kind), (iI a0.N), w0_0, w0_1]) B2 u26 z26 rfl ?_)))
 have K4 := kp0.st p2 rfl
 refine clV 41 rfl func26 rfl (impl_ItemOk.calls a0 s2.w (mm [0] s2) w0_0 w0_1 ((Xh (s := s2) A0_0).sub (D := [0]) rfl) ((z.rd h0_1).kp K4)) (fun r6 s7 p7 n7 => ?_)
 refine Xc rfl (jy [5, 6, 7, 8, 9] [7, 8, 9, 10, 11, 12, 13, 14, 15, 16, 17, 18] 9 (.bool (r6 && (a0.Kind != (0 : Int)))) rfl (fun Kg8 => ?_) (fun j8 => ?_))
 ·
  rcases bft r6 with hb8 | hb8
  ·
   refine sbT hb8 (Xt fa26_0 rfl ?_)
   exact ld' (B2.st p7 rfl) u3 rfl (Xc rfl (Xc rfl (Kg8 _ (Ag.put ((Ag.put ((Ag.put ((Ag.put (Ag.base rfl) rfl)) rfl)) rfl)) rfl) (by rw [hb8]; rfl))))
  exact sbT hb8 (Xj rfl (Xj rfl (Xj rfl (Xc rfl (Kg8 _ (Ag.put ((Ag.put ((Ag.put ((Ag.put (Ag.base rfl) rfl)) rfl)) rfl)) rfl) (by rw [hb8]; rfl))))))
 refine Xc rfl (jy [10, 11, 12, 13, 14, 15, 16, 17, 18, 19, 20] [18] 20 (.bool ((r6 && (a0.Kind != (0 : Int))) && ((fcmp .f64 a0.F (0 : Nat) != some .eq) || ((a0.F : Int) == 0)))) rfl (fun Kg10 => ?_) (fun j10 => ?_))
 ·
  rcases bft (r6 && (a0.Kind != (0 : Int))) with hb10 | hb10
  ·
   refine sbT hb10 (Xt fa26_2 rfl ?_)
   have A11 := B2.st p7 rfl
   refine ld' A11 u24 rfl (fq_ A0_0 (Xl rfl) rfl rfl rfl rfl rfl rfl rfl rfl (Xc rfl (jy [14, 15, 16, 17, 18, 19] [17, 18] 19 (.bool ((fcmp .f64 a0.F (0 : Nat) != some .eq) || ((a0.F : Int) == 0))) rfl (fun Kg12 => ?_) (fun j12 => ?_))))
   ·
    rcases bft (fcmp .f64 a0.F (0 : Nat) != some .eq) with hb12 | hb12
    ·
     exact sbT hb12 (Xj rfl (Xj rfl (Xj rfl (Xj rfl (Xc rfl (Kg12 _ (Ag.put ((Ag.put ((Ag.put ((Ag.put ((Ag.put (Ag.base rfl) rfl)) rfl)) rfl)) rfl)) rfl) (by rw [hb12]; rfl)))))))
    refine sbT hb12 (Xt fa26_2 rfl (ld' A11 u24 rfl (fbu A0_0 rfl rfl rfl rfl rfl func61 rfl rfl xn61 xf61 rfl (fun b13 A13 => ?_))))
    exact fz0 A13 rfl rfl rfl rfl rfl rfl rfl (Xc rfl (Kg12 _ (Ag.put ((Ag.put ((Ag.put ((Ag.put ((Ag.put (Ag.base rfl) rfl)) rfl)) rfl)) rfl)) rfl) (by rw [hb12]; rfl)))
   exact Xc rfl (Kg10 _ (Ag.put ((Ag.put ((Ag.ov ((Ag.put ((Ag.put ((Ag.put ((Ag.put (Ag.base rfl) rfl)) rfl)) rfl)) rfl)) rfl)) rfl)) rfl) (by rw [hb10]; rfl))
  exact sbT hb10 (Xj rfl (Xj rfl (Xj rfl (Xj rfl (Xj rfl (Xj rfl (Xj rfl (Xj rfl (Xj rfl (Xc rfl (Kg10 _ (Ag.put ((Ag.put ((Ag.put ((Ag.put ((Ag.put ((Ag.put ((Ag.put ((Ag.put ((Ag.put ((Ag.put (Ag.base rfl) rfl)) rfl)) rfl)) rfl)) rfl)) rfl)) rfl)) rfl)) rfl)) rfl) (by rw [hb10]; rfl))))))))))))
 refine Xc rfl (dn ?_)
 exact re rfl func93 rfl (r_t rfl Xg) rfl ⟨_, rfl, rfl, z.ky (K4.st p7 rfl)⟩
def impl_isClean.f (a0 : Item) : Option (Bool) :=
 ((impl_ItemClean.f a0).bind fun r6 => ((impl_KeyOk.f r6).bind fun r9 => (some r9)))
def impl_isClean.Q (w : World) (F : Nat → Prop) (r : Bool) (v : Value) (w' : World) : Prop :=
 v = (.bool r) ∧ Ky [] w w'
theorem impl_isClean.calls (a0 : Item) (w : World) (F : Nat → Prop) (w0_0 : Value) (w0_1 : Value) (h0_0 : Kd.flt.rd w [w0_0] a0.F F) (h0_1 : Ya.rd w [w0_1] a0.T F) (r : Bool) (m : impl_isClean.f a0 = some r) :
  Calls prog 70 #[(.agg #[(iI a0.Kind), (iI a0.N), w0_0, w0_1])] w (RT (impl_isClean.Q w F) r) := by
 obtain ⟨s0, rfl, kp0, z⟩ := Xq w F
 refine Xd (args := [(.agg #[(iI a0.Kind), (iI a0.N), w0_0, w0_1])]) func70 ntmps70 rfl rfl m ?_
 unfold impl_isClean.f
 refine sr (bx (cs := [(iI a0.Kind), (iI a0.N), w0_0, w0_1]) 40 rfl rfl rfl rfl rfl rfl (fun b2 s2 p2 B2 => ?_))
 refine Xc rfl (dn (sr (lda' (es := [(iI a0.Kind), (iI a0.N), w0_0, w0_1]) B2 u26 z26 rfl ?_)))
 have K4 := kp0.st p2 rfl
 refine cl' rfl func94 rfl (impl_ItemClean.calls a0 s2.w (mm [0] s2) w0_0 w0_1 ((Xh (s := s2) (fl_of h0_0)).sub (D := [0]) rfl) ((z.rd h0_1).kp K4)) ?_
 rintro r6 _ w6 m6 ⟨v6_0, v6_1, rfl, f6_0, ky6⟩
 obtain ⟨s7, rfl, p7, n7⟩ := nwx s2 w6 41 ky6
 obtain ⟨hu6_0_0, Au6_0_1⟩ := ap26 (f6_0.c n7)
 refine clV 42 rfl func93 rfl (impl_KeyOk.calls r6 s7.w (mm [41] s7) v6_0 v6_1 ((Xh (s := s7) hu6_0_0).sub (D := [41]) rfl) Au6_0_1.rd) (fun r9 s10 p10 n10 => ?_)
 refine Xc rfl (dn ?_)
 exact re rfl func70 rfl (r_t rfl Xg) rfl ⟨_, rfl, rfl, z.ky (K4.st (Xk p7 p10) rfl)⟩
def impl_isValue.f (a0 : Item) : Option (Bool) :=
 ((impl_ItemOk.f a0).bind fun r6 => (some (r6 && (a0.Kind != (0 : Int)))))
def impl_isValue.Q (w : World) (F : Nat → Prop) (r : Bool) (v : Value) (w' : World) : Prop :=
 v = (.bool r) ∧ Ky [] w w'
theorem impl_isValue.calls (a0 : Item) (w : World) (F : Nat → Prop) (w0_0 : Value) (w0_1 : Value) (h0_0 : Kd.flt.rd w [w0_0] a0.F F) (h0_1 : Ya.rd w [w0_1] a0.T F) (r : Bool) (m : impl_isValue.f a0 = some r) :
  Calls prog 71 #[(.agg #[(iI a0.Kind), (iI a0.N), w0_0, w0_1])] w (RT (impl_isValue.Q w F) r) := by
 obtain ⟨s0, rfl, kp0, z⟩ := Xq w F
 refine Xd (args := [(.agg #[(iI a0.Kind), (iI a0.N), w0_0, w0_1])]) func71 ntmps71 rfl rfl m ?_
 unfold impl_isValue.f
 refine sr (bx (cs := [(iI a0.Kind), (iI a0.N), w0_0, w0_1]) 40 rfl rfl rfl rfl rfl rfl (fun b2 s2 p2 B2 => ?_))
 refine Xc rfl (dn (sr (lda' (es := [(iI a0.Kind), (iI a0.N), w0_0, w0_1]) B2 u26 z26 rfl ?_)))
 have K4 := kp0.st p2 rfl
 refine clV 41 rfl func26 rfl (impl_ItemOk.calls a0 s2.w (mm [0] s2) w0_0 w0_1 ((Xh (s := s2) (fl_of h0_0)).sub (D := [0]) rfl) ((z.rd h0_1).kp K4)) (fun r6 s7 p7 n7 => ?_)
 refine Xc rfl (jy [5, 6, 7, 8, 9] [7] 9 (.bool (r6 && (a0.Kind != (0 : Int)))) rfl (fun Kg8 => ?_) (fun j8 => ?_))
 ·
  rcases bft r6 with hb8 | hb8
  ·
   refine sbT hb8 (Xt fa26_0 rfl ?_)
   exact ld' (B2.st p7 rfl) u3 rfl (Xc rfl (Xc rfl (Kg8 _ (Ag.put ((Ag.put ((Ag.put ((Ag.put (Ag.base rfl) rfl)) rfl)) rfl)) rfl) (by rw [hb8]; rfl))))
  exact sbT hb8 (Xj rfl (Xj rfl (Xj rfl (Xc rfl (Kg8 _ (Ag.put ((Ag.put ((Ag.put ((Ag.put (Ag.base rfl) rfl)) rfl)) rfl)) rfl) (by rw [hb8]; rfl))))))
 refine Xc rfl (dn ?_)
 exact re rfl func71 rfl (r_t rfl Xg) rfl ⟨_, rfl, rfl, z.ky (K4.st p7 rfl)⟩
def impl_OpOk.f (a0 : Op) : Option (Bool) :=
 ((if (decide (a0.Kind ≤ (8 : Int))) = true then ((impl_within.f a0.Seat (0 : Int) (7 : Int)).bind fun r8 => (some (!r8))) else (some false)).bind fun y7 => (if y7 = true then (some false) else (if (a0.Kind == (1 : Int)) = true then ((impl_within.f a0.Level (0 : Int) (1 : Int)).bind fun r17 => (some r17)) else ((if (a0.Kind == (2 : Int)) = true then (some (a0.Kind == (2 : Int))) else (some (a0.Kind == (4 : Int)))).bind fun y20 => (if y20 = true then ((impl_isClean.f a0.Key).bind fun r26 => (some r26)) else (if (a0.Kind == (3 : Int)) = true then ((impl_isClean.f a0.Key).bind fun r31 => ((if r31 = true then ((impl_isValue.f a0.Value).bind fun r37 => (some r37)) else (some false)).bind fun y33 => (some y33))) else (if (a0.Kind == (5 : Int)) = true then ((impl_isClean.f a0.Key).bind fun r44 => ((if r44 = true then ((impl_isClean.f a0.To).bind fun r50 => (some r50)) else (some false)).bind fun y46 => ((if y46 = true then ((impl_within.f a0.N (0 : Int) (50 : Int)).bind fun r59 => (some r59)) else (some false)).bind fun y58 => (some y58)))) else (if (a0.Kind == (6 : Int)) = true then ((impl_isClean.f a0.Key).bind fun r65 => ((if r65 = true then ((impl_isClean.f a0.To).bind fun r71 => (some r71)) else (some false)).bind fun y67 => (some y67))) else (if (a0.Kind == (11 : Int)) = true then ((impl_within.f a0.N (0 : Int) (15 : Int)).bind fun r77 => (some r77)) else (if (a0.Kind == (12 : Int)) = true then (some (decide (a0.N ≥ (0 : Int)))) else (if (a0.Kind == (13 : Int)) = true then (some (decide ((a0.Keep.length : Int) ≤ (600 : Int)))) else ((impl_within.f a0.Kind (1 : Int) (13 : Int)).bind fun r83 => (some r83)))))))))))))
def impl_OpOk.Q (w : World) (F : Nat → Prop) (r : Bool) (v : Value) (w' : World) : Prop :=
 v = (.bool r) ∧ Ky [] w w'
theorem impl_OpOk.calls (a0 : Op) (w : World) (F : Nat → Prop) (w0_0 : Value) (w0_1 : Value) (w0_2 : Value) (w0_3 : Value) (w0_4 : Value) (w0_5 : Value) (w0_6 : Value) (h0_0 : Kd.flt.rd w [w0_0] a0.Key.F F) (h0_1 : Ya.rd w [w0_1] a0.Key.T F) (h0_2 : Kd.flt.rd w [w0_2] a0.To.F F) (h0_3 : Ya.rd w [w0_3] a0.To.T F) (h0_4 : Kd.flt.rd w [w0_4] a0.Value.F F) (h0_5 : Ya.rd w [w0_5] a0.Value.T F) (h0_6 : (Kd.sl 4 Kd.bool).rd w [w0_6] a0.Keep F) (r : Bool) (m : impl_OpOk.f a0 = some r) :
  Calls prog 33 #[(.agg #[(iI a0.Kind), (iI a0.Seat), (iI a0.Level), (iI a0.N), (iI a0.Key.Kind), (iI a0.Key.N), w0_0, w0_1, (iI a0.To.Kind), (iI a0.To.N), w0_2, w0_3, (iI a0.Value.Kind), (iI a0.Value.N), w0_4, w0_5, w0_6])] w (RT (impl_OpOk.Q w F) r) := by
 obtain ⟨s0, rfl, kp0, z⟩ := Xq w F
 have A0_0 := fl_of h0_0
 have A0_1 := z.rd h0_1
 have A0_2 := fl_of h0_2
 have A0_3 := z.rd h0_3
 refine Xd (args := [(.agg #[(iI a0.Kind), (iI a0.Seat), (iI a0.Level), (iI a0.N), (iI a0.Key.Kind), (iI a0.Key.N), w0_0, w0_1, (iI a0.To.Kind), (iI a0.To.N), w0_2, w0_3, (iI a0.Value.Kind), (iI a0.Value.N), w0_4, w0_5, w0_6])]) func33 ntmps33 rfl rfl m ?_
 unfold impl_OpOk.f
 refine sr (bx (cs := [(iI a0.Kind), (iI a0.Seat), (iI a0.Level), (iI a0.N), (iI a0.Key.Kind), (iI a0.Key.N), w0_0, w0_1, (iI a0.To.Kind), (iI a0.To.N), w0_2, w0_3, (iI a0.Value.Kind), (iI a0.Value.N), w0_4, w0_5, w0_6]) 40 rfl rfl rfl rfl rfl rfl (fun b5 s5 p5 B5 => ?_))
 refine Xc rfl (dn (sq (sr (Xt fa35_0 rfl (ld' B5 u3 rfl (Xc rfl (Xc rfl (ji [] (fun (y7 : Bool) e w => ∃ (s : St) (e0 : Env), w = s.w ∧ e = upd (upd e0 1 (pB b5)) 11 (.bool y7) ∧ Kp s0 s ∧ BlF s b5 35 [(iI a0.Kind), (iI a0.Seat), (iI a0.Level), (iI a0.N), (iI a0.Key.Kind), (iI a0.Key.N), w0_0, w0_1, (iI a0.To.Kind), (iI a0.To.N), w0_2, w0_3, (iI a0.Value.Kind), (iI a0.Value.N), w0_4, w0_5, w0_6] 40) (fun Gj7 Kj7 => ?_) ?_))))))))
 ·
  rcases bft (decide (a0.Kind ≤ (8 : Int))) with hb7 | hb7
  ·
   refine sbT hb7 ?_
   rw [if_pos hb7]
   refine Xt fa35_1 rfl (ld' B5 u3 rfl (clV 41 rfl func38 rfl (impl_within.calls a0.Seat (0 : Int) (7 : Int) s5.w (mm [] s5)) (fun r8 s9 p9 n9 => ?_)))
   refine Xc rfl (Xc rfl ?_)
   exact Kj7 _ _ _ ⟨s9, _, rfl, (ue (ue rfl rfl) rfl), (kp0.st (Xk p5 p9) rfl), (B5.st p9 rfl)⟩
  refine sbT hb7 ?_
  rw [if_neg (by rw [hb7]; decide)]
  refine Xj rfl (Xj rfl (Xj rfl (Xj rfl (Xc rfl ?_))))
  exact Kj7 _ _ _ ⟨s5, _, rfl, (ue (ue rfl rfl) rfl), (kp0.st p5 rfl), B5⟩
 rintro y7 _ _ ⟨s13, _, rfl, rfl, Ky7, By7_b5⟩
 refine dn (cd rfl (fun h15 => ?_) (fun h15 => ?_))
 ·
  exact sr (Xc rfl (dn (re rfl func33 rfl (r_t rfl Xg) rfl ⟨_, rfl, rfl, z.ky Ky7⟩)))
 refine sk (sq (sr (Xt fa35_0 rfl (ld' By7_b5 u3 rfl (dn (bl (sr (Xc rfl (Xc rfl (dn (cd rfl (fun h16 => ?_) (fun h16 => ?_))))))))))))
 ·
  refine sr (Xt fa35_2 rfl (ld' By7_b5 u3 rfl (clV 42 rfl func38 rfl (impl_within.calls a0.Level (0 : Int) (1 : Int) s13.w (mm [] s13)) (fun r17 s18 p18 n18 => ?_))))
  refine Xc rfl (dn ?_)
  exact re rfl func33 rfl (r_t rfl Xg) rfl ⟨_, rfl, rfl, z.ky (Ky7.st p18 rfl)⟩
 refine sq (sr (Xc rfl (Xc rfl (dn (jc (fun (y20 : Bool) e w => ∃ (s : St) (e0 : Env), w = s.w ∧ e = upd (upd (upd e0 1 (pB b5)) 13 (iI a0.Kind)) 19 (.bool y20) ∧ Kp s0 s ∧ BlF s b5 35 [(iI a0.Kind), (iI a0.Seat), (iI a0.Level), (iI a0.N), (iI a0.Key.Kind), (iI a0.Key.N), w0_0, w0_1, (iI a0.To.Kind), (iI a0.To.N), w0_2, w0_3, (iI a0.Value.Kind), (iI a0.Value.N), w0_4, w0_5, w0_6] 40) (fun Gj20 Kj20 => ?_) ?_)))))
 ·
  refine cd rfl (fun h21 => ?_) (fun h21 => ?_)
  ·
   exact sk (Kj20 _ _ _ ⟨s13, _, rfl, (ue (ue (ue rfl rfl) rfl) rfl), Ky7, By7_b5⟩)
  exact rg (Xc rfl (Xc rfl (dn (Kj20 _ _ _ ⟨s13, _, rfl, (ue (ue (ue rfl rfl) rfl) rfl), Ky7, By7_b5⟩))))
 rintro y20 _ _ ⟨s22, _, rfl, rfl, Ky20, By20_b5⟩
 refine cd rfl (fun h24 => ?_) (fun h24 => ?_)
 ·
  refine sr (Xt fa35_4 rfl (lda' (es := [(iI a0.Key.Kind), (iI a0.Key.N), w0_0, w0_1]) By20_b5 u26 z26 rfl ?_))
  refine clV 43 rfl func70 rfl (impl_isClean.calls a0.Key s22.w (mm [0] s22) w0_0 w0_1 ((Xh (s := s22) A0_0).sub (D := [0]) rfl) (A0_1.kp Ky20)) (fun r26 s27 p27 n27 => ?_)
  refine Xc rfl (dn ?_)
  exact re rfl func33 rfl (r_t rfl Xg) rfl ⟨_, rfl, rfl, z.ky (Ky20.st p27 rfl)⟩
 refine sr (Xc rfl (Xc rfl (dn (cd rfl (fun h29 => ?_) (fun h29 => ?_)))))
 ·
  refine sr (Xt fa35_4 rfl (lda' (es := [(iI a0.Key.Kind), (iI a0.Key.N), w0_0, w0_1]) By20_b5 u26 z26 rfl ?_))
  refine clV 44 rfl func70 rfl (impl_isClean.calls a0.Key s22.w (mm [0] s22) w0_0 w0_1 ((Xh (s := s22) A0_0).sub (D := [0]) rfl) (A0_1.kp Ky20)) (fun r31 s32 p32 n32 => ?_)
  refine Xc rfl (ji [8] (fun (y33 : Bool) e w => ∃ (s : St) (e0 : Env), w = s.w ∧ e = upd e0 34 (.bool y33) ∧ Kp s0 s) (fun Gj33 Kj33 => ?_) ?_)
  ·
   rcases bft r31 with hb33 | hb33
   ·
    refine sbT hb33 ?_
    rw [if_pos hb33]
    refine Xt fa35_6 rfl (lda' (es := [(iI a0.Value.Kind), (iI a0.Value.N), w0_4, w0_5]) (By20_b5.st p32 rfl) u26 z26 rfl ?_)
    have K35 := Ky20.st p32 rfl
    refine clV 45 rfl func71 rfl (impl_isValue.calls a0.Value s32.w (mm [0] s32) w0_4 w0_5 ((Xh (s := s32) (fl_of h0_4)).sub (D := [0]) rfl) ((z.rd h0_5).kp K35)) (fun r37 s38 p38 n38 => ?_)
    exact Xc rfl (Kj33 _ _ _ ⟨s38, _, rfl, (ue rfl rfl), (K35.st p38 rfl)⟩)
   refine sbT hb33 ?_
   rw [if_neg (by rw [hb33]; decide)]
   refine Xj rfl (Xj rfl (Xj rfl (Xc rfl ?_)))
   exact Kj33 _ _ _ ⟨s32, _, rfl, (ue rfl rfl), (Ky20.st p32 rfl)⟩
  rintro y33 _ _ ⟨s41, _, rfl, rfl, Ky33⟩
  exact Xc rfl (dn (re rfl func33 rfl (r_t rfl Xg) rfl ⟨_, rfl, rfl, z.ky Ky33⟩))
 refine sr (Xc rfl (Xc rfl (dn (cd rfl (fun h42 => ?_) (fun h42 => ?_)))))
 ·
  refine sr (Xt fa35_4 rfl (lda' (es := [(iI a0.Key.Kind), (iI a0.Key.N), w0_0, w0_1]) By20_b5 u26 z26 rfl ?_))
  refine clV 46 rfl func70 rfl (impl_isClean.calls a0.Key s22.w (mm [0] s22) w0_0 w0_1 ((Xh (s := s22) A0_0).sub (D := [0]) rfl) (A0_1.kp Ky20)) (fun r44 s45 p45 n45 => ?_)
  refine Xc rfl (ji [8, 9, 10, 11, 12, 13] (fun (y46 : Bool) e w => ∃ (s : St) (e0 : Env), w = s.w ∧ e = upd (upd e0 1 (pB b5)) 44 (.bool y46) ∧ Kp s0 s ∧ BlF s b5 35 [(iI a0.Kind), (iI a0.Seat), (iI a0.Level), (iI a0.N), (iI a0.Key.Kind), (iI a0.Key.N), w0_0, w0_1, (iI a0.To.Kind), (iI a0.To.N), w0_2, w0_3, (iI a0.Value.Kind), (iI a0.Value.N), w0_4, w0_5, w0_6] 40) (fun Gj46 Kj46 => ?_) ?_)
  ·
   rcases bft r44 with hb46 | hb46
   ·
    refine sbT hb46 ?_
    rw [if_pos hb46]
    refine Xt fa35_5 rfl ?_
    have A47 := By20_b5.st p45 rfl
    refine lda' (es := [(iI a0.To.Kind), (iI a0.To.N), w0_2, w0_3]) A47 u26 z26 rfl ?_
    have K48 := Ky20.st p45 rfl
    refine clV 47 rfl func70 rfl (impl_isClean.calls a0.To s45.w (mm [0] s45) w0_2 w0_3 ((Xh (s := s45) A0_2).sub (D := [0]) rfl) (A0_3.kp K48)) (fun r50 s51 p51 n51 => ?_)
    exact Xc rfl (Kj46 _ _ _ ⟨s51, _, rfl, (ue (ue rfl rfl) rfl), (K48.st p51 rfl), (A47.st p51 rfl)⟩)
   refine sbT hb46 ?_
   rw [if_neg (by rw [hb46]; decide)]
   refine Xj rfl (Xj rfl (Xj rfl (Xc rfl ?_)))
   exact Kj46 _ _ _ ⟨s45, _, rfl, (ue (ue rfl rfl) rfl), (Ky20.st p45 rfl), (By20_b5.st p45 rfl)⟩
  rintro y46 _ _ ⟨s56, _, rfl, rfl, Ky46, By46_b5⟩
  refine Xc rfl (ji [13] (fun (y58 : Bool) e w => ∃ (s : St) (e0 : Env), w = s.w ∧ e = upd e0 49 (.bool y58) ∧ Kp s0 s) (fun Gj58 Kj58 => ?_) ?_)
  ·
   rcases bft y46 with hb58 | hb58
   ·
    refine sbT hb58 ?_
    rw [if_pos hb58]
    refine Xt fa35_3 rfl (ld' By46_b5 u3 rfl (clV 48 rfl func38 rfl (impl_within.calls a0.N (0 : Int) (50 : Int) s56.w (mm [] s56)) (fun r59 s60 p60 n60 => ?_)))
    exact Xc rfl (Kj58 _ _ _ ⟨s60, _, rfl, (ue rfl rfl), (Ky46.st p60 rfl)⟩)
   refine sbT hb58 ?_
   rw [if_neg (by rw [hb58]; decide)]
   exact Xj rfl (Xj rfl (Xj rfl (Xc rfl (Kj58 _ _ _ ⟨s56, _, rfl, (ue rfl rfl), Ky46⟩))))
  rintro y58 _ _ ⟨s62, _, rfl, rfl, Ky58⟩
  exact Xc rfl (dn (re rfl func33 rfl (r_t rfl Xg) rfl ⟨_, rfl, rfl, z.ky Ky58⟩))
 refine sr (Xc rfl (Xc rfl (dn (cd rfl (fun h63 => ?_) (fun h63 => ?_)))))
 ·
  refine sr (Xt fa35_4 rfl (lda' (es := [(iI a0.Key.Kind), (iI a0.Key.N), w0_0, w0_1]) By20_b5 u26 z26 rfl ?_))
  refine clV 49 rfl func70 rfl (impl_isClean.calls a0.Key s22.w (mm [0] s22) w0_0 w0_1 ((Xh (s := s22) A0_0).sub (D := [0]) rfl) (A0_1.kp Ky20)) (fun r65 s66 p66 n66 => ?_)
  refine Xc rfl (ji [8] (fun (y67 : Bool) e w => ∃ (s : St) (e0 : Env), w = s.w ∧ e = upd e0 59 (.bool y67) ∧ Kp s0 s) (fun Gj67 Kj67 => ?_) ?_)
  ·
   rcases bft r65 with hb67 | hb67
   ·
    refine sbT hb67 ?_
    rw [if_pos hb67]
    refine Xt fa35_5 rfl (lda' (es := [(iI a0.To.Kind), (iI a0.To.N), w0_2, w0_3]) (By20_b5.st p66 rfl) u26 z26 rfl ?_)
    have K69 := Ky20.st p66 rfl
    refine clV 50 rfl func70 rfl (impl_isClean.calls a0.To s66.w (mm [0] s66) w0_2 w0_3 ((Xh (s := s66) A0_2).sub (D := [0]) rfl) (A0_3.kp K69)) (fun r71 s72 p72 n72 => ?_)
    exact Xc rfl (Kj67 _ _ _ ⟨s72, _, rfl, (ue rfl rfl), (K69.st p72 rfl)⟩)
   refine sbT hb67 ?_
   rw [if_neg (by rw [hb67]; decide)]
   refine Xj rfl (Xj rfl (Xj rfl (Xc rfl ?_)))
   exact Kj67 _ _ _ ⟨s66, _, rfl, (ue rfl rfl), (Ky20.st p66 rfl)⟩
  rintro y67 _ _ ⟨s75, _, rfl, rfl, Ky67⟩
  exact Xc rfl (dn (re rfl func33 rfl (r_t rfl Xg) rfl ⟨_, rfl, rfl, z.ky Ky67⟩))
 refine sr (Xc rfl (Xc rfl (dn (cd rfl (fun h76 => ?_) (fun h76 => ?_)))))
 ·
  refine sr (Xt fa35_3 rfl (ld' By20_b5 u3 rfl (clV 51 rfl func38 rfl (impl_within.calls a0.N (0 : Int) (15 : Int) s22.w (mm [] s22)) (fun r77 s78 p78 n78 => ?_))))
  refine Xc rfl (dn ?_)
  exact re rfl func33 rfl (r_t rfl Xg) rfl ⟨_, rfl, rfl, z.ky (Ky20.st p78 rfl)⟩
 refine sr (Xc rfl (Xc rfl (dn (cd rfl (fun h80 => ?_) (fun h80 => ?_)))))
 ·
  exact sr (Xt fa35_3 rfl (ld' By20_b5 u3 rfl (Xc rfl (Xc rfl (dn (re rfl func33 rfl (r_t rfl Xg) rfl ⟨_, rfl, rfl, z.ky Ky20⟩))))))
 refine sr (Xc rfl (Xc rfl (dn (cd rfl (fun h81 => ?_) (fun h81 => ?_)))))
 ·
  refine sr (Xt fa35_7 rfl (ld' By20_b5 u33 rfl ?_))
  exact ln ((z.rd h0_6).kp Ky20) u33 rfl rfl rfl rfl rfl rfl (Xc rfl (Xc rfl (dn (re rfl func33 rfl (r_t rfl Xg) rfl ⟨_, rfl, rfl, z.ky Ky20⟩))))
 refine sk (ib (sr (Xt fa35_0 rfl (ld' By20_b5 u3 rfl (clV 52 rfl func38 rfl (impl_within.calls a0.Kind (1 : Int) (13 : Int) s22.w (mm [] s22)) (fun r83 s84 p84 n84 => ?_))))))
 refine Xc rfl (dn ?_)
 exact re rfl func33 rfl (r_t rfl Xg) rfl ⟨_, rfl, rfl, z.ky (Ky20.st p84 rfl)⟩
def impl_opNames.f  : Option ((List ByteArray)) :=
 (some ([(⟨#[]⟩ : ByteArray), (⟨#[98, 101, 103, 105, 110]⟩ : ByteArray), (⟨#[103, 101, 116]⟩ : ByteArray), (⟨#[112, 117, 116]⟩ : ByteArray), (⟨#[100, 101, 108, 101, 116, 101]⟩ : ByteArray), (⟨#[115, 99, 97, 110]⟩ : ByteArray), (⟨#[116, 111, 116, 97, 108]⟩ : ByteArray), (⟨#[99, 111, 109, 109, 105, 116]⟩ : ByteArray), (⟨#[97, 98, 111, 114, 116]⟩ : ByteArray), (⟨#[118, 97, 99, 117, 117, 109]⟩ : ByteArray), (⟨#[99, 104, 101, 99, 107, 112, 111, 105, 110, 116]⟩ : ByteArray), (⟨#[101, 118, 105, 99, 116]⟩ : ByteArray), (⟨#[102, 117, 115, 101]⟩ : ByteArray), (⟨#[99, 114, 97, 115, 104]⟩ : ByteArray)]))
def impl_opNames.Q (w : World) (F : Nat → Prop) (r : (List ByteArray)) (v : Value) (w' : World) : Prop :=
 FO (Kd.sl 9 Kd.str) w w' [v] r ∧ Ky [] w w'
theorem impl_opNames.calls  (w : World) (F : Nat → Prop)   (r : (List ByteArray)) (m : impl_opNames.f  = some r) :
  Calls prog 37 #[] w (RT (impl_opNames.Q w F) r) := by
 obtain ⟨s0, rfl, kp0, z⟩ := Xq w F
 refine Xd (args := []) func37 ntmps37 rfl rfl m ?_
 unfold impl_opNames.f
 refine sr (Xc rfl (dn (sr (ltF' (K := Kd.str) (cells := [(.string (⟨#[]⟩ : ByteArray)), (.string (⟨#[98, 101, 103, 105, 110]⟩ : ByteArray)), (.string (⟨#[103, 101, 116]⟩ : ByteArray)), (.string (⟨#[112, 117, 116]⟩ : ByteArray)), (.string (⟨#[100, 101, 108, 101, 116, 101]⟩ : ByteArray)), (.string (⟨#[115, 99, 97, 110]⟩ : ByteArray)), (.string (⟨#[116, 111, 116, 97, 108]⟩ : ByteArray)), (.string (⟨#[99, 111, 109, 109, 105, 116]⟩ : ByteArray)), (.string (⟨#[97, 98, 111, 114, 116]⟩ : ByteArray)), (.string (⟨#[118, 97, 99, 117, 117, 109]⟩ : ByteArray)), (.string (⟨#[99, 104, 101, 99, 107, 112, 111, 105, 110, 116]⟩ : ByteArray)), (.string (⟨#[101, 118, 105, 99, 116]⟩ : ByteArray)), (.string (⟨#[102, 117, 115, 101]⟩ : ByteArray)), (.string (⟨#[99, 114, 97, 115, 104]⟩ : ByteArray))]) [(⟨#[]⟩ : ByteArray), (⟨#[98, 101, 103, 105, 110]⟩ : ByteArray), (⟨#[103, 101, 116]⟩ : ByteArray), (⟨#[112, 117, 116]⟩ : ByteArray), (⟨#[100, 101, 108, 101, 116, 101]⟩ : ByteArray), (⟨#[115, 99, 97, 110]⟩ : ByteArray), (⟨#[116, 111, 116, 97, 108]⟩ : ByteArray), (⟨#[99, 111, 109, 109, 105, 116]⟩ : ByteArray), (⟨#[97, 98, 111, 114, 116]⟩ : ByteArray), (⟨#[118, 97, 99, 117, 117, 109]⟩ : ByteArray), (⟨#[99, 104, 101, 99, 107, 112, 111, 105, 110, 116]⟩ : ByteArray), (⟨#[101, 118, 105, 99, 116]⟩ : ByteArray), (⟨#[102, 117, 115, 101]⟩ : ByteArray), (⟨#[99, 114, 97, 115, 104]⟩ : ByteArray)] 40 fl_str u59 z9 o9 (fun w => (Xv _ _ _)) rfl (lfill_c rfl rfl rfl rfl rfl) (fun v1 s1 p1 A1 => ?_)))))
 refine asg' v1 rfl (dn ?_)
 have K3 := kp0.st p1 rfl
 exact re rfl func37 rfl (r_t rfl Xg) rfl ⟨_, rfl, A1.fo K3 rfl z.l, z.ky K3⟩
def impl_keepText.b0 (a0 : (List Bool)) (x6 : (List Int) × Int) : Option (((List Int) × Int) ⊕ ByteArray) :=
 (if (decide (x6.2 < (a0.length : Int))) = true then (if 0 ≤ x6.2 ∧ x6.2 < (a0.length : Int) then (if 0 ≤ x6.2 ∧ x6.2 < (x6.1.length : Int) then ((if (at_ a0 x6.2) = true then (if 0 ≤ x6.2 ∧ x6.2 < ((x6.1.set (x6.2).toNat (48 : Int)).length : Int) then (some ((x6.1.set (x6.2).toNat (48 : Int)).set (x6.2).toNat (49 : Int))) else none) else (some (x6.1.set (x6.2).toNat (48 : Int)))).bind fun y17 => (some (Sum.inl (y17, (IntKind.wrap .i64 (x6.2 + (1 : Int))))))) else none) else none) else ((some (str x6.1)).bind fun o => some (Sum.inr o)))
def impl_keepText.f (a0 : (List Bool)) : Option (ByteArray) :=
 (if 0 ≤ (a0.length : Int) ∧ (a0.length : Int) ≤ (Lim : Int) then (iter (impl_keepText.b0 a0) ((List.replicate ((a0.length : Int)).toNat (0 : Int)), (0 : Int))) else none)
def impl_keepText.Q (w : World) (F : Nat → Prop) (r : ByteArray) (v : Value) (w' : World) : Prop :=
 v = (.string r) ∧ Ky [] w w'
theorem impl_keepText.calls (a0 : (List Bool)) (w : World) (F : Nat → Prop) (w0_0 : Value) (h0_0 : (Kd.sl 4 Kd.bool).rd w [w0_0] a0 F) (r : ByteArray) (m : impl_keepText.f a0 = some r) :
  Calls prog 72 #[w0_0] w (RT (impl_keepText.Q w F) r) := by
 obtain ⟨s0, rfl, kp0, z⟩ := Xq w F
 have A0_0 := z.rd h0_0
 refine Xd (args := [w0_0]) func72 ntmps72 rfl rfl m ?_
 unfold impl_keepText.f
 refine sr (Xc rfl (dn (sr (mv' w0_0 rfl (ln A0_0 u33 rfl rfl rfl rfl rfl rfl (mk (x0 := (0 : Int)) (K := (Kd.int .u8)) 40 sl22 o5 (fun _ => ⟨rfl, rfl⟩) rfl rfl rfl rfl rfl rfl rfl (fun v2 s2 p2 A2 => ?_)))))))
 refine asg' v2 rfl (dn (sq (sr (mv' w0_0 rfl ?_))))
 have K4 := kp0.st p2 rfl
 refine ln (A0_0.kp K4) u33 rfl rfl rfl rfl rfl rfl (Xc rfl (dn (bl (lpI (fun (x6 : (List Int) × Int) e w => ∃ (s : St) (e0 : Env), w = s.w ∧ e = upd (upd (upd (upd e0 3 v2) 9 w0_0) 10 (iI (a0.length : Int))) 11 (iI x6.2) ∧ Kp s0 s ∧ OwF Ya s [v2] x6.1 40) ⟨s2, _, rfl, (ue (ue (ue (ue rfl rfl) rfl) rfl) rfl), K4, A2⟩ (fun g6 ih6 => ?_)))))
 rintro x6 _ _ ⟨s7, _, rfl, rfl, Kx6, Ax6_0⟩
 unfold impl_keepText.b0
 refine sr (Xc rfl (dn (sq (cd rfl (fun h9 => ?_) (fun h9 => ?_)))))
 ·
  refine sk (sq (bl (sr (Xc rfl ?_))))
  refine ix (A0_0.kp Kx6) u33 z4 rfl rfl rfl rfl rfl rfl rfl rfl (fun ad11 es11 h0_11 h1_11 he11 ce11 ia11 => ?_)
  obtain rfl := he11
  refine lc0 ce11 u4 rfl rfl rfl rfl rfl rfl rfl rfl (Xc rfl (Xc rfl (dn (sr (mv' v2 rfl (Xc rfl (ix Ax6_0.rd u22 z5 rfl rfl rfl rfl rfl rfl rfl rfl (fun ad13 es13 h0_13 h1_13 he13 ce13 ia13 => ?_))))))))
  obtain rfl := he13
  refine so (x' := (48 : Int)) Ax6_0 ia13 h0_13 h1_13 cs_flat z5 rfl rfl rfl rfl rfl rfl (fun s15 p15 A15 => ?_)
  refine dn (sr (Xc rfl (dn (jc (fun (y17 : (List Int)) e w => ∃ (s : St) (e0 : Env), w = s.w ∧ e = upd (upd (upd (upd e0 3 v2) 9 w0_0) 10 (iI (a0.length : Int))) 11 (iI x6.2) ∧ Kp s0 s ∧ OwF Ya s [v2] y17 40) (fun Gj17 Kj17 => ?_) ?_))))
  ·
   refine cd rfl (fun h18 => ?_) (fun h18 => ?_)
   ·
    refine rg (mv' v2 rfl (Xc rfl (ix A15.rd u22 z5 rfl rfl rfl rfl rfl rfl rfl rfl (fun ad19 es19 h0_19 h1_19 he19 ce19 ia19 => ?_))))
    obtain rfl := he19
    refine so (x' := (49 : Int)) A15 ia19 h0_19 h1_19 cs_flat z5 rfl rfl rfl rfl rfl rfl (fun s21 p21 A21 => ?_)
    exact dn (Kj17 _ _ _ ⟨s21, _, rfl, (ue (ue (ue (ue rfl rfl) rfl) rfl) rfl), (Kx6.st (Xk p15 p21) rfl), A21⟩)
   exact sk (Kj17 _ _ _ ⟨s15, _, rfl, (ue (ue (ue (ue rfl rfl) rfl) rfl) rfl), (Kx6.st p15 rfl), A15⟩)
  rintro y17 _ _ ⟨s25, _, rfl, rfl, Ky17, Ay17_0⟩
  exact ib (rg (Xc rfl (Xc rfl (dn (lb ih6 ⟨s25, _, rfl, (ue (ue (ue (ue rfl rfl) rfl) rfl) rfl), Ky17, Ay17_0⟩)))))
 exact xt rfl (sgb (sr (mv' v2 rfl (b2s Ax6_0.rd u22 u9 u5 rfl rfl rfl rfl rfl rfl (Xc rfl (dn (re rfl func72 rfl (r_t rfl Xg) rfl ⟨_, rfl, rfl, z.ky Kx6⟩)))))))
section
open Go.Shelf
shelf_lay Lays.n156 Nm 156 at Tryz as lay_join
theorem join_extra : Builder.Extra Tryz.prog lay_join_ren where
  sizeBuilder := by kernel_rfl
  liesBuilder := by kernel_rfl
  t5 := Tryz.underlying5
  a5 := Tryz.isAgg5
  z5 := Tryz.sizeOf5
  v5 := Tryz.zeroValue5
  infoByte := by kernel_rfl
  cellsByte := by kernel_rfl
  sizeByte := by kernel_rfl
  neB5 := by decide
def strings_Join.f (a0 : (List ByteArray)) (a1 : ByteArray) : Option (ByteArray) := if a0.length ≤ Lim ∧ (Lib.join (a0.map (·.data.toList)) a1.data.toList).length ≤ Lim then some ⟨(Lib.join (a0.map (·.data.toList)) a1.data.toList).toArray⟩ else none
def strings_Join.Q (w : World) (F : Nat → Prop) (r : ByteArray) (v : Value) (w' : World) : Prop := v = (.string r) ∧ Ky [] w w'
theorem strings_Join.calls (a0 : (List ByteArray)) (a1 : ByteArray) (w : World) (F : Nat → Prop) (w0_0 : Value) (h0_0 : (Kd.sl 9 Kd.str).rd w [w0_0] a0 F) (r : ByteArray) (m : strings_Join.f a0 a1 = some r) :
    Calls Tryz.prog 73 #[w0_0, .string a1] w (RT (strings_Join.Q w F) r) := by
  unfold strings_Join.f at m
  split at m
  · rename_i h
    cases m
    obtain ⟨v1, e1, B, cap, cells, hv, hcap, hels, hc⟩ := h0_0
    obtain rfl : w0_0 = v1 := by simpa using e1
    subst hv
    have hcs := els_strs hels
    cases a0 with
    | nil => exact Calls.mono (Any.strings_Join_none lay_join join_extra B cap a1 w) fun e w' ⟨he, hw⟩ => ⟨_, he, rfl, by rw [hw]; exact Ky.refl w⟩
    | cons x xs =>
      obtain ⟨ad, rfl, _, hcell⟩ := hc (by rw [hcs]; simp)
      have h0 := hcell 0 (.string x) (by rw [hcs]; rfl)
      obtain ⟨bk, o, sp⟩ := ad
      have hsp : sp = none := by
        cases sp with
        | none => rfl
        | some q => simp [World.cell?, Addr.add] at h0; split at h0 <;> cases h0
      subst hsp
      have hj : ∀ (j : Nat) y, (x :: xs)[j]? = some y → w.cell? ⟨bk, o + j, none⟩ = some (.string y) := fun j y hy => by
        have h1 := hcell j (.string y) (by rw [hcs, List.getElem?_map, hy]; rfl)
        rwa [Addr.add_lit] at h1
      have hbk : bk < w.heap.size := by
        have := World.block_lt_of_cell? w _ h0
        simpa [Addr.add] using this
      exact Calls.mono (Any.strings_Join lay_join join_extra bk o cap (x :: xs) a1 w hj hbk (by have := h.1; unfold Lim at this; omega) hcap (by have := h.2; unfold Lim at this; omega)) fun e w' ⟨he, hw⟩ => ⟨_, he, rfl, Ky.of_below hw⟩
  · cases m
end

def impl_opText.f (a0 : Op) : Option (ByteArray) :=
 ((impl_opNames.f).bind fun r13 => (if 0 ≤ a0.Kind ∧ a0.Kind < (r13.length : Int) then ((if (decide (a0.Kind ≤ (8 : Int))) = true then ((strconv_Itoa.f a0.Seat).bind fun r26 => (if ([(at_ r13 a0.Kind)]).length + ([r26]).length ≤ Lim then (some ([(at_ r13 a0.Kind)] ++ [r26])) else none)) else (some ([(at_ r13 a0.Kind)]))).bind fun y23 => ((if (a0.Kind == (1 : Int)) = true then ((strconv_Itoa.f a0.Level).bind fun r41 => (if y23.length + ([r41]).length ≤ Lim then (some (y23 ++ [r41])) else none)) else ((if (a0.Kind == (2 : Int)) = true then (some (a0.Kind == (2 : Int))) else (some (a0.Kind == (4 : Int)))).bind fun y49 => ((if y49 = true then ((impl_itemText.f a0.Key).bind fun r56 => (if y23.length + ([r56]).length ≤ Lim then (some (y23 ++ [r56])) else none)) else ((if (a0.Kind == (3 : Int)) = true then ((impl_itemText.f a0.Key).bind fun r79 => ((impl_itemText.f a0.Value).bind fun r86 => (if y23.length + ([r79, r86]).length ≤ Lim then (some (y23 ++ [r79, r86])) else none))) else ((if (a0.Kind == (5 : Int)) = true then ((impl_itemText.f a0.Key).bind fun r116 => ((impl_itemText.f a0.To).bind fun r124 => ((strconv_Itoa.f a0.N).bind fun r130 => (if y23.length + ([r116, r124, r130]).length ≤ Lim then (some (y23 ++ [r116, r124, r130])) else none)))) else ((if (a0.Kind == (6 : Int)) = true then ((impl_itemText.f a0.Key).bind fun r156 => ((impl_itemText.f a0.To).bind fun r163 => (if y23.length + ([r156, r163]).length ≤ Lim then (some (y23 ++ [r156, r163])) else none))) else ((if (a0.Kind == (11 : Int)) = true then (some (a0.Kind == (11 : Int))) else (some (a0.Kind == (12 : Int)))).bind fun y174 => ((if y174 = true then ((strconv_Itoa.f a0.N).bind fun r180 => (if y23.length + ([r180]).length ≤ Lim then (some (y23 ++ [r180])) else none)) else ((if (a0.Kind == (13 : Int)) = true then ((if (decide ((a0.Keep.length : Int) > (0 : Int))) = true then ((impl_keepText.f a0.Keep).bind fun r193 => (if y23.length + ([r193]).length ≤ Lim then (some (y23 ++ [r193])) else none)) else (some y23)).bind fun y191 => (some y191)) else (some y23)).bind fun y188 => (some y188))).bind fun y178 => (some y178)))).bind fun y141 => (some y141))).bind fun y97 => (some y97))).bind fun y64 => (some y64))).bind fun y53 => (some y53)))).bind fun y39 => ((strings_Join.f y39 (⟨#[32]⟩ : ByteArray)).bind fun r217 => (some r217)))) else none))
def impl_opText.Q (w : World) (F : Nat → Prop) (r : ByteArray) (v : Value) (w' : World) : Prop :=
 v = (.string r) ∧ Ky [] w w'
theorem impl_opText.calls (a0 : Op) (w : World) (F : Nat → Prop) (w0_0 : Value) (w0_1 : Value) (w0_2 : Value) (w0_3 : Value) (w0_4 : Value) (w0_5 : Value) (w0_6 : Value) (hG : GT.rd w [] () F) (h0_0 : Kd.flt.rd w [w0_0] a0.Key.F F) (h0_1 : Ya.rd w [w0_1] a0.Key.T F) (h0_2 : Kd.flt.rd w [w0_2] a0.To.F F) (h0_3 : Ya.rd w [w0_3] a0.To.T F) (h0_4 : Kd.flt.rd w [w0_4] a0.Value.F F) (h0_5 : Ya.rd w [w0_5] a0.Value.T F) (h0_6 : (Kd.sl 4 Kd.bool).rd w [w0_6] a0.Keep F) (r : ByteArray) (m : impl_opText.f a0 = some r) :
  Calls prog 34 #[(.agg #[(iI a0.Kind), (iI a0.Seat), (iI a0.Level), (iI a0.N), (iI a0.Key.Kind), (iI a0.Key.N), w0_0, w0_1, (iI a0.To.Kind), (iI a0.To.N), w0_2, w0_3, (iI a0.Value.Kind), (iI a0.Value.N), w0_4, w0_5, w0_6])] w (RT (impl_opText.Q w F) r) := by
 obtain ⟨s0, rfl, kp0, z⟩ := Xq w F
 have A0_0 := fl_of h0_0
 have A0_1 := z.rd h0_1
 have A0_2 := fl_of h0_2
 have A0_3 := z.rd h0_3
 have AG := z.rd hG
 refine Xd (args := [(.agg #[(iI a0.Kind), (iI a0.Seat), (iI a0.Level), (iI a0.N), (iI a0.Key.Kind), (iI a0.Key.N), w0_0, w0_1, (iI a0.To.Kind), (iI a0.To.N), w0_2, w0_3, (iI a0.Value.Kind), (iI a0.Value.N), w0_4, w0_5, w0_6])]) func34 ntmps34 rfl rfl m ?_
 unfold impl_opText.f
 refine sr (bx (cs := [(iI a0.Kind), (iI a0.Seat), (iI a0.Level), (iI a0.N), (iI a0.Key.Kind), (iI a0.Key.N), w0_0, w0_1, (iI a0.To.Kind), (iI a0.To.N), w0_2, w0_3, (iI a0.Value.Kind), (iI a0.Value.N), w0_4, w0_5, w0_6]) 40 rfl rfl rfl rfl rfl rfl (fun b5 s5 p5 B5 => ?_))
 refine Xc rfl (dn (sq (zdraw [[], [], [1], [0, 2], [3], [4], [5, 0, 0, 1, 2, 3, 4, 5]] [some 4, some 5, some 6, some 7, some 8, some 9, some 3] [[], [1], [5], [4, 6], [7], [8], [9]] [0, 1, 2, 3, 4, 5, 6] ⟨by kernel_rfl, by kernel_rfl, by kernel_rfl⟩ (by kernel_rfl) (fun s7 p7 l7 tb7 zd7 => ?_))))
 refine zstep 0 [some 6, some 5] tb7 ((zd7.add 1 5 (pB b5) rfl).add 2 6 (iI a0.Kind) rfl) (Xb (ld_q' (B5.st p7 rfl) u3 rfl) rfl (Xb (Xz fa35_0 rfl) rfl Xo)) (by kernel_rfl) rfl (fun l11 e11 zd11 => ?_)
 refine clO 41 rfl func37 rfl (impl_opNames.calls  s7.w (mm [] s7)) (fun r13 v13_0 s14 p14 A13_0 => ?_)
 refine zdone (L' := [2, 1]) (D' := [0]) zd11 rfl rfl rfl (fun zd16 => ?_)
 refine zfin [3, 4, 5, 6] tb7 zd16 (Xb (ld_q' (B5.st (Xk p7 p14) rfl) u3 rfl) rfl (Xb (Xz fa35_0 rfl) rfl Xo)) (by kernel_rfl) (by decide) (ix A13_0.rd u59 z9 rfl rfl rfl rfl rfl rfl rfl rfl (fun ad18 es18 h0_18 h1_18 he18 ce18 ia18 => ?_))
 obtain rfl := he18
 refine lc0 ce18 u9 rfl rfl rfl rfl rfl rfl rfl rfl (ltF' (K := Kd.str) (cells := [(.string (at_ r13 a0.Kind))]) [(at_ r13 a0.Kind)] 42 fl_str u59 z9 o9 (fun w => (Xv _ _ _)) rfl rfl (fun v20 s20 p20 A20 => ?_))
 refine asg' v20 rfl (dn (sq (sr (Xt fa35_0 rfl ?_))))
 have A22 := B5.st (Xw p7 p14 p20) rfl
 refine ld' A22 u3 rfl (Xc rfl (dn (jc (fun (y23 : (List ByteArray)) e w => ∃ (s : St) (e0 : Env) (vy23_0 : Value), w = s.w ∧ e = upd (upd e0 1 (pB b5)) 3 vy23_0 ∧ Kp s0 s ∧ OwF (Kd.sl 9 Kd.str) s [vy23_0] y23 42 ∧ BlF s b5 35 [(iI a0.Kind), (iI a0.Seat), (iI a0.Level), (iI a0.N), (iI a0.Key.Kind), (iI a0.Key.N), w0_0, w0_1, (iI a0.To.Kind), (iI a0.To.N), w0_2, w0_3, (iI a0.Value.Kind), (iI a0.Value.N), w0_4, w0_5, w0_6] 40) (fun Gj23 Kj23 => ?_) ?_)))
 ·
  refine cd rfl (fun h24 => ?_) (fun h24 => ?_)
  ·
   refine rg (mv' v20 rfl (Xt fa35_1 rfl (ld' A22 u3 rfl ?_)))
   have K25 := kp0.st (tr4 p5 p7 p14 p20) rfl
   refine clV 43 rfl func62 rfl (strconv_Itoa.calls a0.Seat s20.w (mm [0] s20) (AG.kp K25)) (fun r26 s27 p27 n27 => ?_)
   refine ltF' (K := Kd.str) (cells := [(.string r26)]) [r26] 44 fl_str u59 z9 o9 (fun w => (Xv _ _ _)) rfl rfl (fun v28 s28 p28 A28 => ?_)
   refine apF fl_str sl59 (A20.st (Xk p27 p28) rfl) A28.rd rfl rfl rfl rfl rfl rfl rfl (fun v31 s31 p31 A31 => ?_)
   refine asg' v31 rfl (dn ?_)
   exact Kj23 _ _ _ ⟨s31, _, v31, rfl, (ue (ue rfl rfl) rfl), (K25.st (Xw p27 p28 p31) rfl), A31, (A22.st (Xw p27 p28 p31) rfl)⟩
  exact sk (Kj23 _ _ _ ⟨s20, _, v20, rfl, (ue (ue rfl rfl) rfl), (kp0.st (tr4 p5 p7 p14 p20) rfl), A20, A22⟩)
 rintro y23 _ _ ⟨s36, _, vy23_0, rfl, rfl, Ky23, Ay23_0, By23_b5⟩
 refine sq (sr (Xt fa35_0 rfl (ld' By23_b5 u3 rfl (dn (bl (sr (Xc rfl (Xc rfl (dn (jc (fun (y39 : (List ByteArray)) e w => ∃ (s : St) (e0 : Env) (vy39_0 : Value), w = s.w ∧ e = upd e0 3 vy39_0 ∧ Kp s0 s ∧ OwF (Kd.sl 9 Kd.str) s [vy39_0] y39 42) (fun Gj39 Kj39 => ?_) ?_))))))))))
 ·
  refine cd rfl (fun h40 => ?_) (fun h40 => ?_)
  ·
   refine rg (mv' vy23_0 rfl (Xt fa35_2 rfl (ld' By23_b5 u3 rfl (clV 45 rfl func62 rfl (strconv_Itoa.calls a0.Level s36.w (mm [0] s36) (AG.kp Ky23)) (fun r41 s42 p42 n42 => ?_)))))
   refine ltF' (K := Kd.str) (cells := [(.string r41)]) [r41] 46 fl_str u59 z9 o9 (fun w => (Xv _ _ _)) rfl rfl (fun v43 s43 p43 A43 => ?_)
   refine apF fl_str sl59 (Ay23_0.st (Xk p42 p43) rfl) A43.rd rfl rfl rfl rfl rfl rfl rfl (fun v46 s46 p46 A46 => ?_)
   refine asg' v46 rfl (dn ?_)
   exact Kj39 _ _ _ ⟨s46, _, v46, rfl, (ue rfl rfl), (Ky23.st (Xw p42 p43 p46) rfl), A46⟩
  refine sq (sr (Xc rfl (Xc rfl (dn (jc (fun (y49 : Bool) e w => ∃ (s : St) (e0 : Env), w = s.w ∧ e = upd (upd (upd (upd e0 1 (pB b5)) 3 vy23_0) 20 (iI a0.Kind)) 29 (.bool y49) ∧ Kp s0 s ∧ BlF s b5 35 [(iI a0.Kind), (iI a0.Seat), (iI a0.Level), (iI a0.N), (iI a0.Key.Kind), (iI a0.Key.N), w0_0, w0_1, (iI a0.To.Kind), (iI a0.To.N), w0_2, w0_3, (iI a0.Value.Kind), (iI a0.Value.N), w0_4, w0_5, w0_6] 40 ∧ OwF (Kd.sl 9 Kd.str) s [vy23_0] y23 42) (fun Gj49 Kj49 => ?_) ?_)))))
  ·
   refine cd rfl (fun h50 => ?_) (fun h50 => ?_)
   ·
    exact sk (Kj49 _ _ _ ⟨s36, _, rfl, (ue (ue (ue (ue rfl rfl) rfl) rfl) rfl), Ky23, By23_b5, Ay23_0⟩)
   exact rg (Xc rfl (Xc rfl (dn (Kj49 _ _ _ ⟨s36, _, rfl, (ue (ue (ue (ue rfl rfl) rfl) rfl) rfl), Ky23, By23_b5, Ay23_0⟩))))
  rintro y49 _ _ ⟨s51, _, rfl, rfl, Ky49, By49_b5, Cy49_37⟩
  refine jc (fun (y53 : (List ByteArray)) e w => ∃ (s : St) (e0 : Env) (vy53_0 : Value), w = s.w ∧ e = upd e0 3 vy53_0 ∧ Kp s0 s ∧ OwF (Kd.sl 9 Kd.str) s [vy53_0] y53 42) (fun Gj53 Kj53 => ?_) ?_
  ·
   refine cd rfl (fun h54 => ?_) (fun h54 => ?_)
   ·
    refine rg (mv' vy23_0 rfl (Xt fa35_4 rfl (lda' (es := [(iI a0.Key.Kind), (iI a0.Key.N), w0_0, w0_1]) By49_b5 u26 z26 rfl ?_)))
    refine clV 47 rfl func27 rfl (impl_itemText.calls a0.Key s51.w (mm [0] s51) w0_0 w0_1 (AG.kp Ky49) ((Xh (s := s51) A0_0).sub (D := [0]) rfl) (A0_1.kp Ky49)) (fun r56 s57 p57 n57 => ?_)
    refine ltF' (K := Kd.str) (cells := [(.string r56)]) [r56] 48 fl_str u59 z9 o9 (fun w => (Xv _ _ _)) rfl rfl (fun v58 s58 p58 A58 => ?_)
    refine apF fl_str sl59 (Cy49_37.st (Xk p57 p58) rfl) A58.rd rfl rfl rfl rfl rfl rfl rfl (fun v61 s61 p61 A61 => ?_)
    refine asg' v61 rfl (dn ?_)
    exact Kj53 _ _ _ ⟨s61, _, v61, rfl, (ue rfl rfl), (Ky49.st (Xw p57 p58 p61) rfl), A61⟩
   refine sr (Xc rfl (Xc rfl (dn (jc (fun (y64 : (List ByteArray)) e w => ∃ (s : St) (e0 : Env) (vy64_0 : Value), w = s.w ∧ e = upd e0 3 vy64_0 ∧ Kp s0 s ∧ OwF (Kd.sl 9 Kd.str) s [vy64_0] y64 42) (fun Gj64 Kj64 => ?_) ?_))))
   ·
    refine cd rfl (fun h65 => ?_) (fun h65 => ?_)
    ·
     refine zdraw [[], [], [1], [2], [], [4], [5, 3], [3, 6], [0, 7, 6], [8, 8, 0, 1, 2, 3, 4, 5, 6, 7, 8]] [some 40, some 41, some 42, some 43, some 44, some 45, some 46, some 47, some 48, some 3] [[3], [1], [41], [42], [1], [44], [45], [43, 46], [40, 47], [48]] [0, 1, 2, 3, 4, 5, 6, 7, 8, 9] ⟨by kernel_rfl, by kernel_rfl, by kernel_rfl⟩ (by kernel_rfl) (fun s66 p66 l66 tb66 zd66 => ?_)
     refine zstep 3 [some 45, some 44, some 40] tb66 (((((zd66.add 0 40 vy23_0 rfl).add 1 41 (pO b5 4) rfl).add 2 42 (.agg #[(iI a0.Key.Kind), (iI a0.Key.N), w0_0, w0_1]) rfl).add 4 44 (pO b5 12) rfl).add 5 45 (.agg #[(iI a0.Value.Kind), (iI a0.Value.N), w0_4, w0_5]) rfl) (Xb (lda_q (es := [(iI a0.Value.Kind), (iI a0.Value.N), w0_4, w0_5]) (By49_b5.st p66 rfl) u26 z26 rfl rfl rfl rfl rfl rfl rfl rfl) rfl (Xb (Xz fa35_6 rfl) rfl (Xb (lda_q (es := [(iI a0.Key.Kind), (iI a0.Key.N), w0_0, w0_1]) (By49_b5.st p66 rfl) u26 z26 rfl rfl rfl rfl rfl rfl rfl rfl) rfl (Xb (Xz fa35_4 rfl) rfl (Xb (mv_q vy23_0 rfl rfl rfl rfl rfl rfl) rfl Xo))))) (by kernel_rfl) rfl (fun l74 e74 zd74 => ?_)
     have K77 := Ky49.st p66 rfl
     refine clV 49 rfl func27 rfl (impl_itemText.calls a0.Key s66.w (mm [0] s66) w0_0 w0_1 (AG.kp K77) ((Xh (s := s66) A0_0).sub (D := [0]) rfl) (A0_1.kp K77)) (fun r79 s80 p80 n80 => ?_)
     refine zdone (L' := [5, 4, 0]) (D' := [1, 2, 3]) zd74 rfl rfl rfl (fun zd81 => ?_)
     refine zstep 6 [some 40] tb66 zd81 (Xb (lda_q (es := [(iI a0.Value.Kind), (iI a0.Value.N), w0_4, w0_5]) (By49_b5.st (Xk p66 p80) rfl) u26 z26 rfl rfl rfl rfl rfl rfl rfl rfl) rfl (Xb (Xz fa35_6 rfl) rfl (Xb (mv_q vy23_0 rfl rfl rfl rfl rfl rfl) rfl Xo))) (by kernel_rfl) rfl (fun l82 e82 zd82 => ?_)
     have K84 := K77.st p80 rfl
     refine clV 50 rfl func27 rfl (impl_itemText.calls a0.Value s80.w (mm [0] s80) w0_4 w0_5 (AG.kp K84) ((Xh (s := s80) (fl_of h0_4)).sub (D := [0]) rfl) ((z.rd h0_5).kp K84)) (fun r86 s87 p87 n87 => ?_)
     refine zdone (L' := [0]) (D' := [4, 5, 6, 1, 2, 3]) zd82 rfl rfl rfl (fun zd88 => ?_)
     refine zstep 7 [some 40] tb66 zd88 (Xb (mv_q vy23_0 rfl rfl rfl rfl rfl rfl) rfl Xo) (by kernel_rfl) rfl (fun l89 e89 zd89 => ?_)
     refine ltF' (K := Kd.str) (cells := [(.string r79), (.string r86)]) [r79, r86] 51 fl_str u59 z9 o9 (fun w => (Xv _ _ _)) rfl rfl (fun v90 s90 p90 A90 => ?_)
     refine zdone (L' := [0]) (D' := [7, 4, 5, 6, 1, 2, 3]) zd89 rfl rfl rfl (fun zd92 => ?_)
     refine zfin [8, 9] tb66 zd92 (Xb (mv_q vy23_0 rfl rfl rfl rfl rfl rfl) rfl Xo) (by kernel_rfl) (by decide) (apF fl_str sl59 (Cy49_37.st (tr4 p66 p80 p87 p90) rfl) A90.rd rfl rfl rfl rfl rfl rfl rfl (fun v94 s94 p94 A94 => ?_))
     refine asg' v94 rfl (dn ?_)
     exact Kj64 _ _ _ ⟨s94, _, v94, rfl, (ue rfl rfl), (K84.st (Xw p87 p90 p94) rfl), A94⟩
    refine sr (Xc rfl (Xc rfl (dn (jc (fun (y97 : (List ByteArray)) e w => ∃ (s : St) (e0 : Env) (vy97_0 : Value), w = s.w ∧ e = upd e0 3 vy97_0 ∧ Kp s0 s ∧ OwF (Kd.sl 9 Kd.str) s [vy97_0] y97 42) (fun Gj97 Kj97 => ?_) ?_))))
    ·
     refine cd rfl (fun h98 => ?_) (fun h98 => ?_)
     ·
      refine zdraw [[], [], [1], [2], [], [4], [5, 3], [], [7], [8, 6], [3, 6, 9], [0, 10, 9], [11, 11, 0, 1, 2, 3, 4, 5, 6, 7, 8, 9, 10, 11]] [some 51, some 52, some 53, some 54, some 55, some 56, some 57, some 58, some 59, some 60, some 61, some 62, some 3] [[3], [1], [52], [53], [1], [55], [56], [1], [58], [59], [54, 57, 60], [51, 61], [62]] [0, 1, 2, 3, 4, 5, 6, 7, 8, 9, 10, 11, 12] ⟨by kernel_rfl, by kernel_rfl, by kernel_rfl⟩ (by kernel_rfl) (fun s99 p99 l99 tb99 zd99 => ?_)
      refine zstep 3 [some 59, some 58, some 56, some 55, some 51] tb99 (((((((zd99.add 0 51 vy23_0 rfl).add 1 52 (pO b5 4) rfl).add 2 53 (.agg #[(iI a0.Key.Kind), (iI a0.Key.N), w0_0, w0_1]) rfl).add 4 55 (pO b5 8) rfl).add 5 56 (.agg #[(iI a0.To.Kind), (iI a0.To.N), w0_2, w0_3]) rfl).add 7 58 (pO b5 3) rfl).add 8 59 (iI a0.N) rfl) (Xb (ld_q' (By49_b5.st p99 rfl) u3 rfl) rfl (Xb (Xz fa35_3 rfl) rfl (Xb (lda_q (es := [(iI a0.To.Kind), (iI a0.To.N), w0_2, w0_3]) (By49_b5.st p99 rfl) u26 z26 rfl rfl rfl rfl rfl rfl rfl rfl) rfl (Xb (Xz fa35_5 rfl) rfl (Xb (lda_q (es := [(iI a0.Key.Kind), (iI a0.Key.N), w0_0, w0_1]) (By49_b5.st p99 rfl) u26 z26 rfl rfl rfl rfl rfl rfl rfl rfl) rfl (Xb (Xz fa35_4 rfl) rfl (Xb (mv_q vy23_0 rfl rfl rfl rfl rfl rfl) rfl Xo))))))) (by kernel_rfl) rfl (fun l110 e110 zd110 => ?_)
      have K114 := Ky49.st p99 rfl
      refine clV 52 rfl func27 rfl (impl_itemText.calls a0.Key s99.w (mm [0] s99) w0_0 w0_1 (AG.kp K114) ((Xh (s := s99) A0_0).sub (D := [0]) rfl) (A0_1.kp K114)) (fun r116 s117 p117 n117 => ?_)
      refine zdone (L' := [8, 7, 5, 4, 0]) (D' := [1, 2, 3]) zd110 rfl rfl rfl (fun zd118 => ?_)
      refine zstep 6 [some 59, some 58, some 51] tb99 zd118 (Xb (ld_q' (By49_b5.st (Xk p99 p117) rfl) u3 rfl) rfl (Xb (Xz fa35_3 rfl) rfl (Xb (lda_q (es := [(iI a0.To.Kind), (iI a0.To.N), w0_2, w0_3]) (By49_b5.st (Xk p99 p117) rfl) u26 z26 rfl rfl rfl rfl rfl rfl rfl rfl) rfl (Xb (Xz fa35_5 rfl) rfl (Xb (mv_q vy23_0 rfl rfl rfl rfl rfl rfl) rfl Xo))))) (by kernel_rfl) rfl (fun l119 e119 zd119 => ?_)
      have K122 := K114.st p117 rfl
      refine clV 53 rfl func27 rfl (impl_itemText.calls a0.To s117.w (mm [0] s117) w0_2 w0_3 (AG.kp K122) ((Xh (s := s117) A0_2).sub (D := [0]) rfl) (A0_3.kp K122)) (fun r124 s125 p125 n125 => ?_)
      refine zdone (L' := [8, 7, 0]) (D' := [4, 5, 6, 1, 2, 3]) zd119 rfl rfl rfl (fun zd126 => ?_)
      refine zstep 9 [some 51] tb99 zd126 (Xb (ld_q' (By49_b5.st (Xw p99 p117 p125) rfl) u3 rfl) rfl (Xb (Xz fa35_3 rfl) rfl (Xb (mv_q vy23_0 rfl rfl rfl rfl rfl rfl) rfl Xo))) (by kernel_rfl) rfl (fun l127 e127 zd127 => ?_)
      have K129 := K122.st p125 rfl
      refine clV 54 rfl func62 rfl (strconv_Itoa.calls a0.N s125.w (mm [0] s125) (AG.kp K129)) (fun r130 s131 p131 n131 => ?_)
      refine zdone (L' := [0]) (D' := [7, 8, 9, 4, 5, 6, 1, 2, 3]) zd127 rfl rfl rfl (fun zd132 => ?_)
      refine zstep 10 [some 51] tb99 zd132 (Xb (mv_q vy23_0 rfl rfl rfl rfl rfl rfl) rfl Xo) (by kernel_rfl) rfl (fun l133 e133 zd133 => ?_)
      refine ltF' (K := Kd.str) (cells := [(.string r116), (.string r124), (.string r130)]) [r116, r124, r130] 55 fl_str u59 z9 o9 (fun w => (Xv _ _ _)) rfl rfl (fun v134 s134 p134 A134 => ?_)
      refine zdone (L' := [0]) (D' := [10, 7, 8, 9, 4, 5, 6, 1, 2, 3]) zd133 rfl rfl rfl (fun zd136 => ?_)
      refine zfin [11, 12] tb99 zd136 (Xb (mv_q vy23_0 rfl rfl rfl rfl rfl rfl) rfl Xo) (by kernel_rfl) (by decide) (apF fl_str sl59 (Cy49_37.st (tr5 p99 p117 p125 p131 p134) rfl) A134.rd rfl rfl rfl rfl rfl rfl rfl (fun v138 s138 p138 A138 => ?_))
      refine asg' v138 rfl (dn ?_)
      exact Kj97 _ _ _ ⟨s138, _, v138, rfl, (ue rfl rfl), (K129.st (Xw p131 p134 p138) rfl), A138⟩
     refine sr (Xc rfl (Xc rfl (dn (jc (fun (y141 : (List ByteArray)) e w => ∃ (s : St) (e0 : Env) (vy141_0 : Value), w = s.w ∧ e = upd e0 3 vy141_0 ∧ Kp s0 s ∧ OwF (Kd.sl 9 Kd.str) s [vy141_0] y141 42) (fun Gj141 Kj141 => ?_) ?_))))
     ·
      refine cd rfl (fun h142 => ?_) (fun h142 => ?_)
      ·
       refine zdraw [[], [], [1], [2], [], [4], [5, 3], [3, 6], [0, 7, 6], [8, 8, 0, 1, 2, 3, 4, 5, 6, 7, 8]] [some 65, some 66, some 67, some 68, some 69, some 70, some 71, some 72, some 73, some 3] [[3], [1], [66], [67], [1], [69], [70], [68, 71], [65, 72], [73]] [0, 1, 2, 3, 4, 5, 6, 7, 8, 9] ⟨by kernel_rfl, by kernel_rfl, by kernel_rfl⟩ (by kernel_rfl) (fun s143 p143 l143 tb143 zd143 => ?_)
       refine zstep 3 [some 70, some 69, some 65] tb143 (((((zd143.add 0 65 vy23_0 rfl).add 1 66 (pO b5 4) rfl).add 2 67 (.agg #[(iI a0.Key.Kind), (iI a0.Key.N), w0_0, w0_1]) rfl).add 4 69 (pO b5 8) rfl).add 5 70 (.agg #[(iI a0.To.Kind), (iI a0.To.N), w0_2, w0_3]) rfl) (Xb (lda_q (es := [(iI a0.To.Kind), (iI a0.To.N), w0_2, w0_3]) (By49_b5.st p143 rfl) u26 z26 rfl rfl rfl rfl rfl rfl rfl rfl) rfl (Xb (Xz fa35_5 rfl) rfl (Xb (lda_q (es := [(iI a0.Key.Kind), (iI a0.Key.N), w0_0, w0_1]) (By49_b5.st p143 rfl) u26 z26 rfl rfl rfl rfl rfl rfl rfl rfl) rfl (Xb (Xz fa35_4 rfl) rfl (Xb (mv_q vy23_0 rfl rfl rfl rfl rfl rfl) rfl Xo))))) (by kernel_rfl) rfl (fun l151 e151 zd151 => ?_)
       have K154 := Ky49.st p143 rfl
       refine clV 56 rfl func27 rfl (impl_itemText.calls a0.Key s143.w (mm [0] s143) w0_0 w0_1 (AG.kp K154) ((Xh (s := s143) A0_0).sub (D := [0]) rfl) (A0_1.kp K154)) (fun r156 s157 p157 n157 => ?_)
       refine zdone (L' := [5, 4, 0]) (D' := [1, 2, 3]) zd151 rfl rfl rfl (fun zd158 => ?_)
       refine zstep 6 [some 65] tb143 zd158 (Xb (lda_q (es := [(iI a0.To.Kind), (iI a0.To.N), w0_2, w0_3]) (By49_b5.st (Xk p143 p157) rfl) u26 z26 rfl rfl rfl rfl rfl rfl rfl rfl) rfl (Xb (Xz fa35_5 rfl) rfl (Xb (mv_q vy23_0 rfl rfl rfl rfl rfl rfl) rfl Xo))) (by kernel_rfl) rfl (fun l159 e159 zd159 => ?_)
       have K161 := K154.st p157 rfl
       refine clV 57 rfl func27 rfl (impl_itemText.calls a0.To s157.w (mm [0] s157) w0_2 w0_3 (AG.kp K161) ((Xh (s := s157) A0_2).sub (D := [0]) rfl) (A0_3.kp K161)) (fun r163 s164 p164 n164 => ?_)
       refine zdone (L' := [0]) (D' := [4, 5, 6, 1, 2, 3]) zd159 rfl rfl rfl (fun zd165 => ?_)
       refine zstep 7 [some 65] tb143 zd165 (Xb (mv_q vy23_0 rfl rfl rfl rfl rfl rfl) rfl Xo) (by kernel_rfl) rfl (fun l166 e166 zd166 => ?_)
       refine ltF' (K := Kd.str) (cells := [(.string r156), (.string r163)]) [r156, r163] 58 fl_str u59 z9 o9 (fun w => (Xv _ _ _)) rfl rfl (fun v167 s167 p167 A167 => ?_)
       refine zdone (L' := [0]) (D' := [7, 4, 5, 6, 1, 2, 3]) zd166 rfl rfl rfl (fun zd169 => ?_)
       refine zfin [8, 9] tb143 zd169 (Xb (mv_q vy23_0 rfl rfl rfl rfl rfl rfl) rfl Xo) (by kernel_rfl) (by decide) (apF fl_str sl59 (Cy49_37.st (tr4 p143 p157 p164 p167) rfl) A167.rd rfl rfl rfl rfl rfl rfl rfl (fun v171 s171 p171 A171 => ?_))
       refine asg' v171 rfl (dn ?_)
       exact Kj141 _ _ _ ⟨s171, _, v171, rfl, (ue rfl rfl), (K161.st (Xw p164 p167 p171) rfl), A171⟩
      refine sq (sr (Xc rfl (Xc rfl (dn (jc (fun (y174 : Bool) e w => ∃ (s : St) (e0 : Env), w = s.w ∧ e = upd (upd (upd (upd e0 1 (pB b5)) 3 vy23_0) 20 (iI a0.Kind)) 74 (.bool y174) ∧ Kp s0 s ∧ BlF s b5 35 [(iI a0.Kind), (iI a0.Seat), (iI a0.Level), (iI a0.N), (iI a0.Key.Kind), (iI a0.Key.N), w0_0, w0_1, (iI a0.To.Kind), (iI a0.To.N), w0_2, w0_3, (iI a0.Value.Kind), (iI a0.Value.N), w0_4, w0_5, w0_6] 40 ∧ OwF (Kd.sl 9 Kd.str) s [vy23_0] y23 42) (fun Gj174 Kj174 => ?_) ?_)))))
      ·
       refine cd rfl (fun h175 => ?_) (fun h175 => ?_)
       ·
        exact sk (Kj174 _ _ _ ⟨s51, _, rfl, (ue (ue (ue (ue rfl rfl) rfl) rfl) rfl), Ky49, By49_b5, Cy49_37⟩)
       exact rg (Xc rfl (Xc rfl (dn (Kj174 _ _ _ ⟨s51, _, rfl, (ue (ue (ue (ue rfl rfl) rfl) rfl) rfl), Ky49, By49_b5, Cy49_37⟩))))
      rintro y174 _ _ ⟨s176, _, rfl, rfl, Ky174, By174_b5, Cy174_37⟩
      refine jc (fun (y178 : (List ByteArray)) e w => ∃ (s : St) (e0 : Env) (vy178_0 : Value), w = s.w ∧ e = upd e0 3 vy178_0 ∧ Kp s0 s ∧ OwF (Kd.sl 9 Kd.str) s [vy178_0] y178 42) (fun Gj178 Kj178 => ?_) ?_
      ·
       refine cd rfl (fun h179 => ?_) (fun h179 => ?_)
       ·
        refine rg (mv' vy23_0 rfl (Xt fa35_3 rfl (ld' By174_b5 u3 rfl (clV 59 rfl func62 rfl (strconv_Itoa.calls a0.N s176.w (mm [0] s176) (AG.kp Ky174)) (fun r180 s181 p181 n181 => ?_)))))
        refine ltF' (K := Kd.str) (cells := [(.string r180)]) [r180] 60 fl_str u59 z9 o9 (fun w => (Xv _ _ _)) rfl rfl (fun v182 s182 p182 A182 => ?_)
        refine apF fl_str sl59 (Cy174_37.st (Xk p181 p182) rfl) A182.rd rfl rfl rfl rfl rfl rfl rfl (fun v185 s185 p185 A185 => ?_)
        refine asg' v185 rfl (dn ?_)
        exact Kj178 _ _ _ ⟨s185, _, v185, rfl, (ue rfl rfl), (Ky174.st (Xw p181 p182 p185) rfl), A185⟩
       refine sr (Xc rfl (Xc rfl (dn (jc (fun (y188 : (List ByteArray)) e w => ∃ (s : St) (e0 : Env) (vy188_0 : Value), w = s.w ∧ e = upd e0 3 vy188_0 ∧ Kp s0 s ∧ OwF (Kd.sl 9 Kd.str) s [vy188_0] y188 42) (fun Gj188 Kj188 => ?_) ?_))))
       ·
        refine cd rfl (fun h189 => ?_) (fun h189 => ?_)
        ·
         refine sr (Xt fa35_7 rfl (ld' By174_b5 u33 rfl ?_))
         have A190 := (z.rd h0_6).kp Ky174
         refine ln A190 u33 rfl rfl rfl rfl rfl rfl (Xc rfl (dn (jc (fun (y191 : (List ByteArray)) e w => ∃ (s : St) (e0 : Env) (vy191_0 : Value), w = s.w ∧ e = upd e0 3 vy191_0 ∧ Kp s0 s ∧ OwF (Kd.sl 9 Kd.str) s [vy191_0] y191 42) (fun Gj191 Kj191 => ?_) ?_)))
         ·
          refine cd rfl (fun h192 => ?_) (fun h192 => ?_)
          ·
           refine rg (mv' vy23_0 rfl (Xt fa35_7 rfl (ld' By174_b5 u33 rfl (clV 61 rfl func72 rfl (impl_keepText.calls a0.Keep s176.w (mm [0] s176) w0_6 A190) (fun r193 s194 p194 n194 => ?_)))))
           refine ltF' (K := Kd.str) (cells := [(.string r193)]) [r193] 62 fl_str u59 z9 o9 (fun w => (Xv _ _ _)) rfl rfl (fun v195 s195 p195 A195 => ?_)
           refine apF fl_str sl59 (Cy174_37.st (Xk p194 p195) rfl) A195.rd rfl rfl rfl rfl rfl rfl rfl (fun v198 s198 p198 A198 => ?_)
           refine asg' v198 rfl (dn ?_)
           exact Kj191 _ _ _ ⟨s198, _, v198, rfl, (ue rfl rfl), (Ky174.st (Xw p194 p195 p198) rfl), A198⟩
          exact sk (Kj191 _ _ _ ⟨s176, _, vy23_0, rfl, (ue rfl rfl), Ky174, Cy174_37⟩)
         rintro y191 _ _ ⟨s201, _, vy191_0, rfl, rfl, Ky191, Ay191_0⟩
         exact Kj188 _ _ _ ⟨s201, _, vy191_0, rfl, (ue rfl rfl), Ky191, Ay191_0⟩
        exact sk (Kj188 _ _ _ ⟨s176, _, vy23_0, rfl, (ue rfl rfl), Ky174, Cy174_37⟩)
       rintro y188 _ _ ⟨s203, _, vy188_0, rfl, rfl, Ky188, Ay188_0⟩
       exact Kj178 _ _ _ ⟨s203, _, vy188_0, rfl, (ue rfl rfl), Ky188, Ay188_0⟩
      rintro y178 _ _ ⟨s205, _, vy178_0, rfl, rfl, Ky178, Ay178_0⟩
      exact Kj141 _ _ _ ⟨s205, _, vy178_0, rfl, (ue rfl rfl), Ky178, Ay178_0⟩
     rintro y141 _ _ ⟨s207, _, vy141_0, rfl, rfl, Ky141, Ay141_0⟩
     exact Kj97 _ _ _ ⟨s207, _, vy141_0, rfl, (ue rfl rfl), Ky141, Ay141_0⟩
    rintro y97 _ _ ⟨s209, _, vy97_0, rfl, rfl, Ky97, Ay97_0⟩
    exact Kj64 _ _ _ ⟨s209, _, vy97_0, rfl, (ue rfl rfl), Ky97, Ay97_0⟩
   rintro y64 _ _ ⟨s211, _, vy64_0, rfl, rfl, Ky64, Ay64_0⟩
   exact Kj53 _ _ _ ⟨s211, _, vy64_0, rfl, (ue rfl rfl), Ky64, Ay64_0⟩
  rintro y53 _ _ ⟨s213, _, vy53_0, rfl, rfl, Ky53, Ay53_0⟩
  exact Kj39 _ _ _ ⟨s213, _, vy53_0, rfl, (ue rfl rfl), Ky53, Ay53_0⟩
 rintro y39 _ _ ⟨s215, _, vy39_0, rfl, rfl, Ky39, Ay39_0⟩
 refine ib (sr (mv' vy39_0 rfl (clV 63 rfl func73 rfl (strings_Join.calls y39 (⟨#[32]⟩ : ByteArray) s215.w (mm [42] s215) vy39_0 Ay39_0.rd) (fun r217 s218 p218 n218 => ?_))))
 refine Xc rfl (dn ?_)
 exact re rfl func34 rfl (r_t rfl Xg) rfl ⟨_, rfl, rfl, z.ky (Ky39.st p218 rfl)⟩
def impl_OpText.f (a0 : Op) : Option ((List Int)) :=
 ((impl_OpOk.f a0).bind fun r12 => (if (!r12) = true then (some ([] : (List Int))) else ((impl_opText.f a0).bind fun r22 => (if r22.size ≤ Lim then (some (bts r22)) else none))))
def impl_OpText.Q (w : World) (F : Nat → Prop) (r : (List Int)) (v : Value) (w' : World) : Prop :=
 FO Ya w w' [v] r ∧ Ky [] w w'
theorem impl_OpText.calls (a0 : Op) (w : World) (F : Nat → Prop) (w0_0 : Value) (w0_1 : Value) (w0_2 : Value) (w0_3 : Value) (w0_4 : Value) (w0_5 : Value) (w0_6 : Value) (hG : GT.rd w [] () F) (h0_0 : Kd.flt.rd w [w0_0] a0.Key.F F) (h0_1 : Ya.rd w [w0_1] a0.Key.T F) (h0_2 : Kd.flt.rd w [w0_2] a0.To.F F) (h0_3 : Ya.rd w [w0_3] a0.To.T F) (h0_4 : Kd.flt.rd w [w0_4] a0.Value.F F) (h0_5 : Ya.rd w [w0_5] a0.Value.T F) (h0_6 : (Kd.sl 4 Kd.bool).rd w [w0_6] a0.Keep F) (r : (List Int)) (m : impl_OpText.f a0 = some r) :
  Calls prog 12 #[(.agg #[(iI a0.Kind), (iI a0.Seat), (iI a0.Level), (iI a0.N), (iI a0.Key.Kind), (iI a0.Key.N), w0_0, w0_1, (iI a0.To.Kind), (iI a0.To.N), w0_2, w0_3, (iI a0.Value.Kind), (iI a0.Value.N), w0_4, w0_5, w0_6])] w (RT (impl_OpText.Q w F) r) := by
 obtain ⟨s0, rfl, kp0, z⟩ := Xq w F
 have A0_0 := fl_of h0_0
 have A0_1 := z.rd h0_1
 have A0_2 := fl_of h0_2
 have A0_3 := z.rd h0_3
 have A0_4 := fl_of h0_4
 have A0_5 := z.rd h0_5
 have A0_6 := z.rd h0_6
 refine Xd (args := [(.agg #[(iI a0.Kind), (iI a0.Seat), (iI a0.Level), (iI a0.N), (iI a0.Key.Kind), (iI a0.Key.N), w0_0, w0_1, (iI a0.To.Kind), (iI a0.To.N), w0_2, w0_3, (iI a0.Value.Kind), (iI a0.Value.N), w0_4, w0_5, w0_6])]) func12 ntmps12 rfl rfl m ?_
 unfold impl_OpText.f
 refine sr (bx (cs := [(iI a0.Kind), (iI a0.Seat), (iI a0.Level), (iI a0.N), (iI a0.Key.Kind), (iI a0.Key.N), w0_0, w0_1, (iI a0.To.Kind), (iI a0.To.N), w0_2, w0_3, (iI a0.Value.Kind), (iI a0.Value.N), w0_4, w0_5, w0_6]) 40 rfl rfl rfl rfl rfl rfl (fun b5 s5 p5 B5 => ?_))
 refine Xc rfl (dn (sq (sr (lda' (es := [(iI a0.Kind), (iI a0.Seat), (iI a0.Level), (iI a0.N), (iI a0.Key.Kind), (iI a0.Key.N), w0_0, w0_1, (iI a0.To.Kind), (iI a0.To.N), w0_2, w0_3, (iI a0.Value.Kind), (iI a0.Value.N), w0_4, w0_5, w0_6]) B5 u35 z35 rfl ?_))))
 have K7 := kp0.st p5 rfl
 refine clV 41 rfl func33 rfl (impl_OpOk.calls a0 s5.w (mm [0] s5) w0_0 w0_1 w0_2 w0_3 w0_4 w0_5 w0_6 ((Xh (s := s5) A0_0).sub (D := [0]) rfl) (A0_1.kp K7) ((Xh (s := s5) A0_2).sub (D := [0]) rfl) (A0_3.kp K7) ((Xh (s := s5) A0_4).sub (D := [0]) rfl) (A0_5.kp K7) (A0_6.kp K7)) (fun r12 s13 p13 n13 => ?_)
 refine Xc rfl (dn (cd rfl (fun h14 => ?_) (fun h14 => ?_)))
 ·
  refine sr (Xc rfl (dn ?_))
  have K15 := K7.st p13 rfl
  exact re rfl func12 rfl (r_t rfl Xg) rfl ⟨_, rfl, (Xu 5 (Kd.int .u8) s13 40).fo K15 rfl z.l, z.ky K15⟩
 refine sk (sr ?_)
 refine lda' (es := [(iI a0.Kind), (iI a0.Seat), (iI a0.Level), (iI a0.N), (iI a0.Key.Kind), (iI a0.Key.N), w0_0, w0_1, (iI a0.To.Kind), (iI a0.To.N), w0_2, w0_3, (iI a0.Value.Kind), (iI a0.Value.N), w0_4, w0_5, w0_6]) (B5.st p13 rfl) u35 z35 rfl ?_
 have K17 := K7.st p13 rfl
 refine clV 42 rfl func34 rfl (impl_opText.calls a0 s13.w (mm [0] s13) w0_0 w0_1 w0_2 w0_3 w0_4 w0_5 w0_6 ((z.rd hG).kp K17) ((Xh (s := s13) A0_0).sub (D := [0]) rfl) (A0_1.kp K17) ((Xh (s := s13) A0_2).sub (D := [0]) rfl) (A0_3.kp K17) ((Xh (s := s13) A0_4).sub (D := [0]) rfl) (A0_5.kp K17) (A0_6.kp K17)) (fun r22 s23 p23 n23 => ?_)
 refine s2b 43 u9 u22 u5 rfl rfl rfl rfl rfl rfl (fun v24 s24 p24 A24 => ?_)
 refine asg' v24 rfl (dn ?_)
 have K26 := K17.st (Xk p23 p24) rfl
 exact re rfl func12 rfl (r_t rfl Xg) rfl ⟨_, rfl, A24.fo K26 rfl z.l, z.ky K26⟩
section
open Go.Shelf
shelf_lay Lays.n146 Nm 146 at Tryz as lay_split
theorem split_max : lay_split_ren.g 1 = gMax := by kernel_rfl
theorem split_info : (Tryz.prog.info? (lay_split_ren.t 9)).map (fun i => (i.zero, i.size, i.bytes)) = some (some (.string ByteArray.empty), 1, 16) := by kernel_rfl
def strings_Split.f (a0 a1 : ByteArray) : Option (List ByteArray) := if a0.size < 4294967281 ∧ 1 ≤ a1.size then some (Lib.splitB a1 0 (Lib.countB a0 a1) a0) else none
def strings_Split.Q (w : World) (F : Nat → Prop) (r : List ByteArray) (v : Value) (w' : World) : Prop := FO (Kd.sl 9 Kd.str) w w' [v] r ∧ Ky [] w w'
theorem strings_Split.calls (a0 a1 : ByteArray) (w : World) (F : Nat → Prop) (hG : GV.rd w [] () F) (r : List ByteArray) (m : strings_Split.f a0 a1 = some r) :
    Calls Tryz.prog 35 #[.string a0, .string a1] w (RT (strings_Split.Q w F) r) := by
  unfold strings_Split.f at m
  split at m
  · rename_i h
    obtain ⟨_, ⟨_, mm, hm⟩, _⟩ := hG
    cases m
    have hle := Lib.countB_le a1 h.2 a0.size a0 (Nat.le_refl _)
    have hlen := Lib.splitB_all a1 h.2 0 _ a0 rfl
    refine Calls.mono (Any.strings_Split lay_split split_info a0 a1 mm w h.1 (by rw [split_max]; exact hm) h.2) fun e w' ⟨he, hw⟩ => ⟨_, he, ?_⟩
    rw [hw]
    exact fo_strs w _ _ hlen (by simp only [maxLen]; omega)
  · cases m
end

def slices_Index_string_string.b0 (a0 : (List ByteArray)) (a1 : ByteArray) (x2 : Int) : Option (Int ⊕ Int) :=
 (if (decide (x2 < (a0.length : Int))) = true then (if 0 ≤ x2 ∧ x2 < (a0.length : Int) then (if (a1.toList == (at_ a0 x2).toList) = true then (some (Sum.inr x2)) else (some (Sum.inl (IntKind.wrap .i64 (x2 + (1 : Int)))))) else none) else ((some (-1 : Int)).bind fun o => some (Sum.inr o)))
def slices_Index_string_string.f (a0 : (List ByteArray)) (a1 : ByteArray) : Option (Int) :=
 (iter (slices_Index_string_string.b0 a0 a1) (0 : Int))
def slices_Index_string_string.Q (w : World) (F : Nat → Prop) (r : Int) (v : Value) (w' : World) : Prop :=
 v = (iI r) ∧ Ky [] w w'
theorem slices_Index_string_string.calls (a0 : (List ByteArray)) (a1 : ByteArray) (w : World) (F : Nat → Prop) (w0_0 : Value) (h0_0 : (Kd.sl 9 Kd.str).rd w [w0_0] a0 F) (r : Int) (m : slices_Index_string_string.f a0 a1 = some r) :
  Calls prog 36 #[w0_0, (.string a1)] w (RT (slices_Index_string_string.Q w F) r) := by
 obtain ⟨s0, rfl, kp0, z⟩ := Xq w F
 have A0_0 := z.rd h0_0
 refine Xd (args := [w0_0, (.string a1)]) func36 ntmps36 rfl rfl m ?_
 unfold slices_Index_string_string.f
 refine sr (Xc rfl (dn (sq (sr (mv' w0_0 rfl (ln A0_0 u59 rfl rfl rfl rfl rfl rfl (Xc rfl (dn (bl (lpI (fun (x2 : Int) e w => ∃ (s : St) (e0 : Env), w = s.w ∧ e = upd (upd (upd (upd e0 0 w0_0) 1 (.string a1)) 7 (iI (a0.length : Int))) 8 (iI x2) ∧ Kp s0 s) ⟨s0, _, rfl, (ue (ue (ue (ue rfl rfl) rfl) rfl) rfl), kp0⟩ (fun g2 ih2 => ?_)))))))))))
 rintro x2 _ _ ⟨s3, _, rfl, rfl, Kx2⟩
 unfold slices_Index_string_string.b0
 refine sr (Xc rfl (dn (sq (cd rfl (fun h4 => ?_) (fun h4 => ?_)))))
 ·
  refine sk (sq (bl (sr (Xc rfl (Xc rfl (dn (sr (Xc rfl (mv' w0_0 rfl (Xc rfl ?_))))))))))
  refine ix (A0_0.kp Kx2) u59 z9 rfl rfl rfl rfl rfl rfl rfl rfl (fun ad6 es6 h0_6 h1_6 he6 ce6 ia6 => ?_)
  obtain rfl := he6
  refine lc0 ce6 u9 rfl rfl rfl rfl rfl rfl rfl rfl (Xc rfl (dn (cd rfl (fun h8 => ?_) (fun h8 => ?_))))
  ·
   exact sr (Xc rfl (Xc rfl (dn (sgi (re rfl func36 rfl (r_t rfl Xg) rfl ⟨_, rfl, rfl, z.ky Kx2⟩)))))
  exact sk (ib (rg (Xc rfl (Xc rfl (dn (lb ih2 ⟨s3, _, rfl, (ue (ue (ue (ue rfl rfl) rfl) rfl) rfl), Kx2⟩))))))
 exact xt rfl (sgb (sr (Xc rfl (dn (re rfl func36 rfl (r_t rfl Xg) rfl ⟨_, rfl, rfl, z.ky Kx2⟩)))))
def impl_opWords_next.f (a0 : opWords) : Option (ByteArray × opWords) :=
 (if ((a0.list.length : Int) == (0 : Int)) = true then (some ((⟨#[]⟩ : ByteArray), (opWords.mk a0.list true))) else (if 0 ≤ (0 : Int) ∧ (0 : Int) < (a0.list.length : Int) then (if 0 ≤ (1 : Int) ∧ (1 : Int) ≤ (a0.list.length : Int) then (some ((at_ a0.list (0 : Int)), (opWords.mk (a0.list.drop ((1 : Int)).toNat) a0.bad))) else none) else none))
def impl_opWords_next.Q (w : World) (F : Nat → Prop) (p0 : Nat) (w0_0 : Value) (r : ByteArray × opWords) (v : Value) (w' : World) : Prop :=
 ∃ (u0_0 : Value), v = (.string r.1) ∧ BlW w' p0 65 [u0_0, (.bool r.2.bad)] ∧ FRF (Kd.sl 9 Kd.str) F w w' [u0_0] r.2.list ∧ Ky [p0] w w'
theorem impl_opWords_next.calls (a0 : opWords) (w : World) (F : Nat → Prop) (p0 : Nat) (w0_0 : Value) (h0_0 : (Kd.sl 9 Kd.str).rd w [w0_0] a0.list F) (hb0 : BlW w p0 65 [w0_0, (.bool a0.bad)]) (hF : ∀ b, F b → b ∉ [p0]) (r : ByteArray × opWords) (m : impl_opWords_next.f a0 = some r) :
  Calls prog 75 #[(pB p0)] w (RT (impl_opWords_next.Q w F p0 w0_0) r) := by
 obtain ⟨s0, rfl, kp0, z⟩ := start1 w F [p0] hF
 have A0_0 := z.rd h0_0
 have B0 := z.bl hb0 (by simp)
 refine Xd (args := [(pB p0)]) func75 ntmps75 rfl rfl m ?_
 unfold impl_opWords_next.f
 refine sr (Xc rfl (dn (sq (sr (Xc rfl (Xc rfl (Xt fa65_0 rfl (ld' B0 u59 rfl (ln A0_0 u59 rfl rfl rfl rfl rfl rfl (Xc rfl (dn (cd rfl (fun h3 => ?_) (fun h3 => ?_)))))))))))))
 ·
  refine sr (Xc rfl (Xc rfl (Xt fa65_1 rfl (sv' B0 z4 rfl rfl rfl (fun s4 p4 B4 => ?_)))))
  refine dn (sr (Xc rfl (dn ?_)))
  have K6 := kp0.st p4 rfl
  exact re rfl func75 rfl (r_t rfl Xg) rfl ⟨_, rfl, w0_0, rfl, B4.w, (z.rf K6 A0_0), z.ky K6⟩
 refine sk (sr (Xc rfl (Xc rfl (Xt fa65_0 rfl (ld' B0 u59 rfl (ix A0_0 u59 z9 rfl rfl rfl rfl rfl rfl rfl rfl (fun ad7 es7 h0_7 h1_7 he7 ce7 ia7 => ?_)))))))
 obtain rfl := he7
 refine lc0 ce7 u9 rfl rfl rfl rfl rfl rfl rfl rfl (Xc rfl (dn (sr (Xc rfl (Xc rfl (Xc rfl (Xt fa65_0 rfl (ld' B0 u59 rfl (slaF A0_0 (z.rf kp0 A0_0) u59 z9 rfl rfl rfl rfl rfl rfl rfl (fun v9 A9 G9 => ?_))))))))))
 refine Xc rfl (Xt fa65_0 rfl (sv' B0 z59 rfl A9.one rfl (fun s11 p11 B11 => ?_)))
 refine dn (sr (Xc rfl (Xc rfl (dn ?_))))
 have K13 := kp0.st p11 rfl
 exact re rfl func75 rfl (r_t rfl Xg) rfl ⟨_, rfl, v9, rfl, B11.w, (FRF.kp G9 (fun b => (z.z b).1) kp0 K13), z.ky K13⟩
def impl_opWords_number.f (a0 : opWords) : Option (Int × opWords) :=
 ((impl_opWords_next.f a0).bind fun r3 => ((strconv_Atoi.f r3.1).bind fun r8 => (some (r8.1, (opWords.mk r3.2.list (r3.2.bad || (!r8.2)))))))
def impl_opWords_number.Q (w : World) (F : Nat → Prop) (p0 : Nat) (w0_0 : Value) (r : Int × opWords) (v : Value) (w' : World) : Prop :=
 ∃ (u0_0 : Value), v = (iI r.1) ∧ BlW w' p0 65 [u0_0, (.bool r.2.bad)] ∧ FRF (Kd.sl 9 Kd.str) F w w' [u0_0] r.2.list ∧ Ky [p0] w w'
theorem impl_opWords_number.calls (a0 : opWords) (w : World) (F : Nat → Prop) (p0 : Nat) (w0_0 : Value) (hG : GU.rd w [] () F) (h0_0 : (Kd.sl 9 Kd.str).rd w [w0_0] a0.list F) (hb0 : BlW w p0 65 [w0_0, (.bool a0.bad)]) (hF : ∀ b, F b → b ∉ [p0]) (r : Int × opWords) (m : impl_opWords_number.f a0 = some r) :
  Calls prog 39 #[(pB p0)] w (RT (impl_opWords_number.Q w F p0 w0_0) r) := by
 obtain ⟨s0, rfl, kp0, z⟩ := start1 w F [p0] hF
 have B0 := z.bl hb0 (by simp)
 refine Xd (args := [(pB p0)]) func39 ntmps39 rfl rfl m ?_
 unfold impl_opWords_number.f
 refine sr (Xc rfl (dn (sr (Xc rfl (cl' rfl func75 rfl (impl_opWords_next.calls a0 s0.w (fun b => F b ∧ b < s0.w.heap.size) p0 w0_0 (z.rf kp0 (z.rd h0_0)) B0.w (fun b hb => hF b hb.1)) ?_)))))
 rintro r3 _ w3 m3 ⟨u3_0, rfl, bw3, uf3_0, ky3⟩
 obtain ⟨s4, rfl, p4, n4, g4⟩ := nwb 40 B0 ky3
 have K7 := kp0.st p4 rfl
 refine cl' rfl func65 rfl (strconv_Atoi.calls r3.1 s4.w (mm [0] s4) ((z.rd hG).kp K7)) ?_
 rintro r8 _ w8 m8 ⟨v8_0, rfl, f8_0, ky8⟩
 obtain ⟨s9, rfl, p9, n9⟩ := nwx s4 w8 41 ky8
 refine Xc rfl (Xc (v := (iI r8.1)) rfl (Xc (v := v8_0) rfl (Xc rfl (asg' v8_0 rfl (dn (sr (Xc rfl (Xc rfl (Xc rfl (Xt fa65_1 rfl ?_))))))))))
 have A10 := BlF.st (Xy bw3 g4) p9 rfl
 refine ld' A10 u4 rfl (Xc rfl (jy [16, 17, 18, 19] [9, 10, 11] 19 (.bool (r3.2.bad || (!r8.2))) rfl (fun Kg11 => ?_) (fun j11 => ?_)))
 ·
  rcases bft r3.2.bad with hb11 | hb11
  ·
   exact sbT hb11 (Xj rfl (Xj rfl (Xc rfl (Kg11 _ (Ag.put ((Ag.put ((Ag.put (Ag.base rfl) rfl)) rfl)) rfl) (by rw [hb11]; rfl)))))
  exact sbT hb11 (mv' v8_0 rfl (ernon f8_0 u87 rfl rfl rfl rfl rfl rfl rfl (Xc rfl (Kg11 _ (Ag.put ((Ag.put ((Ag.put (Ag.base rfl) rfl)) rfl)) rfl) (by rw [hb11]; rfl)))))
 refine Xc rfl (Xt fa65_1 rfl (sv' A10 z4 rfl rfl rfl (fun s12 p12 B12 => ?_)))
 refine dn (sr (Xc rfl (Xc rfl (dn ?_))))
 have K14 := K7.st (Xk p9 p12) rfl
 exact re rfl func39 rfl (r_t rfl Xg) rfl ⟨_, rfl, u3_0, rfl, B12.w, (FRF.kp (FRF.up uf3_0) (fun b => (z.z b).1) K7 K14), z.ky K14⟩
def impl_opWords_item.f (a0 : opWords) : Option (Item × opWords) :=
 ((impl_opWords_next.f a0).bind fun r7 => ((impl_readText.f r7.1).bind fun r13 => (some (r13.1, (opWords.mk r7.2.list (r7.2.bad || (!r13.2)))))))
def impl_opWords_item.Q (w : World) (F : Nat → Prop) (p0 : Nat) (w0_0 : Value) (r : Item × opWords) (v : Value) (w' : World) : Prop :=
 ∃ (v0 : Value) (v1 : Value) (u0_0 : Value), v = (.agg #[(iI r.1.Kind), (iI r.1.N), v0, v1]) ∧ FO kd26 w w' [(iI r.1.Kind), (iI r.1.N), v0, v1] r.1 ∧ BlW w' p0 65 [u0_0, (.bool r.2.bad)] ∧ FRF (Kd.sl 9 Kd.str) F w w' [u0_0] r.2.list ∧ Ky [p0] w w'
theorem impl_opWords_item.calls (a0 : opWords) (w : World) (F : Nat → Prop) (p0 : Nat) (w0_0 : Value) (hG : GU.rd w [] () F) (h0_0 : (Kd.sl 9 Kd.str).rd w [w0_0] a0.list F) (hb0 : BlW w p0 65 [w0_0, (.bool a0.bad)]) (hF : ∀ b, F b → b ∉ [p0]) (r : Item × opWords) (m : impl_opWords_item.f a0 = some r) :
  Calls prog 40 #[(pB p0)] w (RT (impl_opWords_item.Q w F p0 w0_0) r) := by
 obtain ⟨s0, rfl, kp0, z⟩ := start1 w F [p0] hF
 refine Xd (args := [(pB p0)]) func40 ntmps40 rfl rfl m ?_
 unfold impl_opWords_item.f
 refine sr (al (cs := [(iI 0), (iI 0), (.float .f64 0), (.slice none 0 0)]) 40 rfl rfl rfl rfl rfl o26 rfl (fun b3 s3 p3 B3 => ?_))
 refine dn (sr (Xc rfl ?_))
 have K5 := kp0.st p3 rfl
 have A8 := BlF.st (z.bl hb0 (by simp)) p3 rfl
 refine cl' rfl func75 rfl (impl_opWords_next.calls a0 s3.w (fun b => F b ∧ b < s0.w.heap.size) p0 w0_0 (z.rf K5 (z.rd h0_0)) A8.w (fun b hb => hF b hb.1)) ?_
 rintro r7 _ w7 m7 ⟨u7_0, rfl, bw7, uf7_0, ky7⟩
 obtain ⟨s9, rfl, p9, n9, g9⟩ := nwb 41 A8 ky7
 have K12 := K5.st p9 rfl
 refine cl' rfl func28 rfl (impl_readText.calls r7.1 s9.w (mm [0] s9) ((z.rd hG).kp K12)) ?_
 rintro r13 _ w13 m13 ⟨v13_0, v13_1, rfl, f13_0, ky13⟩
 obtain ⟨s14, rfl, p14, n14⟩ := nwx s9 w13 42 ky13
 obtain ⟨hu13_0_0, Au13_0_1⟩ := ap26 (f13_0.c n14)
 refine Xc rfl (Xc (v := (.agg #[(iI r13.1.Kind), (iI r13.1.N), v13_0, v13_1])) rfl (Xc (v := (.bool r13.2)) rfl (al (cs := [(iI 0), (iI 0), (.float .f64 0), (.slice none 0 0)]) 43 rfl rfl rfl rfl rfl o26 rfl (fun b16 s16 p16 B16 => ?_))))
 have A18 := Au13_0_1.st p16 rfl
 refine Xx (vs := [(iI r13.1.Kind), (iI r13.1.N), v13_0, v13_1]) B16 z26 rfl (Xa rfl (Xa rfl (Xa (FL.one hu13_0_0) (Xa A18.rd.one Xi)))) rfl (fun s19 p19 B19 => ?_)
 refine Xc rfl (dn (sr (Xc rfl (Xc rfl (Xc rfl (Xt fa65_1 rfl ?_))))))
 have A21 := BlF.st (Xy bw7 g9) (Xw p14 p16 p19) rfl
 refine ld' A21 u4 rfl (Xc rfl (jy [16, 17, 18, 19] [9, 10, 11] 19 (.bool (r7.2.bad || (!r13.2))) rfl (fun Kg22 => ?_) (fun j22 => ?_)))
 ·
  rcases bft r7.2.bad with hb22 | hb22
  ·
   exact sbT hb22 (Xj rfl (Xj rfl (Xc rfl (Kg22 _ (Ag.put ((Ag.put ((Ag.put (Ag.base rfl) rfl)) rfl)) rfl) (by rw [hb22]; rfl)))))
  exact sbT hb22 (Xc rfl (Xc rfl (Xc rfl (Kg22 _ (Ag.put ((Ag.put ((Ag.put (Ag.base rfl) rfl)) rfl)) rfl) (by rw [hb22]; rfl)))))
 refine Xc rfl (Xt fa65_1 rfl (sv' A21 z4 rfl rfl rfl (fun s23 p23 B23 => ?_)))
 refine dn (sr ?_)
 refine lda' (es := [(iI r13.1.Kind), (iI r13.1.N), v13_0, v13_1]) (B19.st p23 rfl) u26 z26 rfl ?_
 have A27 := A18.st (Xk p19 p23) rfl
 refine Xx (vs := [(iI r13.1.Kind), (iI r13.1.N), v13_0, v13_1]) (B3.st (tr5 p9 p14 p16 p19 p23) rfl) z26 rfl (Xa rfl (Xa rfl (Xa (FL.one hu13_0_0) (Xa A27.rd.one Xi)))) rfl (fun s28 p28 B28 => ?_)
 refine dn ?_
 have A30 : OwF kd26 s28 [(iI r13.1.Kind), (iI r13.1.N), v13_0, v13_1] r13.1 42 := (Xs (fun x : Item => (x.Kind, x.N, x.F, x.T)) r13.1 (Xn (Xe .i64 r13.1.Kind) (Xn (Xe .i64 r13.1.N) (Xn (Xp hu13_0_0) (A27.st p28 rfl)))))
 have K33 := K12.st (tr5 p14 p16 p19 p23 p28) rfl
 exact re rfl func40 rfl (r_b B28 u26 rfl z26 rfl Xg) rfl ⟨_, rfl, v13_0, v13_1, u7_0, rfl, A30.fo K33 rfl z.l, (BlF.w (B23.st p28 rfl)), (FRF.kp (FRF.up uf7_0) (fun b => (z.z b).1) K12 K33), z.ky K33⟩
def impl_opWords_keep.b0 (r4 : ByteArray × opWords) (x11 : (List Bool) × Nat) : Option (((List Bool) × Nat) ⊕ ((List Bool) × opWords)) :=
 (if (decide (x11.2 < r4.1.size)) = true then (if x11.2 < r4.1.size then (if x11.1.length + ([((((Utf8.decode r4.1 x11.2).1 : Nat) : Int) == (49 : Int))]).length ≤ Lim then (some (Sum.inl ((x11.1 ++ [((((Utf8.decode r4.1 x11.2).1 : Nat) : Int) == (49 : Int))]), (nxo r4.1 x11.2)))) else none) else none) else ((some (x11.1, r4.2)).bind fun o => some (Sum.inr o)))
def impl_opWords_keep.f (a0 : opWords) : Option ((List Bool) × opWords) :=
 (if ((a0.list.length : Int) == (0 : Int)) = true then (some (([] : (List Bool)), a0)) else ((impl_opWords_next.f a0).bind fun r4 => (iter (impl_opWords_keep.b0 r4) (([] : (List Bool)), (0 : Nat)))))
def impl_opWords_keep.Q (w : World) (F : Nat → Prop) (p0 : Nat) (w0_0 : Value) (r : (List Bool) × opWords) (v : Value) (w' : World) : Prop :=
 ∃ (u0_0 : Value), FO (Kd.sl 4 Kd.bool) w w' [v] r.1 ∧ BlW w' p0 65 [u0_0, (.bool r.2.bad)] ∧ FRF (Kd.sl 9 Kd.str) F w w' [u0_0] r.2.list ∧ Ky [p0] w w'
theorem impl_opWords_keep.calls (a0 : opWords) (w : World) (F : Nat → Prop) (p0 : Nat) (w0_0 : Value) (h0_0 : (Kd.sl 9 Kd.str).rd w [w0_0] a0.list F) (hb0 : BlW w p0 65 [w0_0, (.bool a0.bad)]) (hF : ∀ b, F b → b ∉ [p0]) (r : (List Bool) × opWords) (m : impl_opWords_keep.f a0 = some r) :
  Calls prog 41 #[(pB p0)] w (RT (impl_opWords_keep.Q w F p0 w0_0) r) := by
 obtain ⟨s0, rfl, kp0, z⟩ := start1 w F [p0] hF
 have A0_0 := z.rd h0_0
 have B0 := z.bl hb0 (by simp)
 refine Xd (args := [(pB p0)]) func41 ntmps41 rfl rfl m ?_
 unfold impl_opWords_keep.f
 refine sr (Xc rfl (dn (sq (sr (Xc rfl (Xc rfl (Xt fa65_0 rfl (ld' B0 u59 rfl (ln A0_0 u59 rfl rfl rfl rfl rfl rfl (Xc rfl (dn (cd rfl (fun h3 => ?_) (fun h3 => ?_)))))))))))))
 ·
  exact sr (Xc rfl (dn (re rfl func41 rfl (r_t rfl Xg) rfl ⟨_, rfl, w0_0, (Xu 4 Kd.bool s0 40).fo kp0 rfl z.l, B0.w, (z.rf kp0 A0_0), z.ky kp0⟩)))
 refine sk (sr (Xc rfl (dn (sq (sr (Xc rfl (cl' rfl func75 rfl (impl_opWords_next.calls a0 s0.w (fun b => F b ∧ b < s0.w.heap.size) p0 w0_0 (z.rf kp0 A0_0) B0.w (fun b hb => hF b hb.1)) ?_)))))))
 rintro r4 _ w4 m4 ⟨u4_0, rfl, bw4, uf4_0, ky4⟩
 obtain ⟨s5, rfl, p5, n5, g5⟩ := nwb 40 B0 ky4
 have Gu5_0 := FRF.up uf4_0
 have K8 := kp0.st p5 rfl
 refine mks 41 u9 rfl rfl rfl rfl rfl rfl (fun b9 s9 p9 B9 => ?_)
 refine dn (bl ?_)
 have K13 := K8.st p9 rfl
 refine lpI (fun (x11 : (List Bool) × Nat) e w => ∃ (s : St) (e0 : Env) (vx11_0 : Value), w = s.w ∧ e = upd (upd e0 3 vx11_0) 14 (pB b9) ∧ Kp s0 s ∧ OwF (Kd.sl 4 Kd.bool) s [vx11_0] x11.1 43 ∧ BlF s p0 65 [u4_0, (.bool r4.2.bad)] 2 ∧ SitF s b9 r4.1 x11.2 41 ∧ RdF (Kd.sl 9 Kd.str) s [u4_0] r4.2.list [0]) ⟨s9, _, (.slice none 0 0), rfl, (ue (ue rfl rfl) rfl), K13, (Xu 4 Kd.bool _ 43), (BlF.st (Xy bw4 g5) p9 rfl), B9, (FRF.rd (FRF.kp Gu5_0 (fun b => (z.z b).1) K8 K13) (fun b => (z.z b).1) K13)⟩ (fun g11 ih11 => ?_)
 rintro x11 _ _ ⟨s15, _, vx11_0, rfl, rfl, Kx11, Ax11_0, Bx11_p0, Bx11_b9, Cx11_7⟩
 unfold impl_opWords_keep.b0
 refine sr (nxs Bx11_b9 rfl rfl rfl rfl rfl rfl rfl (fun v19 s19 p19 N19 B19 => ?_))
 refine ex0 N19 rfl rfl rfl rfl rfl rfl (dn (sq (cd rfl (fun h21 => ?_) (fun h21 => ?_))))
 ·
  refine sk (bl (sr (ex2 N19 rfl rfl rfl rfl rfl rfl (Xc rfl (dn (rg (mv' vx11_0 rfl (Xc rfl (Xc rfl (ltF' (K := Kd.bool) (cells := [(.bool ((((Utf8.decode r4.1 x11.2).1 : Nat) : Int) == (49 : Int)))]) [((((Utf8.decode r4.1 x11.2).1 : Nat) : Int) == (49 : Int))] 44 fl_bool u33 z4 o4 (fun w => (Xv _ _ _)) rfl rfl (fun v22 s22 p22 A22 => ?_)))))))))))
  refine apF fl_bool sl33 (Ax11_0.st (Xk p19 p22) rfl) A22.rd rfl rfl rfl rfl rfl rfl rfl (fun v25 s25 p25 A25 => ?_)
  refine asg' v25 rfl (dn (ib ?_))
  have K29 := Kx11.st (Xw p19 p22 p25) rfl
  exact lb ih11 ⟨s25, _, v25, rfl, (ue (ue rfl rfl) rfl), K29, A25, (Bx11_p0.st (Xw p19 p22 p25) rfl), (SitF.st (SitF.st B19 p22 rfl) p25 rfl), (FRF.rd (FRF.kp Gu5_0 (fun b => (z.z b).1) K8 K29) (fun b => (z.z b).1) K29)⟩
 refine xt rfl (sgb (sr (mv' vx11_0 rfl (asg' vx11_0 rfl (dn ?_)))))
 have K32 := Kx11.st p19 rfl
 exact re rfl func41 rfl (r_t rfl Xg) rfl ⟨_, rfl, u4_0, (Ax11_0.st p19 rfl).fo K32 rfl z.l, (BlF.w (Bx11_p0.st p19 rfl)), (FRF.kp Gu5_0 (fun b => (z.z b).1) K8 K32), z.ky K32⟩
def impl_OpRead.f (a0 : (List Int)) : Option (Op × Bool) :=
 (if (decide ((a0.length : Int) > (20000 : Int))) = true then (some ((Op.mk (0 : Int) (0 : Int) (0 : Int) (0 : Int) (Item.mk (0 : Int) (0 : Int) (0 : Nat) ([] : (List Int))) (Item.mk (0 : Int) (0 : Int) (0 : Nat) ([] : (List Int))) (Item.mk (0 : Int) (0 : Int) (0 : Nat) ([] : (List Int))) ([] : (List Bool))), false)) else ((strings_Split.f (str a0) (⟨#[32]⟩ : ByteArray)).bind fun r12 => (if 0 ≤ (0 : Int) ∧ (0 : Int) < (r12.length : Int) then (((impl_opNames.f).bind fun r25 => ((slices_Index_string_string.f r25 (at_ r12 (0 : Int))).bind fun r33 => (some r33))).bind fun y22 => (if 0 ≤ (1 : Int) ∧ (1 : Int) ≤ (r12.length : Int) then ((impl_within.f y22 (1 : Int) (13 : Int)).bind fun r97 => (if (!r97) = true then (some ((Op.mk (0 : Int) (0 : Int) (0 : Int) (0 : Int) (Item.mk (0 : Int) (0 : Int) (0 : Nat) ([] : (List Int))) (Item.mk (0 : Int) (0 : Int) (0 : Nat) ([] : (List Int))) (Item.mk (0 : Int) (0 : Int) (0 : Nat) ([] : (List Int))) ([] : (List Bool))), false)) else ((if (decide (y22 ≤ (8 : Int))) = true then ((impl_opWords_number.f (opWords.mk (r12.drop ((1 : Int)).toNat) false)).bind fun r111 => (some (r111.2.list, r111.2.bad, r111.1))) else (some ((r12.drop ((1 : Int)).toNat), false, (0 : Int)))).bind fun y107 => ((if (y22 == (1 : Int)) = true then ((impl_opWords_number.f (opWords.mk y107.1 y107.2.1)).bind fun r134 => (some (r134.2.list, r134.2.bad, r134.1, (0 : Int), (0 : Int), (0 : Int), (0 : Nat), ([] : (List Int)), (0 : Int), (0 : Int), (0 : Nat), ([] : (List Int)), (0 : Int), (0 : Int), (0 : Nat), ([] : (List Int)), ([] : (List Bool))))) else ((if (y22 == (2 : Int)) = true then (some (y22 == (2 : Int))) else (some (y22 == (4 : Int)))).bind fun y145 => ((if y145 = true then ((impl_opWords_item.f (opWords.mk y107.1 y107.2.1)).bind fun r153 => (some (r153.2.list, r153.2.bad, (0 : Int), r153.1.Kind, r153.1.N, r153.1.F, r153.1.T, (0 : Int), (0 : Int), (0 : Nat), ([] : (List Int)), (0 : Int), (0 : Int), (0 : Nat), ([] : (List Int)), ([] : (List Bool))))) else ((if (y22 == (3 : Int)) = true then ((impl_opWords_item.f (opWords.mk y107.1 y107.2.1)).bind fun r170 => ((impl_opWords_item.f r170.2).bind fun r176 => (some (r176.2.list, r176.2.bad, (0 : Int), r170.1.Kind, r170.1.N, r170.1.F, r170.1.T, (0 : Int), (0 : Int), (0 : Nat), ([] : (List Int)), r176.1.Kind, r176.1.N, r176.1.F, r176.1.T, ([] : (List Bool)))))) else ((if (y22 == (5 : Int)) = true then ((impl_opWords_item.f (opWords.mk y107.1 y107.2.1)).bind fun r200 => ((impl_opWords_item.f r200.2).bind fun r206 => ((impl_opWords_number.f r206.2).bind fun r212 => (some (r212.2.list, r212.2.bad, r212.1, r200.1.Kind, r200.1.N, r200.1.F, r200.1.T, r206.1.Kind, r206.1.N, r206.1.F, r206.1.T, ([] : (List Bool))))))) else ((if (y22 == (6 : Int)) = true then ((impl_opWords_item.f (opWords.mk y107.1 y107.2.1)).bind fun r237 => ((impl_opWords_item.f r237.2).bind fun r243 => (some (r243.2.list, r243.2.bad, (0 : Int), r237.1.Kind, r237.1.N, r237.1.F, r237.1.T, r243.1.Kind, r243.1.N, r243.1.F, r243.1.T, ([] : (List Bool)))))) else ((if (y22 == (11 : Int)) = true then (some (y22 == (11 : Int))) else (some (y22 == (12 : Int)))).bind fun y261 => ((if y261 = true then ((impl_opWords_number.f (opWords.mk y107.1 y107.2.1)).bind fun r269 => (some (r269.2.list, r269.2.bad, r269.1, ([] : (List Bool))))) else ((if (y22 == (13 : Int)) = true then ((impl_opWords_keep.f (opWords.mk y107.1 y107.2.1)).bind fun r282 => (some (r282.2.list, r282.2.bad, r282.1))) else (some (y107.1, y107.2.1, ([] : (List Bool))))).bind fun y280 => (some (y280.1, y280.2.1, (0 : Int), y280.2.2)))).bind fun y267 => (some (y267.1, y267.2.1, y267.2.2.1, (0 : Int), (0 : Int), (0 : Nat), ([] : (List Int)), (0 : Int), (0 : Int), (0 : Nat), ([] : (List Int)), y267.2.2.2))))).bind fun y235 => (some (y235.1, y235.2.1, y235.2.2.1, y235.2.2.2.1, y235.2.2.2.2.1, y235.2.2.2.2.2.1, y235.2.2.2.2.2.2.1, y235.2.2.2.2.2.2.2.1, y235.2.2.2.2.2.2.2.2.1, y235.2.2.2.2.2.2.2.2.2.1, y235.2.2.2.2.2.2.2.2.2.2.1, y235.2.2.2.2.2.2.2.2.2.2.2)))).bind fun y198 => (some (y198.1, y198.2.1, y198.2.2.1, y198.2.2.2.1, y198.2.2.2.2.1, y198.2.2.2.2.2.1, y198.2.2.2.2.2.2.1, y198.2.2.2.2.2.2.2.1, y198.2.2.2.2.2.2.2.2.1, y198.2.2.2.2.2.2.2.2.2.1, y198.2.2.2.2.2.2.2.2.2.2.1, (0 : Int), (0 : Int), (0 : Nat), ([] : (List Int)), y198.2.2.2.2.2.2.2.2.2.2.2)))).bind fun y168 => (some (y168.1, y168.2.1, y168.2.2.1, y168.2.2.2.1, y168.2.2.2.2.1, y168.2.2.2.2.2.1, y168.2.2.2.2.2.2.1, y168.2.2.2.2.2.2.2.1, y168.2.2.2.2.2.2.2.2.1, y168.2.2.2.2.2.2.2.2.2.1, y168.2.2.2.2.2.2.2.2.2.2.1, y168.2.2.2.2.2.2.2.2.2.2.2.1, y168.2.2.2.2.2.2.2.2.2.2.2.2.1, y168.2.2.2.2.2.2.2.2.2.2.2.2.2.1, y168.2.2.2.2.2.2.2.2.2.2.2.2.2.2.1, y168.2.2.2.2.2.2.2.2.2.2.2.2.2.2.2)))).bind fun y151 => (some (y151.1, y151.2.1, (0 : Int), y151.2.2.1, y151.2.2.2.1, y151.2.2.2.2.1, y151.2.2.2.2.2.1, y151.2.2.2.2.2.2.1, y151.2.2.2.2.2.2.2.1, y151.2.2.2.2.2.2.2.2.1, y151.2.2.2.2.2.2.2.2.2.1, y151.2.2.2.2.2.2.2.2.2.2.1, y151.2.2.2.2.2.2.2.2.2.2.2.1, y151.2.2.2.2.2.2.2.2.2.2.2.2.1, y151.2.2.2.2.2.2.2.2.2.2.2.2.2.1, y151.2.2.2.2.2.2.2.2.2.2.2.2.2.2.1, y151.2.2.2.2.2.2.2.2.2.2.2.2.2.2.2))))).bind fun y132 => ((if y132.2.1 = true then (some true) else ((impl_OpOk.f (Op.mk y22 y107.2.2 y132.2.2.1 y132.2.2.2.1 (Item.mk y132.2.2.2.2.1 y132.2.2.2.2.2.1 y132.2.2.2.2.2.2.1 y132.2.2.2.2.2.2.2.1) (Item.mk y132.2.2.2.2.2.2.2.2.1 y132.2.2.2.2.2.2.2.2.2.1 y132.2.2.2.2.2.2.2.2.2.2.1 y132.2.2.2.2.2.2.2.2.2.2.2.1) (Item.mk y132.2.2.2.2.2.2.2.2.2.2.2.2.1 y132.2.2.2.2.2.2.2.2.2.2.2.2.2.1 y132.2.2.2.2.2.2.2.2.2.2.2.2.2.2.1 y132.2.2.2.2.2.2.2.2.2.2.2.2.2.2.2.1) y132.2.2.2.2.2.2.2.2.2.2.2.2.2.2.2.2)).bind fun r390 => (some (!r390)))).bind fun y389 => ((if y389 = true then (some true) else ((impl_opText.f (Op.mk y22 y107.2.2 y132.2.2.1 y132.2.2.2.1 (Item.mk y132.2.2.2.2.1 y132.2.2.2.2.2.1 y132.2.2.2.2.2.2.1 y132.2.2.2.2.2.2.2.1) (Item.mk y132.2.2.2.2.2.2.2.2.1 y132.2.2.2.2.2.2.2.2.2.1 y132.2.2.2.2.2.2.2.2.2.2.1 y132.2.2.2.2.2.2.2.2.2.2.2.1) (Item.mk y132.2.2.2.2.2.2.2.2.2.2.2.2.1 y132.2.2.2.2.2.2.2.2.2.2.2.2.2.1 y132.2.2.2.2.2.2.2.2.2.2.2.2.2.2.1 y132.2.2.2.2.2.2.2.2.2.2.2.2.2.2.2.1) y132.2.2.2.2.2.2.2.2.2.2.2.2.2.2.2.2)).bind fun r403 => (some (!(r403.toList == (str a0).toList))))).bind fun y402 => (if y402 = true then (some ((Op.mk (0 : Int) (0 : Int) (0 : Int) (0 : Int) (Item.mk (0 : Int) (0 : Int) (0 : Nat) ([] : (List Int))) (Item.mk (0 : Int) (0 : Int) (0 : Nat) ([] : (List Int))) (Item.mk (0 : Int) (0 : Int) (0 : Nat) ([] : (List Int))) ([] : (List Bool))), false)) else (some ((Op.mk y22 y107.2.2 y132.2.2.1 y132.2.2.2.1 (Item.mk y132.2.2.2.2.1 y132.2.2.2.2.2.1 y132.2.2.2.2.2.2.1 y132.2.2.2.2.2.2.2.1) (Item.mk y132.2.2.2.2.2.2.2.2.1 y132.2.2.2.2.2.2.2.2.2.1 y132.2.2.2.2.2.2.2.2.2.2.1 y132.2.2.2.2.2.2.2.2.2.2.2.1) (Item.mk y132.2.2.2.2.2.2.2.2.2.2.2.2.1 y132.2.2.2.2.2.2.2.2.2.2.2.2.2.1 y132.2.2.2.2.2.2.2.2.2.2.2.2.2.2.1 y132.2.2.2.2.2.2.2.2.2.2.2.2.2.2.2.1) y132.2.2.2.2.2.2.2.2.2.2.2.2.2.2.2.2), true))))))))) else none)) else none)))
def impl_OpRead.Q (w : World) (F : Nat → Prop) (r : Op × Bool) (v : Value) (w' : World) : Prop :=
 ∃ (v0 : Value) (v1 : Value) (v2 : Value) (v3 : Value) (v4 : Value) (v5 : Value) (v6 : Value), v = .tuple #[(.agg #[(iI r.1.Kind), (iI r.1.Seat), (iI r.1.Level), (iI r.1.N), (iI r.1.Key.Kind), (iI r.1.Key.N), v0, v1, (iI r.1.To.Kind), (iI r.1.To.N), v2, v3, (iI r.1.Value.Kind), (iI r.1.Value.N), v4, v5, v6]), (.bool r.2)] ∧ FO kd35 w w' [(iI r.1.Kind), (iI r.1.Seat), (iI r.1.Level), (iI r.1.N), (iI r.1.Key.Kind), (iI r.1.Key.N), v0, v1, (iI r.1.To.Kind), (iI r.1.To.N), v2, v3, (iI r.1.Value.Kind), (iI r.1.Value.N), v4, v5, v6] r.1 ∧ Ky [] w w'
theorem impl_OpRead.calls (a0 : (List Int)) (w : World) (F : Nat → Prop) (w0_0 : Value) (hG : GV.rd w [] () F) (h0_0 : Ya.rd w [w0_0] a0 F) (r : Op × Bool) (m : impl_OpRead.f a0 = some r) :
  Calls prog 13 #[w0_0] w (RT (impl_OpRead.Q w F) r) := by
 obtain ⟨s0, rfl, kp0, z⟩ := Xq w F
 have AG := z.rd hG
 refine Xd (args := [w0_0]) func13 ntmps13 rfl rfl m ?_
 unfold impl_OpRead.f
 refine sr (al (cs := [(iI 0), (iI 0), (iI 0), (iI 0), (iI 0), (iI 0), (.float .f64 0), (.slice none 0 0), (iI 0), (iI 0), (.float .f64 0), (.slice none 0 0), (iI 0), (iI 0), (.float .f64 0), (.slice none 0 0), (.slice none 0 0)]) 40 rfl rfl rfl rfl rfl o35 rfl (fun b2 s2 p2 B2 => ?_))
 refine Xc rfl (dn (sq (sr (mv' w0_0 rfl ?_))))
 have K4 := kp0.st p2 rfl
 have A5 := (z.rd h0_0).kp K4
 refine ln A5 u22 rfl rfl rfl rfl rfl rfl (Xc rfl (dn (cd rfl (fun h6 => ?_) (fun h6 => ?_))))
 ·
  refine sr (bd (cells := [(iI 0), (iI 0), (iI 0), (iI 0), (iI 0), (iI 0), (.float .f64 0), (.slice none 0 0), (iI 0), (iI 0), (.float .f64 0), (.slice none 0 0), (iI 0), (iI 0), (.float .f64 0), (.slice none 0 0), (.slice none 0 0)]) pl35 o35 rfl rfl rfl rfl rfl rfl (Xx (vs := [(iI 0), (iI 0), (iI 0), (iI 0), (iI 0), (iI 0), (.float .f64 0), (.slice none 0 0), (iI 0), (iI 0), (.float .f64 0), (.slice none 0 0), (iI 0), (iI 0), (.float .f64 0), (.slice none 0 0), (.slice none 0 0)]) B2 z35 rfl (Xa rfl (Xa rfl (Xa rfl (Xa rfl (Xa rfl (Xa rfl (Xa (FL.one (Xl rfl)) (Xa rfl (Xa rfl (Xa rfl (Xa (FL.one (Xl rfl)) (Xa rfl (Xa rfl (Xa rfl (Xa (FL.one (Xl rfl)) (Xa rfl (Xa rfl Xi))))))))))))))))) rfl (fun s7 p7 B7 => ?_)))
  replace B7 : BlF s7 b2 35 [(iI 0), (iI 0), (iI 0), (iI 0), (iI 0), (iI 0), (.float .f64 0), (.slice none 0 0), (iI 0), (iI 0), (.float .f64 0), (.slice none 0 0), (iI 0), (iI 0), (.float .f64 0), (.slice none 0 0), (.slice none 0 0)] 40 := B7
  refine Xc rfl (dn ?_)
  have A9 : OwF kd35 s7 [(iI 0), (iI 0), (iI 0), (iI 0), (iI 0), (iI 0), (.float .f64 0), (.slice none 0 0), (iI 0), (iI 0), (.float .f64 0), (.slice none 0 0), (iI 0), (iI 0), (.float .f64 0), (.slice none 0 0), (.slice none 0 0)] (Op.mk (0 : Int) (0 : Int) (0 : Int) (0 : Int) (Item.mk (0 : Int) (0 : Int) (0 : Nat) ([] : (List Int))) (Item.mk (0 : Int) (0 : Int) (0 : Nat) ([] : (List Int))) (Item.mk (0 : Int) (0 : Int) (0 : Nat) ([] : (List Int))) ([] : (List Bool))) 41 := ow_z _ _ (fz_iso (fun x : Op => (x.Kind, x.Seat, x.Level, x.N, x.Key, x.To, x.Value, x.Keep)) (Op.mk (0 : Int) (0 : Int) (0 : Int) (0 : Int) (Item.mk (0 : Int) (0 : Int) (0 : Nat) ([] : (List Int))) (Item.mk (0 : Int) (0 : Int) (0 : Nat) ([] : (List Int))) (Item.mk (0 : Int) (0 : Int) (0 : Nat) ([] : (List Int))) ([] : (List Bool))) (Xf (Xe .i64 (0 : Int)) (Xf (Xe .i64 (0 : Int)) (Xf (Xe .i64 (0 : Int)) (Xf (Xe .i64 (0 : Int)) (Xf (fz_iso (fun x : Item => (x.Kind, x.N, x.F, x.T)) (Item.mk (0 : Int) (0 : Int) (0 : Nat) ([] : (List Int))) (Xf (Xe .i64 (0 : Int)) (Xf (Xe .i64 (0 : Int)) (Xf (Xp (Xl rfl)) (fz_nil 5 (Kd.int .u8)))))) (Xf (fz_iso (fun x : Item => (x.Kind, x.N, x.F, x.T)) (Item.mk (0 : Int) (0 : Int) (0 : Nat) ([] : (List Int))) (Xf (Xe .i64 (0 : Int)) (Xf (Xe .i64 (0 : Int)) (Xf (Xp (Xl rfl)) (fz_nil 5 (Kd.int .u8)))))) (Xf (fz_iso (fun x : Item => (x.Kind, x.N, x.F, x.T)) (Item.mk (0 : Int) (0 : Int) (0 : Nat) ([] : (List Int))) (Xf (Xe .i64 (0 : Int)) (Xf (Xe .i64 (0 : Int)) (Xf (Xp (Xl rfl)) (fz_nil 5 (Kd.int .u8)))))) (fz_nil 4 Kd.bool)))))))))
  have K11 := K4.st p7 rfl
  exact re rfl func13 rfl (r_b B7 u35 rfl z35 rfl (r_t rfl Xg)) rfl ⟨_, rfl, (.float .f64 0), (.slice none 0 0), (.float .f64 0), (.slice none 0 0), (.float .f64 0), (.slice none 0 0), (.slice none 0 0), rfl, A9.fo K11 rfl z.l, z.ky K11⟩
 refine sk (sr (mv' w0_0 rfl (b2s A5 u22 u9 u5 rfl rfl rfl rfl rfl rfl (Xc rfl (dn (sr (Xc rfl (cl' rfl func35 rfl (strings_Split.calls (str a0) (⟨#[32]⟩ : ByteArray) s2.w (mm [0] s2) (AG.kp K4)) ?_))))))))
 rintro r12 v12_0 w12 m12 ⟨f12_0, ky12⟩
 obtain ⟨s13, rfl, p13, n13⟩ := nwx s2 w12 42 ky12
 refine asg' v12_0 rfl (dn (sq (zdraw [[], [], [1], [2], [0, 3, 0], [4], [], [6, 5, 4, 0, 1, 2, 3, 4, 5, 6]] [some 16, some 17, some 18, some 19, some 20, some 21, some 6, none] [[], [5], [17], [18], [16, 19], [20], [], [6, 21]] [0, 1, 2, 3, 4, 5, 6, 7] ⟨by kernel_rfl, by kernel_rfl, by kernel_rfl⟩ (by kernel_rfl) (fun s15 p15 l15 tb15 zd15 => ?_))))
 have A17 := (f12_0.c n13).st p15 rfl
 refine mg fun hg18 => ?_
 obtain ⟨ad18, es18, he18, ce18, ia18⟩ := ix_e A17.rd rfl hg18.1 hg18.2
 obtain rfl := he18
 refine ji [7] (fun (y22 : Int) e w => ∃ (s : St) (e0 : Env) (by22_0 : Nat), w = s.w ∧ e = upd (upd (upd (upd (upd e0 2 (pB b2)) 4 (.string (str a0))) 5 v12_0) 6 (pB by22_0)) 21 (.agg #[(iI y22), (iI 0), (iI 0), (iI 0), (iI 0), (iI 0), (.float .f64 0), (.slice none 0 0), (iI 0), (iI 0), (.float .f64 0), (.slice none 0 0), (iI 0), (iI 0), (.float .f64 0), (.slice none 0 0), (.slice none 0 0)]) ∧ Kp s0 s ∧ BlF s b2 35 [(iI 0), (iI 0), (iI 0), (iI 0), (iI 0), (iI 0), (.float .f64 0), (.slice none 0 0), (iI 0), (iI 0), (.float .f64 0), (.slice none 0 0), (iI 0), (iI 0), (.float .f64 0), (.slice none 0 0), (.slice none 0 0)] 40 ∧ BlF s by22_0 35 [(iI 0), (iI 0), (iI 0), (iI 0), (iI 0), (iI 0), (.float .f64 0), (.slice none 0 0), (iI 0), (iI 0), (.float .f64 0), (.slice none 0 0), (iI 0), (iI 0), (.float .f64 0), (.slice none 0 0), (.slice none 0 0)] 43 ∧ OwF (Kd.sl 9 Kd.str) s [v12_0] r12 42) (fun Gj22 Kj22 => ?_) ?_
 ·
  refine zstep2 0 6 [some 19, some 18, some 17] [some 19, some 18, some 17] tb15 (((zd15.add 1 17 v12_0 rfl).add 2 18 (.pointer (some ad18)) rfl).add 3 19 (.string (at_ r12 (0 : Int))) rfl) (Xb (lc0_q ce18 u9 rfl rfl rfl rfl rfl rfl rfl rfl) rfl (Xb (ix_q A17.rd u59 z9 hg18.1 hg18.2 ia18 rfl rfl rfl rfl rfl rfl rfl) rfl (Xb (mv_q v12_0 rfl rfl rfl rfl rfl rfl) rfl Xo))) (by kernel_rfl) (by kernel_rfl) (fun l23 e23 zd23 => ?_) (fun l24 e24 zd24 => ?_)
  ·
   refine clO 44 rfl func37 rfl (impl_opNames.calls  s15.w (mm [] s15)) (fun r25 v25_0 s26 p26 A25_0 => ?_)
   refine zdone (L' := [3, 2, 1]) (D' := [0]) zd23 rfl rfl rfl (fun zd28 => ?_)
   have A31 := A17.st p26 rfl
   refine zstep2 4 6 [] [some 19, some 18, some 17] tb15 zd28 (Xb (lc0_q (ce18.st p26 rfl rfl) u9 rfl rfl rfl rfl rfl rfl rfl rfl) rfl (Xb (ix_q A31.rd u59 z9 hg18.1 hg18.2 ia18 rfl rfl rfl rfl rfl rfl rfl) rfl (Xb (mv_q v12_0 rfl rfl rfl rfl rfl rfl) rfl Xo))) (by kernel_rfl) (by kernel_rfl) (fun l29 e29 zd29 => ?_) (fun l30 e30 zd30 => ?_)
   ·
    refine clV 45 rfl func36 rfl (slices_Index_string_string.calls r25 (at_ r12 (0 : Int)) s26.w (mm [44] s26) v25_0 A25_0.rd) (fun r33 s34 p34 n34 => ?_)
    refine zdone (L' := []) (D' := [1, 2, 3, 4, 0]) zd29 rfl rfl rfl (fun zd35 => ?_)
    refine zstep 6 [some 21] tb15 (zd35.add 5 21 (.agg #[(iI r33), (iI 0), (iI 0), (iI 0), (iI 0), (iI 0), (.float .f64 0), (.slice none 0 0), (iI 0), (iI 0), (.float .f64 0), (.slice none 0 0), (iI 0), (iI 0), (.float .f64 0), (.slice none 0 0), (.slice none 0 0)]) rfl) (Xb (bd_q (cells := [(iI r33), (iI 0), (iI 0), (iI 0), (iI 0), (iI 0), (.float .f64 0), (.slice none 0 0), (iI 0), (iI 0), (.float .f64 0), (.slice none 0 0), (iI 0), (iI 0), (.float .f64 0), (.slice none 0 0), (.slice none 0 0)]) pl35 o35 rfl rfl rfl rfl rfl rfl) rfl Xo) (by kernel_rfl) rfl (fun l37 e37 zd37 => ?_)
    refine al (cs := [(iI 0), (iI 0), (iI 0), (iI 0), (iI 0), (iI 0), (.float .f64 0), (.slice none 0 0), (iI 0), (iI 0), (.float .f64 0), (.slice none 0 0), (iI 0), (iI 0), (.float .f64 0), (.slice none 0 0), (.slice none 0 0)]) 46 rfl rfl rfl rfl rfl o35 rfl (fun b38 s38 p38 B38 => ?_)
    refine zdone (L' := [5]) (D' := [6, 1, 2, 3, 4, 0]) zd37 rfl rfl rfl (fun zd40 => ?_)
    refine zfin [7] tb15 zd40 (Xb (bd_q (cells := [(iI r33), (iI 0), (iI 0), (iI 0), (iI 0), (iI 0), (.float .f64 0), (.slice none 0 0), (iI 0), (iI 0), (.float .f64 0), (.slice none 0 0), (iI 0), (iI 0), (.float .f64 0), (.slice none 0 0), (.slice none 0 0)]) pl35 o35 rfl rfl rfl rfl rfl rfl) rfl Xo) (by kernel_rfl) (by decide) ?_
    obtain ⟨s41, hw41, p41, D41⟩ := BlF.rc B38 43 rfl
    rw [hw41]
    exact Kj22 _ _ _ ⟨s41, _, b38, rfl, (ue (ue (ue (ue (ue rfl rfl) rfl) rfl) rfl) rfl), (K4.st (tr6 p13 p15 p26 p34 p38 p41) rfl), (B2.st (tr6 p13 p15 p26 p34 p38 p41) rfl), D41, (A31.st (Xw p34 p38 p41) rfl)⟩
   refine al (cs := [(iI 0), (iI 0), (iI 0), (iI 0), (iI 0), (iI 0), (.float .f64 0), (.slice none 0 0), (iI 0), (iI 0), (.float .f64 0), (.slice none 0 0), (iI 0), (iI 0), (.float .f64 0), (.slice none 0 0), (.slice none 0 0)]) 47 rfl rfl rfl rfl rfl o35 rfl (fun b46 s46 p46 B46 => ?_)
   refine zdone (L' := [3, 2, 1]) (D' := [6, 0]) zd30 rfl rfl rfl (fun zd48 => ?_)
   have A50 := A31.st p46 rfl
   refine zstep 4 [] tb15 zd48 (Xb (lc0_q (ce18.st (Xk p26 p46) rfl rfl) u9 rfl rfl rfl rfl rfl rfl rfl rfl) rfl (Xb (ix_q A50.rd u59 z9 hg18.1 hg18.2 ia18 rfl rfl rfl rfl rfl rfl rfl) rfl (Xb (mv_q v12_0 rfl rfl rfl rfl rfl rfl) rfl Xo))) (by kernel_rfl) rfl (fun l49 e49 zd49 => ?_)
   refine clV 48 rfl func36 rfl (slices_Index_string_string.calls r25 (at_ r12 (0 : Int)) s46.w (mm [44] s46) v25_0 (A25_0.st p46 rfl).rd) (fun r53 s54 p54 n54 => ?_)
   refine zdone (L' := []) (D' := [1, 2, 3, 4, 6, 0]) zd49 rfl rfl rfl (fun zd55 => ?_)
   refine zfin [7] tb15 (zd55.add 5 21 (.agg #[(iI r53), (iI 0), (iI 0), (iI 0), (iI 0), (iI 0), (.float .f64 0), (.slice none 0 0), (iI 0), (iI 0), (.float .f64 0), (.slice none 0 0), (iI 0), (iI 0), (.float .f64 0), (.slice none 0 0), (.slice none 0 0)]) rfl) (Xb (bd_q (cells := [(iI r53), (iI 0), (iI 0), (iI 0), (iI 0), (iI 0), (.float .f64 0), (.slice none 0 0), (iI 0), (iI 0), (.float .f64 0), (.slice none 0 0), (iI 0), (iI 0), (.float .f64 0), (.slice none 0 0), (.slice none 0 0)]) pl35 o35 rfl rfl rfl rfl rfl rfl) rfl Xo) (by kernel_rfl) (by decide) ?_
   obtain ⟨s58, hw58, p58, D58⟩ := BlF.rc (B46.st p54 rfl) 43 rfl
   rw [hw58]
   exact Kj22 _ _ _ ⟨s58, _, b46, rfl, (ue (ue (ue (ue (ue rfl rfl) rfl) rfl) rfl) rfl), (K4.st (tr6 p13 p15 p26 p46 p54 p58) rfl), (B2.st (tr6 p13 p15 p26 p46 p54 p58) rfl), D58, (A50.st (Xk p54 p58) rfl)⟩
  refine al (cs := [(iI 0), (iI 0), (iI 0), (iI 0), (iI 0), (iI 0), (.float .f64 0), (.slice none 0 0), (iI 0), (iI 0), (.float .f64 0), (.slice none 0 0), (iI 0), (iI 0), (.float .f64 0), (.slice none 0 0), (.slice none 0 0)]) 49 rfl rfl rfl rfl rfl o35 rfl (fun b63 s63 p63 B63 => ?_)
  refine zdone (L' := [3, 2, 1]) (D' := [6]) zd24 rfl rfl rfl (fun zd65 => ?_)
  have A67 := A17.st p63 rfl
  refine zstep 0 [some 19, some 18, some 17] tb15 zd65 (Xb (lc0_q (ce18.st p63 rfl rfl) u9 rfl rfl rfl rfl rfl rfl rfl rfl) rfl (Xb (ix_q A67.rd u59 z9 hg18.1 hg18.2 ia18 rfl rfl rfl rfl rfl rfl rfl) rfl (Xb (mv_q v12_0 rfl rfl rfl rfl rfl rfl) rfl Xo))) (by kernel_rfl) rfl (fun l66 e66 zd66 => ?_)
  refine clO 50 rfl func37 rfl (impl_opNames.calls  s63.w (mm [] s63)) (fun r69 v69_0 s70 p70 A69_0 => ?_)
  refine zdone (L' := [3, 2, 1]) (D' := [0, 6]) zd66 rfl rfl rfl (fun zd72 => ?_)
  have A74 := A67.st p70 rfl
  refine zstep 4 [] tb15 zd72 (Xb (lc0_q (ce18.st (Xk p63 p70) rfl rfl) u9 rfl rfl rfl rfl rfl rfl rfl rfl) rfl (Xb (ix_q A74.rd u59 z9 hg18.1 hg18.2 ia18 rfl rfl rfl rfl rfl rfl rfl) rfl (Xb (mv_q v12_0 rfl rfl rfl rfl rfl rfl) rfl Xo))) (by kernel_rfl) rfl (fun l73 e73 zd73 => ?_)
  refine clV 51 rfl func36 rfl (slices_Index_string_string.calls r69 (at_ r12 (0 : Int)) s70.w (mm [50] s70) v69_0 A69_0.rd) (fun r76 s77 p77 n77 => ?_)
  refine zdone (L' := []) (D' := [1, 2, 3, 4, 0, 6]) zd73 rfl rfl rfl (fun zd78 => ?_)
  refine zfin [7] tb15 (zd78.add 5 21 (.agg #[(iI r76), (iI 0), (iI 0), (iI 0), (iI 0), (iI 0), (.float .f64 0), (.slice none 0 0), (iI 0), (iI 0), (.float .f64 0), (.slice none 0 0), (iI 0), (iI 0), (.float .f64 0), (.slice none 0 0), (.slice none 0 0)]) rfl) (Xb (bd_q (cells := [(iI r76), (iI 0), (iI 0), (iI 0), (iI 0), (iI 0), (.float .f64 0), (.slice none 0 0), (iI 0), (iI 0), (.float .f64 0), (.slice none 0 0), (iI 0), (iI 0), (.float .f64 0), (.slice none 0 0), (.slice none 0 0)]) pl35 o35 rfl rfl rfl rfl rfl rfl) rfl Xo) (by kernel_rfl) (by decide) ?_
  obtain ⟨s81, hw81, p81, D81⟩ := BlF.rc (B63.st (Xk p70 p77) rfl) 43 rfl
  rw [hw81]
  exact Kj22 _ _ _ ⟨s81, _, b63, rfl, (ue (ue (ue (ue (ue rfl rfl) rfl) rfl) rfl) rfl), (K4.st (tr6 p13 p15 p63 p70 p77 p81) rfl), (B2.st (tr6 p13 p15 p63 p70 p77 p81) rfl), D81, (A74.st (Xk p77 p81) rfl)⟩
 rintro y22 _ _ ⟨s86, _, by22_0, rfl, rfl, Ky22, By22_b2, Dy22_0, Cy22_14⟩
 refine Xx (vs := [(iI y22), (iI 0), (iI 0), (iI 0), (iI 0), (iI 0), (.float .f64 0), (.slice none 0 0), (iI 0), (iI 0), (.float .f64 0), (.slice none 0 0), (iI 0), (iI 0), (.float .f64 0), (.slice none 0 0), (.slice none 0 0)]) Dy22_0 z35 rfl (Xa rfl (Xa rfl (Xa rfl (Xa rfl (Xa rfl (Xa rfl (Xa (FL.one (Xl rfl)) (Xa rfl (Xa rfl (Xa rfl (Xa (FL.one (Xl rfl)) (Xa rfl (Xa rfl (Xa rfl (Xa (FL.one (Xl rfl)) (Xa rfl (Xa rfl Xi))))))))))))))))) rfl (fun s89 p89 B89 => ?_)
 replace B89 : BlF s89 by22_0 35 [(iI y22), (iI 0), (iI 0), (iI 0), (iI 0), (iI 0), (.float .f64 0), (.slice none 0 0), (iI 0), (iI 0), (.float .f64 0), (.slice none 0 0), (iI 0), (iI 0), (.float .f64 0), (.slice none 0 0), (.slice none 0 0)] 43 := B89
 refine dn (sr (mv' v12_0 rfl ?_))
 refine sla (Cy22_14.st p89 rfl).rd u59 z9 rfl rfl rfl rfl rfl rfl rfl (fun v92 A92 => ?_)
 refine bd (cells := [v92, (.bool false)]) pl65 o65 rfl rfl rfl rfl rfl (lfill_pc (pc_c (oc A92.one) pc_n) rfl) (bx (cs := [v92, (.bool false)]) 52 rfl rfl rfl rfl rfl rfl (fun b94 s94 p94 B94 => ?_))
 refine Xc rfl (dn (sq (sr (Xt fa35_0 rfl ?_))))
 have A96 := B89.st p94 rfl
 refine ld' A96 u3 rfl (clV 53 rfl func38 rfl (impl_within.calls y22 (1 : Int) (13 : Int) s94.w (mm [] s94)) (fun r97 s98 p98 n98 => ?_))
 refine Xc rfl (dn (cd rfl (fun h99 => ?_) (fun h99 => ?_)))
 ·
  refine sr (bd (cells := [(iI 0), (iI 0), (iI 0), (iI 0), (iI 0), (iI 0), (.float .f64 0), (.slice none 0 0), (iI 0), (iI 0), (.float .f64 0), (.slice none 0 0), (iI 0), (iI 0), (.float .f64 0), (.slice none 0 0), (.slice none 0 0)]) pl35 o35 rfl rfl rfl rfl rfl rfl ?_)
  refine Xx (vs := [(iI 0), (iI 0), (iI 0), (iI 0), (iI 0), (iI 0), (.float .f64 0), (.slice none 0 0), (iI 0), (iI 0), (.float .f64 0), (.slice none 0 0), (iI 0), (iI 0), (.float .f64 0), (.slice none 0 0), (.slice none 0 0)]) (By22_b2.st (Xw p89 p94 p98) rfl) z35 rfl (Xa rfl (Xa rfl (Xa rfl (Xa rfl (Xa rfl (Xa rfl (Xa (FL.one (Xl rfl)) (Xa rfl (Xa rfl (Xa rfl (Xa (FL.one (Xl rfl)) (Xa rfl (Xa rfl (Xa rfl (Xa (FL.one (Xl rfl)) (Xa rfl (Xa rfl Xi))))))))))))))))) rfl (fun s101 p101 B101 => ?_)
  replace B101 : BlF s101 b2 35 [(iI 0), (iI 0), (iI 0), (iI 0), (iI 0), (iI 0), (.float .f64 0), (.slice none 0 0), (iI 0), (iI 0), (.float .f64 0), (.slice none 0 0), (iI 0), (iI 0), (.float .f64 0), (.slice none 0 0), (.slice none 0 0)] 40 := B101
  refine Xc rfl (dn ?_)
  have A103 : OwF kd35 s101 [(iI 0), (iI 0), (iI 0), (iI 0), (iI 0), (iI 0), (.float .f64 0), (.slice none 0 0), (iI 0), (iI 0), (.float .f64 0), (.slice none 0 0), (iI 0), (iI 0), (.float .f64 0), (.slice none 0 0), (.slice none 0 0)] (Op.mk (0 : Int) (0 : Int) (0 : Int) (0 : Int) (Item.mk (0 : Int) (0 : Int) (0 : Nat) ([] : (List Int))) (Item.mk (0 : Int) (0 : Int) (0 : Nat) ([] : (List Int))) (Item.mk (0 : Int) (0 : Int) (0 : Nat) ([] : (List Int))) ([] : (List Bool))) 54 := ow_z _ _ (fz_iso (fun x : Op => (x.Kind, x.Seat, x.Level, x.N, x.Key, x.To, x.Value, x.Keep)) (Op.mk (0 : Int) (0 : Int) (0 : Int) (0 : Int) (Item.mk (0 : Int) (0 : Int) (0 : Nat) ([] : (List Int))) (Item.mk (0 : Int) (0 : Int) (0 : Nat) ([] : (List Int))) (Item.mk (0 : Int) (0 : Int) (0 : Nat) ([] : (List Int))) ([] : (List Bool))) (Xf (Xe .i64 (0 : Int)) (Xf (Xe .i64 (0 : Int)) (Xf (Xe .i64 (0 : Int)) (Xf (Xe .i64 (0 : Int)) (Xf (fz_iso (fun x : Item => (x.Kind, x.N, x.F, x.T)) (Item.mk (0 : Int) (0 : Int) (0 : Nat) ([] : (List Int))) (Xf (Xe .i64 (0 : Int)) (Xf (Xe .i64 (0 : Int)) (Xf (Xp (Xl rfl)) (fz_nil 5 (Kd.int .u8)))))) (Xf (fz_iso (fun x : Item => (x.Kind, x.N, x.F, x.T)) (Item.mk (0 : Int) (0 : Int) (0 : Nat) ([] : (List Int))) (Xf (Xe .i64 (0 : Int)) (Xf (Xe .i64 (0 : Int)) (Xf (Xp (Xl rfl)) (fz_nil 5 (Kd.int .u8)))))) (Xf (fz_iso (fun x : Item => (x.Kind, x.N, x.F, x.T)) (Item.mk (0 : Int) (0 : Int) (0 : Nat) ([] : (List Int))) (Xf (Xe .i64 (0 : Int)) (Xf (Xe .i64 (0 : Int)) (Xf (Xp (Xl rfl)) (fz_nil 5 (Kd.int .u8)))))) (fz_nil 4 Kd.bool)))))))))
  have K105 := Ky22.st (tr4 p89 p94 p98 p101) rfl
  exact re rfl func13 rfl (r_b B101 u35 rfl z35 rfl (r_t rfl Xg)) rfl ⟨_, rfl, (.float .f64 0), (.slice none 0 0), (.float .f64 0), (.slice none 0 0), (.float .f64 0), (.slice none 0 0), (.slice none 0 0), rfl, A103.fo K105 rfl z.l, z.ky K105⟩
 refine sk (sq (sr (Xt fa35_0 rfl ?_)))
 have A106 := A96.st p98 rfl
 refine ld' A106 u3 rfl (Xc rfl (dn (jc (fun (y107 : (List ByteArray) × Bool × Int) e w => ∃ (s : St) (e0 : Env) (vy107_0 : Value), w = s.w ∧ e = upd (upd (upd (upd e0 2 (pB b2)) 4 (.string (str a0))) 6 (pB by22_0)) 7 (pB b94) ∧ Kp s0 s ∧ RdF (Kd.sl 9 Kd.str) s [vy107_0] y107.1 [42, 0] ∧ BlF s b94 65 [vy107_0, (.bool y107.2.1)] 52 ∧ BlF s by22_0 35 [(iI y22), (iI y107.2.2), (iI 0), (iI 0), (iI 0), (iI 0), (.float .f64 0), (.slice none 0 0), (iI 0), (iI 0), (.float .f64 0), (.slice none 0 0), (iI 0), (iI 0), (.float .f64 0), (.slice none 0 0), (.slice none 0 0)] 43 ∧ BlF s b2 35 [(iI 0), (iI 0), (iI 0), (iI 0), (iI 0), (iI 0), (.float .f64 0), (.slice none 0 0), (iI 0), (iI 0), (.float .f64 0), (.slice none 0 0), (iI 0), (iI 0), (.float .f64 0), (.slice none 0 0), (.slice none 0 0)] 40) (fun Gj107 Kj107 => ?_) ?_)))
 ·
  refine cd rfl (fun h108 => ?_) (fun h108 => ?_)
  ·
   refine rg (Xc rfl ?_)
   have K110 := Ky22.st (Xw p89 p94 p98) rfl
   have A112 := B94.st p98 rfl
   refine cl' rfl func39 rfl (impl_opWords_number.calls (opWords.mk (r12.drop ((1 : Int)).toNat) false) s98.w (mm [42, 0] s98) b94 v92 ((gv_gu (AG.kp K110)).sub (D := [42, 0]) rfl) ((A92.st (Xk p94 p98) rfl).sub (D := [42, 0]) rfl) A112.w (A112.apart rfl)) ?_
   rintro r111 _ w111 m111 ⟨u111_0, rfl, bw111, uf111_0, ky111⟩
   obtain ⟨s113, rfl, p113, n113, g113⟩ := nwb 55 A112 ky111
   have B113 := Xy bw111 g113
   have Au113_0 := FRF.c uf111_0 n113
   refine Xt fa35_1 rfl (sv' (A106.st p113 rfl) z3 rfl rfl rfl (fun s117 p117 B117 => ?_))
   replace B117 : BlF s117 by22_0 35 [(iI y22), (iI r111.1), (iI 0), (iI 0), (iI 0), (iI 0), (.float .f64 0), (.slice none 0 0), (iI 0), (iI 0), (.float .f64 0), (.slice none 0 0), (iI 0), (iI 0), (.float .f64 0), (.slice none 0 0), (.slice none 0 0)] 43 := B117
   exact dn (Kj107 _ _ _ ⟨s117, _, u111_0, rfl, (ue (ue (ue (ue rfl rfl) rfl) rfl) rfl), (K110.st (Xk p113 p117) rfl), (Au113_0.st p117 rfl), (B113.st p117 rfl), B117, (By22_b2.st (tr5 p89 p94 p98 p113 p117) rfl)⟩)
  exact sk (Kj107 _ _ _ ⟨s98, _, v92, rfl, (ue (ue (ue (ue rfl rfl) rfl) rfl) rfl), (Ky22.st (Xw p89 p94 p98) rfl), ((A92.st (Xk p94 p98) rfl).sub rfl), (B94.st p98 rfl), A106, (By22_b2.st (Xw p89 p94 p98) rfl)⟩)
 rintro y107 _ _ ⟨s127, _, vy107_0, rfl, rfl, Ky107, Ay107_0, By107_b94, By107_by22_0, By107_b2⟩
 refine sq (sr (Xt fa35_0 rfl (ld' By107_by22_0 u3 rfl (dn (bl (sr (Xc rfl (Xc rfl (dn (jc (fun (y132 : (List ByteArray) × Bool × Int × Int × Int × Int × Nat × (List Int) × Int × Int × Nat × (List Int) × Int × Int × Nat × (List Int) × (List Bool)) e w => ∃ (s : St) (e0 : Env) (vy132_0 vy132_1 vy132_2 vy132_3 vy132_4 uy132_0 uy132_1 uy132_2 : Value), w = s.w ∧ e = upd (upd (upd (upd e0 2 (pB b2)) 4 (.string (str a0))) 6 (pB by22_0)) 7 (pB b94) ∧ Kp s0 s ∧ RdF (Kd.sl 9 Kd.str) s [vy132_0] y132.1 [42, 0] ∧ OwF Ya s [vy132_1] y132.2.2.2.2.2.2.2.1 57 ∧ OwF Ya s [vy132_2] y132.2.2.2.2.2.2.2.2.2.2.2.1 61 ∧ OwF Ya s [vy132_3] y132.2.2.2.2.2.2.2.2.2.2.2.2.2.2.2.1 59 ∧ OwF (Kd.sl 4 Kd.bool) s [vy132_4] y132.2.2.2.2.2.2.2.2.2.2.2.2.2.2.2.2 66 ∧ FL uy132_0 y132.2.2.2.2.2.2.1 ∧ FL uy132_1 y132.2.2.2.2.2.2.2.2.2.2.1 ∧ FL uy132_2 y132.2.2.2.2.2.2.2.2.2.2.2.2.2.2.1 ∧ BlF s b94 65 [vy132_0, (.bool y132.2.1)] 52 ∧ BlF s by22_0 35 [(iI y22), (iI y107.2.2), (iI y132.2.2.1), (iI y132.2.2.2.1), (iI y132.2.2.2.2.1), (iI y132.2.2.2.2.2.1), uy132_0, vy132_1, (iI y132.2.2.2.2.2.2.2.2.1), (iI y132.2.2.2.2.2.2.2.2.2.1), uy132_1, vy132_2, (iI y132.2.2.2.2.2.2.2.2.2.2.2.2.1), (iI y132.2.2.2.2.2.2.2.2.2.2.2.2.2.1), uy132_2, vy132_3, vy132_4] 43 ∧ BlF s b2 35 [(iI 0), (iI 0), (iI 0), (iI 0), (iI 0), (iI 0), (.float .f64 0), (.slice none 0 0), (iI 0), (iI 0), (.float .f64 0), (.slice none 0 0), (iI 0), (iI 0), (.float .f64 0), (.slice none 0 0), (.slice none 0 0)] 40) (fun Gj132 Kj132 => ?_) ?_))))))))))
 ·
  refine cd rfl (fun h133 => ?_) (fun h133 => ?_)
  ·
   refine rg (Xc rfl (cl' rfl func39 rfl (impl_opWords_number.calls (opWords.mk y107.1 y107.2.1) s127.w (mm [42, 0] s127) b94 vy107_0 ((gv_gu (AG.kp Ky107)).sub (D := [42, 0]) rfl) Ay107_0 By107_b94.w (By107_b94.apart rfl)) ?_))
   rintro r134 _ w134 m134 ⟨u134_0, rfl, bw134, uf134_0, ky134⟩
   obtain ⟨s135, rfl, p135, n135, g135⟩ := nwb 56 By107_b94 ky134
   have B135 := Xy bw134 g135
   have Au135_0 := FRF.c uf134_0 n135
   refine Xt fa35_2 rfl (sv' (By107_by22_0.st p135 rfl) z3 rfl rfl rfl (fun s139 p139 B139 => ?_))
   replace B139 : BlF s139 by22_0 35 [(iI y22), (iI y107.2.2), (iI r134.1), (iI 0), (iI 0), (iI 0), (.float .f64 0), (.slice none 0 0), (iI 0), (iI 0), (.float .f64 0), (.slice none 0 0), (iI 0), (iI 0), (.float .f64 0), (.slice none 0 0), (.slice none 0 0)] 43 := B139
   exact dn (Kj132 _ _ _ ⟨s139, _, u134_0, (.slice none 0 0), (.slice none 0 0), (.slice none 0 0), (.slice none 0 0), (.float .f64 0), (.float .f64 0), (.float .f64 0), rfl, (ue (ue (ue (ue rfl rfl) rfl) rfl) rfl), (Ky107.st (Xk p135 p139) rfl), (Au135_0.st p139 rfl), (Xu 5 (Kd.int .u8) _ 57), (Xu 5 (Kd.int .u8) _ 61), (Xu 5 (Kd.int .u8) _ 59), (Xu 4 Kd.bool _ 66), (Xl rfl), (Xl rfl), (Xl rfl), (B135.st p139 rfl), B139, (By107_b2.st (Xk p135 p139) rfl)⟩)
  refine sq (sr (Xc rfl (Xc rfl (dn (jc (fun (y145 : Bool) e w => ∃ (s : St) (e0 : Env), w = s.w ∧ e = upd (upd (upd (upd (upd (upd e0 2 (pB b2)) 4 (.string (str a0))) 6 (pB by22_0)) 7 (pB b94)) 38 (iI y22)) 44 (.bool y145) ∧ Kp s0 s ∧ BlF s b94 65 [vy107_0, (.bool y107.2.1)] 52 ∧ BlF s by22_0 35 [(iI y22), (iI y107.2.2), (iI 0), (iI 0), (iI 0), (iI 0), (.float .f64 0), (.slice none 0 0), (iI 0), (iI 0), (.float .f64 0), (.slice none 0 0), (iI 0), (iI 0), (.float .f64 0), (.slice none 0 0), (.slice none 0 0)] 43 ∧ BlF s b2 35 [(iI 0), (iI 0), (iI 0), (iI 0), (iI 0), (iI 0), (.float .f64 0), (.slice none 0 0), (iI 0), (iI 0), (.float .f64 0), (.slice none 0 0), (iI 0), (iI 0), (.float .f64 0), (.slice none 0 0), (.slice none 0 0)] 40 ∧ RdF (Kd.sl 9 Kd.str) s [vy107_0] y107.1 [42, 0]) (fun Gj145 Kj145 => ?_) ?_)))))
  ·
   refine cd rfl (fun h146 => ?_) (fun h146 => ?_)
   ·
    exact sk (Kj145 _ _ _ ⟨s127, _, rfl, (ue (ue (ue (ue (ue (ue rfl rfl) rfl) rfl) rfl) rfl) rfl), Ky107, By107_b94, By107_by22_0, By107_b2, Ay107_0⟩)
   exact rg (Xc rfl (Xc rfl (dn (Kj145 _ _ _ ⟨s127, _, rfl, (ue (ue (ue (ue (ue (ue rfl rfl) rfl) rfl) rfl) rfl) rfl), Ky107, By107_b94, By107_by22_0, By107_b2, Ay107_0⟩))))
  rintro y145 _ _ ⟨s147, _, rfl, rfl, Ky145, By145_b94, By145_by22_0, By145_b2, Cy145_128⟩
  refine jc (fun (y151 : (List ByteArray) × Bool × Int × Int × Int × Nat × (List Int) × Int × Int × Nat × (List Int) × Int × Int × Nat × (List Int) × (List Bool)) e w => ∃ (s : St) (e0 : Env) (vy151_0 vy151_1 vy151_2 vy151_3 vy151_4 uy151_0 uy151_1 uy151_2 : Value), w = s.w ∧ e = upd (upd (upd (upd e0 2 (pB b2)) 4 (.string (str a0))) 6 (pB by22_0)) 7 (pB b94) ∧ Kp s0 s ∧ RdF (Kd.sl 9 Kd.str) s [vy151_0] y151.1 [42, 0] ∧ OwF Ya s [vy151_1] y151.2.2.2.2.2.2.1 57 ∧ OwF Ya s [vy151_2] y151.2.2.2.2.2.2.2.2.2.2.1 61 ∧ OwF Ya s [vy151_3] y151.2.2.2.2.2.2.2.2.2.2.2.2.2.2.1 59 ∧ OwF (Kd.sl 4 Kd.bool) s [vy151_4] y151.2.2.2.2.2.2.2.2.2.2.2.2.2.2.2 66 ∧ FL uy151_0 y151.2.2.2.2.2.1 ∧ FL uy151_1 y151.2.2.2.2.2.2.2.2.2.1 ∧ FL uy151_2 y151.2.2.2.2.2.2.2.2.2.2.2.2.2.1 ∧ BlF s b94 65 [vy151_0, (.bool y151.2.1)] 52 ∧ BlF s by22_0 35 [(iI y22), (iI y107.2.2), (iI 0), (iI y151.2.2.1), (iI y151.2.2.2.1), (iI y151.2.2.2.2.1), uy151_0, vy151_1, (iI y151.2.2.2.2.2.2.2.1), (iI y151.2.2.2.2.2.2.2.2.1), uy151_1, vy151_2, (iI y151.2.2.2.2.2.2.2.2.2.2.2.1), (iI y151.2.2.2.2.2.2.2.2.2.2.2.2.1), uy151_2, vy151_3, vy151_4] 43 ∧ BlF s b2 35 [(iI 0), (iI 0), (iI 0), (iI 0), (iI 0), (iI 0), (.float .f64 0), (.slice none 0 0), (iI 0), (iI 0), (.float .f64 0), (.slice none 0 0), (iI 0), (iI 0), (.float .f64 0), (.slice none 0 0), (.slice none 0 0)] 40) (fun Gj151 Kj151 => ?_) ?_
  ·
   refine cd rfl (fun h152 => ?_) (fun h152 => ?_)
   ·
    refine rg (Xc rfl (cl' rfl func40 rfl (impl_opWords_item.calls (opWords.mk y107.1 y107.2.1) s147.w (mm [42, 0] s147) b94 vy107_0 ((gv_gu (AG.kp Ky145)).sub (D := [42, 0]) rfl) Cy145_128 By145_b94.w (By145_b94.apart rfl)) ?_))
    rintro r153 _ w153 m153 ⟨v153_0, v153_1, u153_0, rfl, f153_0, bw153, uf153_0, ky153⟩
    obtain ⟨s154, rfl, p154, n154, g154⟩ := nwb 58 By145_b94 ky153
    obtain ⟨hu153_0_0, Au153_0_1⟩ := ap26 (f153_0.c n154)
    have B154 := Xy bw153 g154
    have Au154_0 := FRF.c uf153_0 n154
    refine Xt fa35_4 rfl (Xx (vs := [(iI r153.1.Kind), (iI r153.1.N), v153_0, v153_1]) (By145_by22_0.st p154 rfl) z26 rfl (Xa rfl (Xa rfl (Xa (FL.one hu153_0_0) (Xa Au153_0_1.rd.one Xi)))) rfl (fun s159 p159 B159 => ?_))
    replace B159 : BlF s159 by22_0 35 [(iI y22), (iI y107.2.2), (iI 0), (iI 0), (iI r153.1.Kind), (iI r153.1.N), v153_0, v153_1, (iI 0), (iI 0), (.float .f64 0), (.slice none 0 0), (iI 0), (iI 0), (.float .f64 0), (.slice none 0 0), (.slice none 0 0)] 43 := B159
    refine dn ?_
    obtain ⟨s162, hw162, p162, A162⟩ := (Au153_0_1.st p159 rfl).rc 57 rfl
    rw [hw162]
    exact Kj151 _ _ _ ⟨s162, _, u153_0, v153_1, (.slice none 0 0), (.slice none 0 0), (.slice none 0 0), v153_0, (.float .f64 0), (.float .f64 0), rfl, (ue (ue (ue (ue rfl rfl) rfl) rfl) rfl), (Ky145.st (Xw p154 p159 p162) rfl), (Au154_0.st (Xk p159 p162) rfl), A162, (Xu 5 (Kd.int .u8) _ 61), (Xu 5 (Kd.int .u8) _ 59), (Xu 4 Kd.bool _ 66), hu153_0_0, (Xl rfl), (Xl rfl), (B154.st (Xk p159 p162) rfl), (B159.st p162 rfl), (By145_b2.st (Xw p154 p159 p162) rfl)⟩
   refine sr (Xc rfl (Xc rfl (dn (jc (fun (y168 : (List ByteArray) × Bool × Int × Int × Int × Nat × (List Int) × Int × Int × Nat × (List Int) × Int × Int × Nat × (List Int) × (List Bool)) e w => ∃ (s : St) (e0 : Env) (vy168_0 vy168_1 vy168_2 vy168_3 vy168_4 uy168_0 uy168_1 uy168_2 : Value), w = s.w ∧ e = upd (upd (upd (upd e0 2 (pB b2)) 4 (.string (str a0))) 6 (pB by22_0)) 7 (pB b94) ∧ Kp s0 s ∧ RdF (Kd.sl 9 Kd.str) s [vy168_0] y168.1 [42, 0] ∧ OwF Ya s [vy168_1] y168.2.2.2.2.2.2.1 59 ∧ OwF Ya s [vy168_2] y168.2.2.2.2.2.2.2.2.2.2.1 62 ∧ OwF Ya s [vy168_3] y168.2.2.2.2.2.2.2.2.2.2.2.2.2.2.1 60 ∧ OwF (Kd.sl 4 Kd.bool) s [vy168_4] y168.2.2.2.2.2.2.2.2.2.2.2.2.2.2.2 67 ∧ FL uy168_0 y168.2.2.2.2.2.1 ∧ FL uy168_1 y168.2.2.2.2.2.2.2.2.2.1 ∧ FL uy168_2 y168.2.2.2.2.2.2.2.2.2.2.2.2.2.1 ∧ BlF s b94 65 [vy168_0, (.bool y168.2.1)] 52 ∧ BlF s by22_0 35 [(iI y22), (iI y107.2.2), (iI 0), (iI y168.2.2.1), (iI y168.2.2.2.1), (iI y168.2.2.2.2.1), uy168_0, vy168_1, (iI y168.2.2.2.2.2.2.2.1), (iI y168.2.2.2.2.2.2.2.2.1), uy168_1, vy168_2, (iI y168.2.2.2.2.2.2.2.2.2.2.2.1), (iI y168.2.2.2.2.2.2.2.2.2.2.2.2.1), uy168_2, vy168_3, vy168_4] 43 ∧ BlF s b2 35 [(iI 0), (iI 0), (iI 0), (iI 0), (iI 0), (iI 0), (.float .f64 0), (.slice none 0 0), (iI 0), (iI 0), (.float .f64 0), (.slice none 0 0), (iI 0), (iI 0), (.float .f64 0), (.slice none 0 0), (.slice none 0 0)] 40) (fun Gj168 Kj168 => ?_) ?_))))
   ·
    refine cd rfl (fun h169 => ?_) (fun h169 => ?_)
    ·
     refine rg (Xc rfl (cl' rfl func40 rfl (impl_opWords_item.calls (opWords.mk y107.1 y107.2.1) s147.w (mm [42, 0] s147) b94 vy107_0 ((gv_gu (AG.kp Ky145)).sub (D := [42, 0]) rfl) Cy145_128 By145_b94.w (By145_b94.apart rfl)) ?_))
     rintro r170 _ w170 m170 ⟨v170_0, v170_1, u170_0, rfl, f170_0, bw170, uf170_0, ky170⟩
     obtain ⟨s171, rfl, p171, n171, g171⟩ := nwb 60 By145_b94 ky170
     obtain ⟨hu170_0_0, Au170_0_1⟩ := ap26 (f170_0.c n171)
     have B171 := Xy bw170 g171
     refine Xc rfl ?_
     have K175 := Ky145.st p171 rfl
     refine cl' rfl func40 rfl (impl_opWords_item.calls r170.2 s171.w (mm [42, 0] s171) b94 u170_0 ((gv_gu (AG.kp K175)).sub (D := [42, 0]) rfl) (FRF.c uf170_0 n171) B171.w (B171.apart rfl)) ?_
     rintro r176 _ w176 m176 ⟨v176_0, v176_1, u176_0, rfl, f176_0, bw176, uf176_0, ky176⟩
     obtain ⟨s177, rfl, p177, n177, g177⟩ := nwb 61 B171 ky176
     obtain ⟨hu176_0_0, Au176_0_1⟩ := ap26 (f176_0.c n177)
     have B177 := Xy bw176 g177
     have Au177_0 := FRF.c uf176_0 n177
     refine Xt fa35_4 rfl ?_
     have A182 := Au170_0_1.st p177 rfl
     refine Xx (vs := [(iI r170.1.Kind), (iI r170.1.N), v170_0, v170_1]) (By145_by22_0.st (Xk p171 p177) rfl) z26 rfl (Xa rfl (Xa rfl (Xa (FL.one hu170_0_0) (Xa A182.rd.one Xi)))) rfl (fun s183 p183 B183 => ?_)
     replace B183 : BlF s183 by22_0 35 [(iI y22), (iI y107.2.2), (iI 0), (iI 0), (iI r170.1.Kind), (iI r170.1.N), v170_0, v170_1, (iI 0), (iI 0), (.float .f64 0), (.slice none 0 0), (iI 0), (iI 0), (.float .f64 0), (.slice none 0 0), (.slice none 0 0)] 43 := B183
     refine Xt fa35_6 rfl ?_
     have A185 := Au176_0_1.st p183 rfl
     refine Xx (vs := [(iI r176.1.Kind), (iI r176.1.N), v176_0, v176_1]) B183 z26 rfl (Xa rfl (Xa rfl (Xa (FL.one hu176_0_0) (Xa A185.rd.one Xi)))) rfl (fun s186 p186 B186 => ?_)
     replace B186 : BlF s186 by22_0 35 [(iI y22), (iI y107.2.2), (iI 0), (iI 0), (iI r170.1.Kind), (iI r170.1.N), v170_0, v170_1, (iI 0), (iI 0), (.float .f64 0), (.slice none 0 0), (iI r176.1.Kind), (iI r176.1.N), v176_0, v176_1, (.slice none 0 0)] 43 := B186
     refine dn ?_
     obtain ⟨s189, hw189, p189, A189⟩ := (A182.st (Xk p183 p186) rfl).rc 59 rfl
     rw [hw189]
     obtain ⟨s191, hw191, p191, A191⟩ := (A185.st (Xk p186 p189) rfl).rc 60 rfl
     rw [hw191]
     exact Kj168 _ _ _ ⟨s191, _, u176_0, v170_1, (.slice none 0 0), v176_1, (.slice none 0 0), v170_0, (.float .f64 0), v176_0, rfl, (ue (ue (ue (ue rfl rfl) rfl) rfl) rfl), (K175.st (tr5 p177 p183 p186 p189 p191) rfl), (Au177_0.st (tr4 p183 p186 p189 p191) rfl), (A189.st p191 rfl), (Xu 5 (Kd.int .u8) _ 62), A191, (Xu 4 Kd.bool _ 67), hu170_0_0, (Xl rfl), hu176_0_0, (B177.st (tr4 p183 p186 p189 p191) rfl), (B186.st (Xk p189 p191) rfl), (By145_b2.st (tr6 p171 p177 p183 p186 p189 p191) rfl)⟩
    refine sr (Xc rfl (Xc rfl (dn (jc (fun (y198 : (List ByteArray) × Bool × Int × Int × Int × Nat × (List Int) × Int × Int × Nat × (List Int) × (List Bool)) e w => ∃ (s : St) (e0 : Env) (vy198_0 vy198_1 vy198_2 vy198_3 uy198_0 uy198_1 : Value), w = s.w ∧ e = upd (upd (upd (upd e0 2 (pB b2)) 4 (.string (str a0))) 6 (pB by22_0)) 7 (pB b94) ∧ Kp s0 s ∧ RdF (Kd.sl 9 Kd.str) s [vy198_0] y198.1 [42, 0] ∧ OwF Ya s [vy198_1] y198.2.2.2.2.2.2.1 62 ∧ OwF Ya s [vy198_2] y198.2.2.2.2.2.2.2.2.2.2.1 63 ∧ OwF (Kd.sl 4 Kd.bool) s [vy198_3] y198.2.2.2.2.2.2.2.2.2.2.2 68 ∧ FL uy198_0 y198.2.2.2.2.2.1 ∧ FL uy198_1 y198.2.2.2.2.2.2.2.2.2.1 ∧ BlF s b94 65 [vy198_0, (.bool y198.2.1)] 52 ∧ BlF s by22_0 35 [(iI y22), (iI y107.2.2), (iI 0), (iI y198.2.2.1), (iI y198.2.2.2.1), (iI y198.2.2.2.2.1), uy198_0, vy198_1, (iI y198.2.2.2.2.2.2.2.1), (iI y198.2.2.2.2.2.2.2.2.1), uy198_1, vy198_2, (iI 0), (iI 0), (.float .f64 0), (.slice none 0 0), vy198_3] 43 ∧ BlF s b2 35 [(iI 0), (iI 0), (iI 0), (iI 0), (iI 0), (iI 0), (.float .f64 0), (.slice none 0 0), (iI 0), (iI 0), (.float .f64 0), (.slice none 0 0), (iI 0), (iI 0), (.float .f64 0), (.slice none 0 0), (.slice none 0 0)] 40) (fun Gj198 Kj198 => ?_) ?_))))
    ·
     refine cd rfl (fun h199 => ?_) (fun h199 => ?_)
     ·
      refine rg (Xc rfl (cl' rfl func40 rfl (impl_opWords_item.calls (opWords.mk y107.1 y107.2.1) s147.w (mm [42, 0] s147) b94 vy107_0 ((gv_gu (AG.kp Ky145)).sub (D := [42, 0]) rfl) Cy145_128 By145_b94.w (By145_b94.apart rfl)) ?_))
      rintro r200 _ w200 m200 ⟨v200_0, v200_1, u200_0, rfl, f200_0, bw200, uf200_0, ky200⟩
      obtain ⟨s201, rfl, p201, n201, g201⟩ := nwb 64 By145_b94 ky200
      obtain ⟨hu200_0_0, Au200_0_1⟩ := ap26 (f200_0.c n201)
      have B201 := Xy bw200 g201
      refine Xc rfl ?_
      have K205 := Ky145.st p201 rfl
      refine cl' rfl func40 rfl (impl_opWords_item.calls r200.2 s201.w (mm [42, 0] s201) b94 u200_0 ((gv_gu (AG.kp K205)).sub (D := [42, 0]) rfl) (FRF.c uf200_0 n201) B201.w (B201.apart rfl)) ?_
      rintro r206 _ w206 m206 ⟨v206_0, v206_1, u206_0, rfl, f206_0, bw206, uf206_0, ky206⟩
      obtain ⟨s207, rfl, p207, n207, g207⟩ := nwb 65 B201 ky206
      obtain ⟨hu206_0_0, Au206_0_1⟩ := ap26 (f206_0.c n207)
      have B207 := Xy bw206 g207
      refine Xc rfl ?_
      have K211 := K205.st p207 rfl
      refine cl' rfl func39 rfl (impl_opWords_number.calls r206.2 s207.w (mm [42, 0] s207) b94 u206_0 ((gv_gu (AG.kp K211)).sub (D := [42, 0]) rfl) (FRF.c uf206_0 n207) B207.w (B207.apart rfl)) ?_
      rintro r212 _ w212 m212 ⟨u212_0, rfl, bw212, uf212_0, ky212⟩
      obtain ⟨s213, rfl, p213, n213, g213⟩ := nwb 66 B207 ky212
      have B213 := Xy bw212 g213
      have Au213_0 := FRF.c uf212_0 n213
      refine Xt fa35_4 rfl ?_
      have A217 := Au200_0_1.st (Xk p207 p213) rfl
      refine Xx (vs := [(iI r200.1.Kind), (iI r200.1.N), v200_0, v200_1]) (By145_by22_0.st (Xw p201 p207 p213) rfl) z26 rfl (Xa rfl (Xa rfl (Xa (FL.one hu200_0_0) (Xa A217.rd.one Xi)))) rfl (fun s218 p218 B218 => ?_)
      replace B218 : BlF s218 by22_0 35 [(iI y22), (iI y107.2.2), (iI 0), (iI 0), (iI r200.1.Kind), (iI r200.1.N), v200_0, v200_1, (iI 0), (iI 0), (.float .f64 0), (.slice none 0 0), (iI 0), (iI 0), (.float .f64 0), (.slice none 0 0), (.slice none 0 0)] 43 := B218
      refine Xt fa35_5 rfl ?_
      have A220 := Au206_0_1.st (Xk p213 p218) rfl
      refine Xx (vs := [(iI r206.1.Kind), (iI r206.1.N), v206_0, v206_1]) B218 z26 rfl (Xa rfl (Xa rfl (Xa (FL.one hu206_0_0) (Xa A220.rd.one Xi)))) rfl (fun s221 p221 B221 => ?_)
      replace B221 : BlF s221 by22_0 35 [(iI y22), (iI y107.2.2), (iI 0), (iI 0), (iI r200.1.Kind), (iI r200.1.N), v200_0, v200_1, (iI r206.1.Kind), (iI r206.1.N), v206_0, v206_1, (iI 0), (iI 0), (.float .f64 0), (.slice none 0 0), (.slice none 0 0)] 43 := B221
      refine Xt fa35_3 rfl (sv' B221 z3 rfl rfl rfl (fun s223 p223 B223 => ?_))
      replace B223 : BlF s223 by22_0 35 [(iI y22), (iI y107.2.2), (iI 0), (iI r212.1), (iI r200.1.Kind), (iI r200.1.N), v200_0, v200_1, (iI r206.1.Kind), (iI r206.1.N), v206_0, v206_1, (iI 0), (iI 0), (.float .f64 0), (.slice none 0 0), (.slice none 0 0)] 43 := B223
      refine dn ?_
      obtain ⟨s226, hw226, p226, A226⟩ := (A217.st (Xw p218 p221 p223) rfl).rc 62 rfl
      rw [hw226]
      obtain ⟨s228, hw228, p228, A228⟩ := (A220.st (Xw p221 p223 p226) rfl).rc 63 rfl
      rw [hw228]
      exact Kj198 _ _ _ ⟨s228, _, u212_0, v200_1, v206_1, (.slice none 0 0), v200_0, v206_0, rfl, (ue (ue (ue (ue rfl rfl) rfl) rfl) rfl), (K211.st (tr6 p213 p218 p221 p223 p226 p228) rfl), (Au213_0.st (tr5 p218 p221 p223 p226 p228) rfl), (A226.st p228 rfl), A228, (Xu 4 Kd.bool _ 68), hu200_0_0, hu206_0_0, (B213.st (tr5 p218 p221 p223 p226 p228) rfl), (B223.st (Xk p226 p228) rfl), (By145_b2.st (tr8 p201 p207 p213 p218 p221 p223 p226 p228) rfl)⟩
     refine sr (Xc rfl (Xc rfl (dn (jc (fun (y235 : (List ByteArray) × Bool × Int × Int × Int × Nat × (List Int) × Int × Int × Nat × (List Int) × (List Bool)) e w => ∃ (s : St) (e0 : Env) (vy235_0 vy235_1 vy235_2 vy235_3 uy235_0 uy235_1 : Value), w = s.w ∧ e = upd (upd (upd (upd e0 2 (pB b2)) 4 (.string (str a0))) 6 (pB by22_0)) 7 (pB b94) ∧ Kp s0 s ∧ RdF (Kd.sl 9 Kd.str) s [vy235_0] y235.1 [42, 0] ∧ OwF Ya s [vy235_1] y235.2.2.2.2.2.2.1 67 ∧ OwF Ya s [vy235_2] y235.2.2.2.2.2.2.2.2.2.2.1 68 ∧ OwF (Kd.sl 4 Kd.bool) s [vy235_3] y235.2.2.2.2.2.2.2.2.2.2.2 70 ∧ FL uy235_0 y235.2.2.2.2.2.1 ∧ FL uy235_1 y235.2.2.2.2.2.2.2.2.2.1 ∧ BlF s b94 65 [vy235_0, (.bool y235.2.1)] 52 ∧ BlF s by22_0 35 [(iI y22), (iI y107.2.2), (iI 0), (iI y235.2.2.1), (iI y235.2.2.2.1), (iI y235.2.2.2.2.1), uy235_0, vy235_1, (iI y235.2.2.2.2.2.2.2.1), (iI y235.2.2.2.2.2.2.2.2.1), uy235_1, vy235_2, (iI 0), (iI 0), (.float .f64 0), (.slice none 0 0), vy235_3] 43 ∧ BlF s b2 35 [(iI 0), (iI 0), (iI 0), (iI 0), (iI 0), (iI 0), (.float .f64 0), (.slice none 0 0), (iI 0), (iI 0), (.float .f64 0), (.slice none 0 0), (iI 0), (iI 0), (.float .f64 0), (.slice none 0 0), (.slice none 0 0)] 40) (fun Gj235 Kj235 => ?_) ?_))))
     ·
      refine cd rfl (fun h236 => ?_) (fun h236 => ?_)
      ·
       refine rg (Xc rfl (cl' rfl func40 rfl (impl_opWords_item.calls (opWords.mk y107.1 y107.2.1) s147.w (mm [42, 0] s147) b94 vy107_0 ((gv_gu (AG.kp Ky145)).sub (D := [42, 0]) rfl) Cy145_128 By145_b94.w (By145_b94.apart rfl)) ?_))
       rintro r237 _ w237 m237 ⟨v237_0, v237_1, u237_0, rfl, f237_0, bw237, uf237_0, ky237⟩
       obtain ⟨s238, rfl, p238, n238, g238⟩ := nwb 67 By145_b94 ky237
       obtain ⟨hu237_0_0, Au237_0_1⟩ := ap26 (f237_0.c n238)
       have B238 := Xy bw237 g238
       refine Xc rfl ?_
       have K242 := Ky145.st p238 rfl
       refine cl' rfl func40 rfl (impl_opWords_item.calls r237.2 s238.w (mm [42, 0] s238) b94 u237_0 ((gv_gu (AG.kp K242)).sub (D := [42, 0]) rfl) (FRF.c uf237_0 n238) B238.w (B238.apart rfl)) ?_
       rintro r243 _ w243 m243 ⟨v243_0, v243_1, u243_0, rfl, f243_0, bw243, uf243_0, ky243⟩
       obtain ⟨s244, rfl, p244, n244, g244⟩ := nwb 68 B238 ky243
       obtain ⟨hu243_0_0, Au243_0_1⟩ := ap26 (f243_0.c n244)
       have B244 := Xy bw243 g244
       have Au244_0 := FRF.c uf243_0 n244
       refine Xt fa35_4 rfl ?_
       have A249 := Au237_0_1.st p244 rfl
       refine Xx (vs := [(iI r237.1.Kind), (iI r237.1.N), v237_0, v237_1]) (By145_by22_0.st (Xk p238 p244) rfl) z26 rfl (Xa rfl (Xa rfl (Xa (FL.one hu237_0_0) (Xa A249.rd.one Xi)))) rfl (fun s250 p250 B250 => ?_)
       replace B250 : BlF s250 by22_0 35 [(iI y22), (iI y107.2.2), (iI 0), (iI 0), (iI r237.1.Kind), (iI r237.1.N), v237_0, v237_1, (iI 0), (iI 0), (.float .f64 0), (.slice none 0 0), (iI 0), (iI 0), (.float .f64 0), (.slice none 0 0), (.slice none 0 0)] 43 := B250
       refine Xt fa35_5 rfl ?_
       have A252 := Au243_0_1.st p250 rfl
       refine Xx (vs := [(iI r243.1.Kind), (iI r243.1.N), v243_0, v243_1]) B250 z26 rfl (Xa rfl (Xa rfl (Xa (FL.one hu243_0_0) (Xa A252.rd.one Xi)))) rfl (fun s253 p253 B253 => ?_)
       replace B253 : BlF s253 by22_0 35 [(iI y22), (iI y107.2.2), (iI 0), (iI 0), (iI r237.1.Kind), (iI r237.1.N), v237_0, v237_1, (iI r243.1.Kind), (iI r243.1.N), v243_0, v243_1, (iI 0), (iI 0), (.float .f64 0), (.slice none 0 0), (.slice none 0 0)] 43 := B253
       exact dn (Kj235 _ _ _ ⟨s253, _, u243_0, v237_1, v243_1, (.slice none 0 0), v237_0, v243_0, rfl, (ue (ue (ue (ue rfl rfl) rfl) rfl) rfl), (K242.st (Xw p244 p250 p253) rfl), (Au244_0.st (Xk p250 p253) rfl), (A249.st (Xk p250 p253) rfl), (A252.st p253 rfl), (Xu 4 Kd.bool _ 70), hu237_0_0, hu243_0_0, (B244.st (Xk p250 p253) rfl), B253, (By145_b2.st (tr4 p238 p244 p250 p253) rfl)⟩)
      refine sq (sr (Xc rfl (Xc rfl (dn (jc (fun (y261 : Bool) e w => ∃ (s : St) (e0 : Env), w = s.w ∧ e = upd (upd (upd (upd (upd (upd e0 2 (pB b2)) 4 (.string (str a0))) 6 (pB by22_0)) 7 (pB b94)) 38 (iI y22)) 77 (.bool y261) ∧ Kp s0 s ∧ BlF s b94 65 [vy107_0, (.bool y107.2.1)] 52 ∧ BlF s by22_0 35 [(iI y22), (iI y107.2.2), (iI 0), (iI 0), (iI 0), (iI 0), (.float .f64 0), (.slice none 0 0), (iI 0), (iI 0), (.float .f64 0), (.slice none 0 0), (iI 0), (iI 0), (.float .f64 0), (.slice none 0 0), (.slice none 0 0)] 43 ∧ BlF s b2 35 [(iI 0), (iI 0), (iI 0), (iI 0), (iI 0), (iI 0), (.float .f64 0), (.slice none 0 0), (iI 0), (iI 0), (.float .f64 0), (.slice none 0 0), (iI 0), (iI 0), (.float .f64 0), (.slice none 0 0), (.slice none 0 0)] 40 ∧ RdF (Kd.sl 9 Kd.str) s [vy107_0] y107.1 [42, 0]) (fun Gj261 Kj261 => ?_) ?_)))))
      ·
       refine cd rfl (fun h262 => ?_) (fun h262 => ?_)
       ·
        exact sk (Kj261 _ _ _ ⟨s147, _, rfl, (ue (ue (ue (ue (ue (ue rfl rfl) rfl) rfl) rfl) rfl) rfl), Ky145, By145_b94, By145_by22_0, By145_b2, Cy145_128⟩)
       exact rg (Xc rfl (Xc rfl (dn (Kj261 _ _ _ ⟨s147, _, rfl, (ue (ue (ue (ue (ue (ue rfl rfl) rfl) rfl) rfl) rfl) rfl), Ky145, By145_b94, By145_by22_0, By145_b2, Cy145_128⟩))))
      rintro y261 _ _ ⟨s263, _, rfl, rfl, Ky261, By261_b94, By261_by22_0, By261_b2, Cy261_128⟩
      refine jc (fun (y267 : (List ByteArray) × Bool × Int × (List Bool)) e w => ∃ (s : St) (e0 : Env) (vy267_0 vy267_1 : Value), w = s.w ∧ e = upd (upd (upd (upd e0 2 (pB b2)) 4 (.string (str a0))) 6 (pB by22_0)) 7 (pB b94) ∧ Kp s0 s ∧ RdF (Kd.sl 9 Kd.str) s [vy267_0] y267.1 [42, 0] ∧ OwF (Kd.sl 4 Kd.bool) s [vy267_1] y267.2.2.2 70 ∧ BlF s b94 65 [vy267_0, (.bool y267.2.1)] 52 ∧ BlF s by22_0 35 [(iI y22), (iI y107.2.2), (iI 0), (iI y267.2.2.1), (iI 0), (iI 0), (.float .f64 0), (.slice none 0 0), (iI 0), (iI 0), (.float .f64 0), (.slice none 0 0), (iI 0), (iI 0), (.float .f64 0), (.slice none 0 0), vy267_1] 43 ∧ BlF s b2 35 [(iI 0), (iI 0), (iI 0), (iI 0), (iI 0), (iI 0), (.float .f64 0), (.slice none 0 0), (iI 0), (iI 0), (.float .f64 0), (.slice none 0 0), (iI 0), (iI 0), (.float .f64 0), (.slice none 0 0), (.slice none 0 0)] 40) (fun Gj267 Kj267 => ?_) ?_
      ·
       refine cd rfl (fun h268 => ?_) (fun h268 => ?_)
       ·
        refine rg (Xc rfl (cl' rfl func39 rfl (impl_opWords_number.calls (opWords.mk y107.1 y107.2.1) s263.w (mm [42, 0] s263) b94 vy107_0 ((gv_gu (AG.kp Ky261)).sub (D := [42, 0]) rfl) Cy261_128 By261_b94.w (By261_b94.apart rfl)) ?_))
        rintro r269 _ w269 m269 ⟨u269_0, rfl, bw269, uf269_0, ky269⟩
        obtain ⟨s270, rfl, p270, n270, g270⟩ := nwb 69 By261_b94 ky269
        have B270 := Xy bw269 g270
        have Au270_0 := FRF.c uf269_0 n270
        refine Xt fa35_3 rfl (sv' (By261_by22_0.st p270 rfl) z3 rfl rfl rfl (fun s274 p274 B274 => ?_))
        replace B274 : BlF s274 by22_0 35 [(iI y22), (iI y107.2.2), (iI 0), (iI r269.1), (iI 0), (iI 0), (.float .f64 0), (.slice none 0 0), (iI 0), (iI 0), (.float .f64 0), (.slice none 0 0), (iI 0), (iI 0), (.float .f64 0), (.slice none 0 0), (.slice none 0 0)] 43 := B274
        exact dn (Kj267 _ _ _ ⟨s274, _, u269_0, (.slice none 0 0), rfl, (ue (ue (ue (ue rfl rfl) rfl) rfl) rfl), (Ky261.st (Xk p270 p274) rfl), (Au270_0.st p274 rfl), (Xu 4 Kd.bool _ 70), (B270.st p274 rfl), B274, (By261_b2.st (Xk p270 p274) rfl)⟩)
       refine sr (Xc rfl (Xc rfl (dn (jc (fun (y280 : (List ByteArray) × Bool × (List Bool)) e w => ∃ (s : St) (e0 : Env) (vy280_0 vy280_1 : Value), w = s.w ∧ e = upd (upd (upd (upd e0 2 (pB b2)) 4 (.string (str a0))) 6 (pB by22_0)) 7 (pB b94) ∧ Kp s0 s ∧ RdF (Kd.sl 9 Kd.str) s [vy280_0] y280.1 [42, 0] ∧ OwF (Kd.sl 4 Kd.bool) s [vy280_1] y280.2.2 70 ∧ BlF s b94 65 [vy280_0, (.bool y280.2.1)] 52 ∧ BlF s by22_0 35 [(iI y22), (iI y107.2.2), (iI 0), (iI 0), (iI 0), (iI 0), (.float .f64 0), (.slice none 0 0), (iI 0), (iI 0), (.float .f64 0), (.slice none 0 0), (iI 0), (iI 0), (.float .f64 0), (.slice none 0 0), vy280_1] 43 ∧ BlF s b2 35 [(iI 0), (iI 0), (iI 0), (iI 0), (iI 0), (iI 0), (.float .f64 0), (.slice none 0 0), (iI 0), (iI 0), (.float .f64 0), (.slice none 0 0), (iI 0), (iI 0), (.float .f64 0), (.slice none 0 0), (.slice none 0 0)] 40) (fun Gj280 Kj280 => ?_) ?_))))
       ·
        refine cd rfl (fun h281 => ?_) (fun h281 => ?_)
        ·
         refine rg (Xc rfl (cl' rfl func41 rfl (impl_opWords_keep.calls (opWords.mk y107.1 y107.2.1) s263.w (mm [42, 0] s263) b94 vy107_0 Cy261_128 By261_b94.w (By261_b94.apart rfl)) ?_))
         rintro r282 v282_0 w282 m282 ⟨u282_0, f282_0, bw282, uf282_0, ky282⟩
         obtain ⟨s283, rfl, p283, n283, g283⟩ := nwb 70 By261_b94 ky282
         have A282_0 := f282_0.c n283
         have B283 := Xy bw282 g283
         have Au283_0 := FRF.c uf282_0 n283
         refine Xt fa35_7 rfl (sv' (By261_by22_0.st p283 rfl) z33 rfl A282_0.rd.one rfl (fun s288 p288 B288 => ?_))
         replace B288 : BlF s288 by22_0 35 [(iI y22), (iI y107.2.2), (iI 0), (iI 0), (iI 0), (iI 0), (.float .f64 0), (.slice none 0 0), (iI 0), (iI 0), (.float .f64 0), (.slice none 0 0), (iI 0), (iI 0), (.float .f64 0), (.slice none 0 0), v282_0] 43 := B288
         exact dn (Kj280 _ _ _ ⟨s288, _, u282_0, v282_0, rfl, (ue (ue (ue (ue rfl rfl) rfl) rfl) rfl), (Ky261.st (Xk p283 p288) rfl), (Au283_0.st p288 rfl), (A282_0.st p288 rfl), (B283.st p288 rfl), B288, (By261_b2.st (Xk p283 p288) rfl)⟩)
        exact sk (Kj280 _ _ _ ⟨s263, _, vy107_0, (.slice none 0 0), rfl, (ue (ue (ue (ue rfl rfl) rfl) rfl) rfl), Ky261, Cy261_128, (Xu 4 Kd.bool _ 70), By261_b94, By261_by22_0, By261_b2⟩)
       rintro y280 _ _ ⟨s295, _, vy280_0, vy280_1, rfl, rfl, Ky280, Ay280_0, Ay280_1, By280_b94, By280_by22_0, By280_b2⟩
       exact Kj267 _ _ _ ⟨s295, _, vy280_0, vy280_1, rfl, (ue (ue (ue (ue rfl rfl) rfl) rfl) rfl), Ky280, Ay280_0, Ay280_1, By280_b94, By280_by22_0, By280_b2⟩
      rintro y267 _ _ ⟨s301, _, vy267_0, vy267_1, rfl, rfl, Ky267, Ay267_0, Ay267_1, By267_b94, By267_by22_0, By267_b2⟩
      exact Kj235 _ _ _ ⟨s301, _, vy267_0, (.slice none 0 0), (.slice none 0 0), vy267_1, (.float .f64 0), (.float .f64 0), rfl, (ue (ue (ue (ue rfl rfl) rfl) rfl) rfl), Ky267, Ay267_0, (Xu 5 (Kd.int .u8) _ 67), (Xu 5 (Kd.int .u8) _ 68), Ay267_1, (Xl rfl), (Xl rfl), By267_b94, By267_by22_0, By267_b2⟩
     rintro y235 _ _ ⟨s307, _, vy235_0, vy235_1, vy235_2, vy235_3, uy235_0, uy235_1, rfl, rfl, Ky235, Ay235_0, Ay235_1, Ay235_2, Ay235_3, Fy235_0, Fy235_1, By235_b94, By235_by22_0, By235_b2⟩
     obtain ⟨s315, hw315, p315, A315⟩ := Ay235_1.rc 62 rfl
     rw [hw315]
     obtain ⟨s317, hw317, p317, A317⟩ := (Ay235_2.st p315 rfl).rc 63 rfl
     rw [hw317]
     obtain ⟨s319, hw319, p319, A319⟩ := (Ay235_3.st (Xk p315 p317) rfl).rc 68 rfl
     rw [hw319]
     exact Kj198 _ _ _ ⟨s319, _, vy235_0, vy235_1, vy235_2, vy235_3, uy235_0, uy235_1, rfl, (ue (ue (ue (ue rfl rfl) rfl) rfl) rfl), (Ky235.st (Xw p315 p317 p319) rfl), (Ay235_0.st (Xw p315 p317 p319) rfl), (A315.st (Xk p317 p319) rfl), (A317.st p319 rfl), A319, Fy235_0, Fy235_1, (By235_b94.st (Xw p315 p317 p319) rfl), (By235_by22_0.st (Xw p315 p317 p319) rfl), (By235_b2.st (Xw p315 p317 p319) rfl)⟩
    rintro y198 _ _ ⟨s327, _, vy198_0, vy198_1, vy198_2, vy198_3, uy198_0, uy198_1, rfl, rfl, Ky198, Ay198_0, Ay198_1, Ay198_2, Ay198_3, Fy198_0, Fy198_1, By198_b94, By198_by22_0, By198_b2⟩
    obtain ⟨s335, hw335, p335, A335⟩ := Ay198_1.rc 59 rfl
    rw [hw335]
    obtain ⟨s337, hw337, p337, A337⟩ := (Ay198_2.st p335 rfl).rc 62 rfl
    rw [hw337]
    obtain ⟨s339, hw339, p339, A339⟩ := (Ay198_3.st (Xk p335 p337) rfl).rc 67 rfl
    rw [hw339]
    exact Kj168 _ _ _ ⟨s339, _, vy198_0, vy198_1, vy198_2, (.slice none 0 0), vy198_3, uy198_0, uy198_1, (.float .f64 0), rfl, (ue (ue (ue (ue rfl rfl) rfl) rfl) rfl), (Ky198.st (Xw p335 p337 p339) rfl), (Ay198_0.st (Xw p335 p337 p339) rfl), (A335.st (Xk p337 p339) rfl), (A337.st p339 rfl), (Xu 5 (Kd.int .u8) _ 60), A339, Fy198_0, Fy198_1, (Xl rfl), (By198_b94.st (Xw p335 p337 p339) rfl), (By198_by22_0.st (Xw p335 p337 p339) rfl), (By198_b2.st (Xw p335 p337 p339) rfl)⟩
   rintro y168 _ _ ⟨s347, _, vy168_0, vy168_1, vy168_2, vy168_3, vy168_4, uy168_0, uy168_1, uy168_2, rfl, rfl, Ky168, Ay168_0, Ay168_1, Ay168_2, Ay168_3, Ay168_4, Fy168_0, Fy168_1, Fy168_2, By168_b94, By168_by22_0, By168_b2⟩
   obtain ⟨s356, hw356, p356, A356⟩ := Ay168_1.rc 57 rfl
   rw [hw356]
   obtain ⟨s358, hw358, p358, A358⟩ := (Ay168_2.st p356 rfl).rc 61 rfl
   rw [hw358]
   obtain ⟨s360, hw360, p360, A360⟩ := (Ay168_3.st (Xk p356 p358) rfl).rc 59 rfl
   rw [hw360]
   obtain ⟨s362, hw362, p362, A362⟩ := (Ay168_4.st (Xw p356 p358 p360) rfl).rc 66 rfl
   rw [hw362]
   exact Kj151 _ _ _ ⟨s362, _, vy168_0, vy168_1, vy168_2, vy168_3, vy168_4, uy168_0, uy168_1, uy168_2, rfl, (ue (ue (ue (ue rfl rfl) rfl) rfl) rfl), (Ky168.st (tr4 p356 p358 p360 p362) rfl), (Ay168_0.st (tr4 p356 p358 p360 p362) rfl), (A356.st (Xw p358 p360 p362) rfl), (A358.st (Xk p360 p362) rfl), (A360.st p362 rfl), A362, Fy168_0, Fy168_1, Fy168_2, (By168_b94.st (tr4 p356 p358 p360 p362) rfl), (By168_by22_0.st (tr4 p356 p358 p360 p362) rfl), (By168_b2.st (tr4 p356 p358 p360 p362) rfl)⟩
  rintro y151 _ _ ⟨s371, _, vy151_0, vy151_1, vy151_2, vy151_3, vy151_4, uy151_0, uy151_1, uy151_2, rfl, rfl, Ky151, Ay151_0, Ay151_1, Ay151_2, Ay151_3, Ay151_4, Fy151_0, Fy151_1, Fy151_2, By151_b94, By151_by22_0, By151_b2⟩
  exact Kj132 _ _ _ ⟨s371, _, vy151_0, vy151_1, vy151_2, vy151_3, vy151_4, uy151_0, uy151_1, uy151_2, rfl, (ue (ue (ue (ue rfl rfl) rfl) rfl) rfl), Ky151, Ay151_0, Ay151_1, Ay151_2, Ay151_3, Ay151_4, Fy151_0, Fy151_1, Fy151_2, By151_b94, By151_by22_0, By151_b2⟩
 rintro y132 _ _ ⟨s380, _, vy132_0, vy132_1, vy132_2, vy132_3, vy132_4, uy132_0, uy132_1, uy132_2, rfl, rfl, Ky132, Ay132_0, Ay132_1, Ay132_2, Ay132_3, Ay132_4, Fy132_0, Fy132_1, Fy132_2, By132_b94, By132_by22_0, By132_b2⟩
 refine ib (sq (sr (Xc rfl (Xc rfl (Xt fa65_1 rfl (ld' By132_b94 u4 rfl (Xc rfl (ji [9, 10, 11, 12, 13, 14] (fun (y389 : Bool) e w => ∃ (s : St) (e0 : Env), w = s.w ∧ e = upd (upd (upd (upd e0 2 (pB b2)) 4 (.string (str a0))) 6 (pB by22_0)) 96 (.bool y389) ∧ Kp s0 s ∧ BlF s by22_0 35 [(iI y22), (iI y107.2.2), (iI y132.2.2.1), (iI y132.2.2.2.1), (iI y132.2.2.2.2.1), (iI y132.2.2.2.2.2.1), uy132_0, vy132_1, (iI y132.2.2.2.2.2.2.2.2.1), (iI y132.2.2.2.2.2.2.2.2.2.1), uy132_1, vy132_2, (iI y132.2.2.2.2.2.2.2.2.2.2.2.2.1), (iI y132.2.2.2.2.2.2.2.2.2.2.2.2.2.1), uy132_2, vy132_3, vy132_4] 43 ∧ BlF s b2 35 [(iI 0), (iI 0), (iI 0), (iI 0), (iI 0), (iI 0), (.float .f64 0), (.slice none 0 0), (iI 0), (iI 0), (.float .f64 0), (.slice none 0 0), (iI 0), (iI 0), (.float .f64 0), (.slice none 0 0), (.slice none 0 0)] 40 ∧ OwF Ya s [vy132_1] y132.2.2.2.2.2.2.2.1 57 ∧ OwF Ya s [vy132_2] y132.2.2.2.2.2.2.2.2.2.2.2.1 61 ∧ OwF Ya s [vy132_3] y132.2.2.2.2.2.2.2.2.2.2.2.2.2.2.2.1 59 ∧ OwF (Kd.sl 4 Kd.bool) s [vy132_4] y132.2.2.2.2.2.2.2.2.2.2.2.2.2.2.2.2 66) (fun Gj389 Kj389 => ?_) ?_))))))))
 ·
  rcases bft y132.2.1 with hb389 | hb389
  ·
   refine sbT hb389 ?_
   rw [if_pos hb389]
   exact Xj rfl (Xj rfl (Xj rfl (Xc rfl (Kj389 _ _ _ ⟨s380, _, rfl, (ue (ue (ue (ue rfl rfl) rfl) rfl) rfl), Ky132, By132_by22_0, By132_b2, Ay132_1, Ay132_2, Ay132_3, Ay132_4⟩))))
  refine sbT hb389 ?_
  rw [if_neg (by rw [hb389]; decide)]
  refine lda' (es := [(iI y22), (iI y107.2.2), (iI y132.2.2.1), (iI y132.2.2.2.1), (iI y132.2.2.2.2.1), (iI y132.2.2.2.2.2.1), uy132_0, vy132_1, (iI y132.2.2.2.2.2.2.2.2.1), (iI y132.2.2.2.2.2.2.2.2.2.1), uy132_1, vy132_2, (iI y132.2.2.2.2.2.2.2.2.2.2.2.2.1), (iI y132.2.2.2.2.2.2.2.2.2.2.2.2.2.1), uy132_2, vy132_3, vy132_4]) By132_by22_0 u35 z35 rfl (clV 71 rfl func33 rfl (impl_OpOk.calls (Op.mk y22 y107.2.2 y132.2.2.1 y132.2.2.2.1 (Item.mk y132.2.2.2.2.1 y132.2.2.2.2.2.1 y132.2.2.2.2.2.2.1 y132.2.2.2.2.2.2.2.1) (Item.mk y132.2.2.2.2.2.2.2.2.1 y132.2.2.2.2.2.2.2.2.2.1 y132.2.2.2.2.2.2.2.2.2.2.1 y132.2.2.2.2.2.2.2.2.2.2.2.1) (Item.mk y132.2.2.2.2.2.2.2.2.2.2.2.2.1 y132.2.2.2.2.2.2.2.2.2.2.2.2.2.1 y132.2.2.2.2.2.2.2.2.2.2.2.2.2.2.1 y132.2.2.2.2.2.2.2.2.2.2.2.2.2.2.2.1) y132.2.2.2.2.2.2.2.2.2.2.2.2.2.2.2.2) s380.w (mm [57, 61, 59, 66] s380) uy132_0 vy132_1 uy132_1 vy132_2 uy132_2 vy132_3 vy132_4 ((Xh (s := s380) Fy132_0).sub (D := [57, 61, 59, 66]) rfl) (Ay132_1.rd.sub (D := [57, 61, 59, 66]) rfl) ((Xh (s := s380) Fy132_1).sub (D := [57, 61, 59, 66]) rfl) (Ay132_2.rd.sub (D := [57, 61, 59, 66]) rfl) ((Xh (s := s380) Fy132_2).sub (D := [57, 61, 59, 66]) rfl) (Ay132_3.rd.sub (D := [57, 61, 59, 66]) rfl) (Ay132_4.rd.sub (D := [57, 61, 59, 66]) rfl)) (fun r390 s391 p391 n391 => ?_))
  refine Xc rfl (Xc rfl ?_)
  exact Kj389 _ _ _ ⟨s391, _, rfl, (ue (ue (ue (ue rfl rfl) rfl) rfl) rfl), (Ky132.st p391 rfl), (By132_by22_0.st p391 rfl), (By132_b2.st p391 rfl), (Ay132_1.st p391 rfl), (Ay132_2.st p391 rfl), (Ay132_3.st p391 rfl), (Ay132_4.st p391 rfl)⟩
 rintro y389 _ _ ⟨s399, _, rfl, rfl, Ky389, By389_by22_0, By389_b2, Cy389_382, Cy389_383, Cy389_384, Cy389_385⟩
 refine Xc rfl (ji [] (fun (y402 : Bool) e w => ∃ (s : St) (e0 : Env), w = s.w ∧ e = upd (upd (upd e0 2 (pB b2)) 6 (pB by22_0)) 102 (.bool y402) ∧ Kp s0 s ∧ BlF s by22_0 35 [(iI y22), (iI y107.2.2), (iI y132.2.2.1), (iI y132.2.2.2.1), (iI y132.2.2.2.2.1), (iI y132.2.2.2.2.2.1), uy132_0, vy132_1, (iI y132.2.2.2.2.2.2.2.2.1), (iI y132.2.2.2.2.2.2.2.2.2.1), uy132_1, vy132_2, (iI y132.2.2.2.2.2.2.2.2.2.2.2.2.1), (iI y132.2.2.2.2.2.2.2.2.2.2.2.2.2.1), uy132_2, vy132_3, vy132_4] 43 ∧ BlF s b2 35 [(iI 0), (iI 0), (iI 0), (iI 0), (iI 0), (iI 0), (.float .f64 0), (.slice none 0 0), (iI 0), (iI 0), (.float .f64 0), (.slice none 0 0), (iI 0), (iI 0), (.float .f64 0), (.slice none 0 0), (.slice none 0 0)] 40 ∧ OwF Ya s [vy132_1] y132.2.2.2.2.2.2.2.1 57 ∧ OwF Ya s [vy132_2] y132.2.2.2.2.2.2.2.2.2.2.2.1 61 ∧ OwF Ya s [vy132_3] y132.2.2.2.2.2.2.2.2.2.2.2.2.2.2.2.1 59 ∧ OwF (Kd.sl 4 Kd.bool) s [vy132_4] y132.2.2.2.2.2.2.2.2.2.2.2.2.2.2.2.2 66) (fun Gj402 Kj402 => ?_) ?_)
 ·
  rcases bft y389 with hb402 | hb402
  ·
   refine sbT hb402 ?_
   rw [if_pos hb402]
   exact Xj rfl (Xj rfl (Xj rfl (Xj rfl (Xc rfl (Kj402 _ _ _ ⟨s399, _, rfl, (ue (ue (ue rfl rfl) rfl) rfl), Ky389, By389_by22_0, By389_b2, Cy389_382, Cy389_383, Cy389_384, Cy389_385⟩)))))
  refine sbT hb402 ?_
  rw [if_neg (by rw [hb402]; decide)]
  refine lda' (es := [(iI y22), (iI y107.2.2), (iI y132.2.2.1), (iI y132.2.2.2.1), (iI y132.2.2.2.2.1), (iI y132.2.2.2.2.2.1), uy132_0, vy132_1, (iI y132.2.2.2.2.2.2.2.2.1), (iI y132.2.2.2.2.2.2.2.2.2.1), uy132_1, vy132_2, (iI y132.2.2.2.2.2.2.2.2.2.2.2.2.1), (iI y132.2.2.2.2.2.2.2.2.2.2.2.2.2.1), uy132_2, vy132_3, vy132_4]) By389_by22_0 u35 z35 rfl (clV 72 rfl func34 rfl (impl_opText.calls (Op.mk y22 y107.2.2 y132.2.2.1 y132.2.2.2.1 (Item.mk y132.2.2.2.2.1 y132.2.2.2.2.2.1 y132.2.2.2.2.2.2.1 y132.2.2.2.2.2.2.2.1) (Item.mk y132.2.2.2.2.2.2.2.2.1 y132.2.2.2.2.2.2.2.2.2.1 y132.2.2.2.2.2.2.2.2.2.2.1 y132.2.2.2.2.2.2.2.2.2.2.2.1) (Item.mk y132.2.2.2.2.2.2.2.2.2.2.2.2.1 y132.2.2.2.2.2.2.2.2.2.2.2.2.2.1 y132.2.2.2.2.2.2.2.2.2.2.2.2.2.2.1 y132.2.2.2.2.2.2.2.2.2.2.2.2.2.2.2.1) y132.2.2.2.2.2.2.2.2.2.2.2.2.2.2.2.2) s399.w (mm [57, 61, 59, 66, 0] s399) uy132_0 vy132_1 uy132_1 vy132_2 uy132_2 vy132_3 vy132_4 ((gu_gt (gv_gu (AG.kp Ky389))).sub (D := [57, 61, 59, 66, 0]) rfl) ((Xh (s := s399) Fy132_0).sub (D := [57, 61, 59, 66, 0]) rfl) (Cy389_382.rd.sub (D := [57, 61, 59, 66, 0]) rfl) ((Xh (s := s399) Fy132_1).sub (D := [57, 61, 59, 66, 0]) rfl) (Cy389_383.rd.sub (D := [57, 61, 59, 66, 0]) rfl) ((Xh (s := s399) Fy132_2).sub (D := [57, 61, 59, 66, 0]) rfl) (Cy389_384.rd.sub (D := [57, 61, 59, 66, 0]) rfl) (Cy389_385.rd.sub (D := [57, 61, 59, 66, 0]) rfl)) (fun r403 s404 p404 n404 => ?_))
  refine Xc rfl (Xc rfl (Xc rfl ?_))
  exact Kj402 _ _ _ ⟨s404, _, rfl, (ue (ue (ue rfl rfl) rfl) rfl), (Ky389.st p404 rfl), (By389_by22_0.st p404 rfl), (By389_b2.st p404 rfl), (Cy389_382.st p404 rfl), (Cy389_383.st p404 rfl), (Cy389_384.st p404 rfl), (Cy389_385.st p404 rfl)⟩
 rintro y402 _ _ ⟨s412, _, rfl, rfl, Ky402, By402_by22_0, By402_b2, Cy402_382, Cy402_383, Cy402_384, Cy402_385⟩
 refine dn (cd rfl (fun h415 => ?_) (fun h415 => ?_))
 ·
  refine sr (bd (cells := [(iI 0), (iI 0), (iI 0), (iI 0), (iI 0), (iI 0), (.float .f64 0), (.slice none 0 0), (iI 0), (iI 0), (.float .f64 0), (.slice none 0 0), (iI 0), (iI 0), (.float .f64 0), (.slice none 0 0), (.slice none 0 0)]) pl35 o35 rfl rfl rfl rfl rfl rfl (Xx (vs := [(iI 0), (iI 0), (iI 0), (iI 0), (iI 0), (iI 0), (.float .f64 0), (.slice none 0 0), (iI 0), (iI 0), (.float .f64 0), (.slice none 0 0), (iI 0), (iI 0), (.float .f64 0), (.slice none 0 0), (.slice none 0 0)]) By402_b2 z35 rfl (Xa rfl (Xa rfl (Xa rfl (Xa rfl (Xa rfl (Xa rfl (Xa (FL.one (Xl rfl)) (Xa rfl (Xa rfl (Xa rfl (Xa (FL.one (Xl rfl)) (Xa rfl (Xa rfl (Xa rfl (Xa (FL.one (Xl rfl)) (Xa rfl (Xa rfl Xi))))))))))))))))) rfl (fun s416 p416 B416 => ?_)))
  replace B416 : BlF s416 b2 35 [(iI 0), (iI 0), (iI 0), (iI 0), (iI 0), (iI 0), (.float .f64 0), (.slice none 0 0), (iI 0), (iI 0), (.float .f64 0), (.slice none 0 0), (iI 0), (iI 0), (.float .f64 0), (.slice none 0 0), (.slice none 0 0)] 40 := B416
  refine Xc rfl (dn ?_)
  have A418 : OwF kd35 s416 [(iI 0), (iI 0), (iI 0), (iI 0), (iI 0), (iI 0), (.float .f64 0), (.slice none 0 0), (iI 0), (iI 0), (.float .f64 0), (.slice none 0 0), (iI 0), (iI 0), (.float .f64 0), (.slice none 0 0), (.slice none 0 0)] (Op.mk (0 : Int) (0 : Int) (0 : Int) (0 : Int) (Item.mk (0 : Int) (0 : Int) (0 : Nat) ([] : (List Int))) (Item.mk (0 : Int) (0 : Int) (0 : Nat) ([] : (List Int))) (Item.mk (0 : Int) (0 : Int) (0 : Nat) ([] : (List Int))) ([] : (List Bool))) 73 := ow_z _ _ (fz_iso (fun x : Op => (x.Kind, x.Seat, x.Level, x.N, x.Key, x.To, x.Value, x.Keep)) (Op.mk (0 : Int) (0 : Int) (0 : Int) (0 : Int) (Item.mk (0 : Int) (0 : Int) (0 : Nat) ([] : (List Int))) (Item.mk (0 : Int) (0 : Int) (0 : Nat) ([] : (List Int))) (Item.mk (0 : Int) (0 : Int) (0 : Nat) ([] : (List Int))) ([] : (List Bool))) (Xf (Xe .i64 (0 : Int)) (Xf (Xe .i64 (0 : Int)) (Xf (Xe .i64 (0 : Int)) (Xf (Xe .i64 (0 : Int)) (Xf (fz_iso (fun x : Item => (x.Kind, x.N, x.F, x.T)) (Item.mk (0 : Int) (0 : Int) (0 : Nat) ([] : (List Int))) (Xf (Xe .i64 (0 : Int)) (Xf (Xe .i64 (0 : Int)) (Xf (Xp (Xl rfl)) (fz_nil 5 (Kd.int .u8)))))) (Xf (fz_iso (fun x : Item => (x.Kind, x.N, x.F, x.T)) (Item.mk (0 : Int) (0 : Int) (0 : Nat) ([] : (List Int))) (Xf (Xe .i64 (0 : Int)) (Xf (Xe .i64 (0 : Int)) (Xf (Xp (Xl rfl)) (fz_nil 5 (Kd.int .u8)))))) (Xf (fz_iso (fun x : Item => (x.Kind, x.N, x.F, x.T)) (Item.mk (0 : Int) (0 : Int) (0 : Nat) ([] : (List Int))) (Xf (Xe .i64 (0 : Int)) (Xf (Xe .i64 (0 : Int)) (Xf (Xp (Xl rfl)) (fz_nil 5 (Kd.int .u8)))))) (fz_nil 4 Kd.bool)))))))))
  have K420 := Ky402.st p416 rfl
  exact re rfl func13 rfl (r_b B416 u35 rfl z35 rfl (r_t rfl Xg)) rfl ⟨_, rfl, (.float .f64 0), (.slice none 0 0), (.float .f64 0), (.slice none 0 0), (.float .f64 0), (.slice none 0 0), (.slice none 0 0), rfl, A418.fo K420 rfl z.l, z.ky K420⟩
 refine sk (sr (lda' (es := [(iI y22), (iI y107.2.2), (iI y132.2.2.1), (iI y132.2.2.2.1), (iI y132.2.2.2.2.1), (iI y132.2.2.2.2.2.1), uy132_0, vy132_1, (iI y132.2.2.2.2.2.2.2.2.1), (iI y132.2.2.2.2.2.2.2.2.2.1), uy132_1, vy132_2, (iI y132.2.2.2.2.2.2.2.2.2.2.2.2.1), (iI y132.2.2.2.2.2.2.2.2.2.2.2.2.2.1), uy132_2, vy132_3, vy132_4]) By402_by22_0 u35 z35 rfl (Xx (vs := [(iI y22), (iI y107.2.2), (iI y132.2.2.1), (iI y132.2.2.2.1), (iI y132.2.2.2.2.1), (iI y132.2.2.2.2.2.1), uy132_0, vy132_1, (iI y132.2.2.2.2.2.2.2.2.1), (iI y132.2.2.2.2.2.2.2.2.2.1), uy132_1, vy132_2, (iI y132.2.2.2.2.2.2.2.2.2.2.2.2.1), (iI y132.2.2.2.2.2.2.2.2.2.2.2.2.2.1), uy132_2, vy132_3, vy132_4]) By402_b2 z35 rfl (Xa rfl (Xa rfl (Xa rfl (Xa rfl (Xa rfl (Xa rfl (Xa (FL.one Fy132_0) (Xa Cy402_382.rd.one (Xa rfl (Xa rfl (Xa (FL.one Fy132_1) (Xa Cy402_383.rd.one (Xa rfl (Xa rfl (Xa (FL.one Fy132_2) (Xa Cy402_384.rd.one (Xa Cy402_385.rd.one Xi))))))))))))))))) rfl (fun s421 p421 B421 => ?_))))
 replace B421 : BlF s421 b2 35 [(iI y22), (iI y107.2.2), (iI y132.2.2.1), (iI y132.2.2.2.1), (iI y132.2.2.2.2.1), (iI y132.2.2.2.2.2.1), uy132_0, vy132_1, (iI y132.2.2.2.2.2.2.2.2.1), (iI y132.2.2.2.2.2.2.2.2.2.1), uy132_1, vy132_2, (iI y132.2.2.2.2.2.2.2.2.2.2.2.2.1), (iI y132.2.2.2.2.2.2.2.2.2.2.2.2.2.1), uy132_2, vy132_3, vy132_4] 40 := B421
 refine Xc rfl (dn ?_)
 obtain ⟨s425, hw425, p425, A425⟩ := ow_2 (Xs (fun x : Item => (x.Kind, x.N, x.F, x.T)) (Item.mk y132.2.2.2.2.2.2.2.2.2.2.2.2.1 y132.2.2.2.2.2.2.2.2.2.2.2.2.2.1 y132.2.2.2.2.2.2.2.2.2.2.2.2.2.2.1 y132.2.2.2.2.2.2.2.2.2.2.2.2.2.2.2.1) (Xn (Xe .i64 y132.2.2.2.2.2.2.2.2.2.2.2.2.1) (Xn (Xe .i64 y132.2.2.2.2.2.2.2.2.2.2.2.2.2.1) (Xn (Xp Fy132_2) (Cy402_384.st p421 rfl))))) (Cy402_385.st p421 rfl) rfl rfl
 rw [hw425]
 obtain ⟨s428, hw428, p428, A428⟩ := ow_2 (Xs (fun x : Item => (x.Kind, x.N, x.F, x.T)) (Item.mk y132.2.2.2.2.2.2.2.2.1 y132.2.2.2.2.2.2.2.2.2.1 y132.2.2.2.2.2.2.2.2.2.2.1 y132.2.2.2.2.2.2.2.2.2.2.2.1) (Xn (Xe .i64 y132.2.2.2.2.2.2.2.2.1) (Xn (Xe .i64 y132.2.2.2.2.2.2.2.2.2.1) (Xn (Xp Fy132_1) (Cy402_383.st (Xk p421 p425) rfl))))) A425 rfl rfl
 rw [hw428]
 obtain ⟨s431, hw431, p431, A431⟩ := ow_2 (Xs (fun x : Item => (x.Kind, x.N, x.F, x.T)) (Item.mk y132.2.2.2.2.1 y132.2.2.2.2.2.1 y132.2.2.2.2.2.2.1 y132.2.2.2.2.2.2.2.1) (Xn (Xe .i64 y132.2.2.2.2.1) (Xn (Xe .i64 y132.2.2.2.2.2.1) (Xn (Xp Fy132_0) (Cy402_382.st (Xw p421 p425 p428) rfl))))) A428 rfl rfl
 rw [hw431]
 have A433 : OwF kd35 s431 [(iI y22), (iI y107.2.2), (iI y132.2.2.1), (iI y132.2.2.2.1), (iI y132.2.2.2.2.1), (iI y132.2.2.2.2.2.1), uy132_0, vy132_1, (iI y132.2.2.2.2.2.2.2.2.1), (iI y132.2.2.2.2.2.2.2.2.2.1), uy132_1, vy132_2, (iI y132.2.2.2.2.2.2.2.2.2.2.2.2.1), (iI y132.2.2.2.2.2.2.2.2.2.2.2.2.2.1), uy132_2, vy132_3, vy132_4] (Op.mk y22 y107.2.2 y132.2.2.1 y132.2.2.2.1 (Item.mk y132.2.2.2.2.1 y132.2.2.2.2.2.1 y132.2.2.2.2.2.2.1 y132.2.2.2.2.2.2.2.1) (Item.mk y132.2.2.2.2.2.2.2.2.1 y132.2.2.2.2.2.2.2.2.2.1 y132.2.2.2.2.2.2.2.2.2.2.1 y132.2.2.2.2.2.2.2.2.2.2.2.1) (Item.mk y132.2.2.2.2.2.2.2.2.2.2.2.2.1 y132.2.2.2.2.2.2.2.2.2.2.2.2.2.1 y132.2.2.2.2.2.2.2.2.2.2.2.2.2.2.1 y132.2.2.2.2.2.2.2.2.2.2.2.2.2.2.2.1) y132.2.2.2.2.2.2.2.2.2.2.2.2.2.2.2.2) 57 := (Xs (fun x : Op => (x.Kind, x.Seat, x.Level, x.N, x.Key, x.To, x.Value, x.Keep)) (Op.mk y22 y107.2.2 y132.2.2.1 y132.2.2.2.1 (Item.mk y132.2.2.2.2.1 y132.2.2.2.2.2.1 y132.2.2.2.2.2.2.1 y132.2.2.2.2.2.2.2.1) (Item.mk y132.2.2.2.2.2.2.2.2.1 y132.2.2.2.2.2.2.2.2.2.1 y132.2.2.2.2.2.2.2.2.2.2.1 y132.2.2.2.2.2.2.2.2.2.2.2.1) (Item.mk y132.2.2.2.2.2.2.2.2.2.2.2.2.1 y132.2.2.2.2.2.2.2.2.2.2.2.2.2.1 y132.2.2.2.2.2.2.2.2.2.2.2.2.2.2.1 y132.2.2.2.2.2.2.2.2.2.2.2.2.2.2.2.1) y132.2.2.2.2.2.2.2.2.2.2.2.2.2.2.2.2) (Xn (Xe .i64 y22) (Xn (Xe .i64 y107.2.2) (Xn (Xe .i64 y132.2.2.1) (Xn (Xe .i64 y132.2.2.2.1) A431)))))
 have K436 := Ky402.st (tr4 p421 p425 p428 p431) rfl
 exact re rfl func13 rfl (r_b (B421.st (Xw p425 p428 p431) rfl) u35 rfl z35 rfl (r_t rfl Xg)) rfl ⟨_, rfl, uy132_0, vy132_1, uy132_1, vy132_2, uy132_2, vy132_3, vy132_4, rfl, A433.fo K436 rfl z.l, z.ky K436⟩
def spec_l5in.f (a0 : Int) (a1 : Int) (a2 : Int) : Option (Bool) :=
 (some ((decide (a0 ≥ a1)) && (decide (a0 ≤ a2))))
def spec_l5in.Q (w : World) (F : Nat → Prop) (r : Bool) (v : Value) (w' : World) : Prop :=
 v = (.bool r) ∧ Ky [] w w'
theorem spec_l5in.calls (a0 : Int) (a1 : Int) (a2 : Int) (w : World) (F : Nat → Prop)   (r : Bool) (m : spec_l5in.f a0 a1 a2 = some r) :
  Calls prog 42 #[(iI a0), (iI a1), (iI a2)] w (RT (spec_l5in.Q w F) r) := by
 obtain ⟨s0, rfl, kp0, z⟩ := Xq w F
 refine Xd (args := [(iI a0), (iI a1), (iI a2)]) func42 ntmps42 rfl rfl m ?_
 unfold spec_l5in.f
 refine sr (Xc rfl (dn (sr (Xc rfl (Xc rfl (Xc rfl (Xc rfl (jy [10, 11, 12, 13, 14] [8] 14 (.bool ((decide (a0 ≥ a1)) && (decide (a0 ≤ a2)))) rfl (fun Kg1 => ?_) (fun j1 => ?_)))))))))
 ·
  rcases bft (decide (a0 ≥ a1)) with hb1 | hb1
  ·
   exact sbT hb1 (Xc rfl (Xc rfl (Xc rfl (Xc rfl (Kg1 _ (Ag.put ((Ag.put ((Ag.put ((Ag.put (Ag.base rfl) rfl)) rfl)) rfl)) rfl) (by rw [hb1]; rfl))))))
  exact sbT hb1 (Xj rfl (Xj rfl (Xj rfl (Xc rfl (Kg1 _ (Ag.put ((Ag.put ((Ag.put ((Ag.put (Ag.base rfl) rfl)) rfl)) rfl)) rfl) (by rw [hb1]; rfl))))))
 exact Xc rfl (dn (re rfl func42 rfl (r_t rfl Xg) rfl ⟨_, rfl, rfl, z.ky kp0⟩))
def spec_KeyOk.f (a0 : Item) : Option (Bool) :=
 ((spec_ItemOk.f a0).bind fun r6 => ((if (r6 && (a0.Kind != (0 : Int))) = true then ((if (fcmp .f64 a0.F (0 : Nat) == some .eq) = true then ((spec_FloatBits.f a0.F).bind fun r13 => (some (r13 != (0 : Int)))) else (some false)).bind fun y12 => (some (!y12))) else (some false)).bind fun y10 => (some y10)))
def spec_KeyOk.Q (w : World) (F : Nat → Prop) (r : Bool) (v : Value) (w' : World) : Prop :=
 v = (.bool r) ∧ Ky [] w w'
theorem spec_KeyOk.calls (a0 : Item) (w : World) (F : Nat → Prop) (w0_0 : Value) (w0_1 : Value) (h0_0 : Kd.flt.rd w [w0_0] a0.F F) (h0_1 : Ya.rd w [w0_1] a0.T F) (r : Bool) (m : spec_KeyOk.f a0 = some r) :
  Calls prog 43 #[(.agg #[(iI a0.Kind), (iI a0.N), w0_0, w0_1])] w (RT (spec_KeyOk.Q w F) r) := by
 obtain ⟨s0, rfl, kp0, z⟩ := Xq w F
 have A0_0 := fl_of h0_0
 refine Xd (args := [(.agg #[(iI a0.Kind), (iI a0.N), w0_0, w0_1])]) func43 ntmps43 rfl rfl m ?_
 unfold spec_KeyOk.f
 refine sr (bx (cs := [(iI a0.Kind), (iI a0.N), w0_0, w0_1]) 40 rfl rfl rfl rfl rfl rfl (fun b2 s2 p2 B2 => ?_))
 refine Xc rfl (dn (sr (lda' (es := [(iI a0.Kind), (iI a0.N), w0_0, w0_1]) B2 u26 z26 rfl ?_)))
 have K4 := kp0.st p2 rfl
 refine clV 41 rfl func9 rfl (spec_ItemOk.calls a0 s2.w (mm [0] s2) w0_0 w0_1 ((Xh (s := s2) A0_0).sub (D := [0]) rfl) ((z.rd h0_1).kp K4)) (fun r6 s7 p7 n7 => ?_)
 refine Xc rfl (jy [5, 6, 7, 8, 9] [7, 8, 9, 10, 11, 12, 13, 14, 15, 16, 17, 18, 19] 9 (.bool (r6 && (a0.Kind != (0 : Int)))) rfl (fun Kg8 => ?_) (fun j8 => ?_))
 ·
  rcases bft r6 with hb8 | hb8
  ·
   refine sbT hb8 (Xt fa26_0 rfl ?_)
   exact ld' (B2.st p7 rfl) u3 rfl (Xc rfl (Xc rfl (Kg8 _ (Ag.put ((Ag.put ((Ag.put ((Ag.put (Ag.base rfl) rfl)) rfl)) rfl)) rfl) (by rw [hb8]; rfl))))
  exact sbT hb8 (Xj rfl (Xj rfl (Xj rfl (Xc rfl (Kg8 _ (Ag.put ((Ag.put ((Ag.put ((Ag.put (Ag.base rfl) rfl)) rfl)) rfl)) rfl) (by rw [hb8]; rfl))))))
 refine Xc rfl (ji [19] (fun (y10 : Bool) e w => ∃ (s : St) (e0 : Env), w = s.w ∧ e = upd e0 21 (.bool y10) ∧ Kp s0 s) (fun Gj10 Kj10 => ?_) ?_)
 ·
  rcases bft (r6 && (a0.Kind != (0 : Int))) with hb10 | hb10
  ·
   refine sbT hb10 ?_
   rw [if_pos hb10]
   refine Xt fa26_2 rfl ?_
   have A11 := B2.st p7 rfl
   refine ld' A11 u24 rfl (fq_ A0_0 (Xl rfl) rfl rfl rfl rfl rfl rfl rfl rfl (Xc rfl (ji [17, 18, 19] (fun (y12 : Bool) e w => ∃ (s : St) (e0 : Env), w = s.w ∧ e = upd (upd e0 10 (.bool true)) 19 (.bool y12) ∧ Kp s0 s) (fun Gj12 Kj12 => ?_) ?_)))
   ·
    rcases bft (fcmp .f64 a0.F (0 : Nat) == some .eq) with hb12 | hb12
    ·
     refine sbT hb12 ?_
     rw [if_pos hb12]
     refine Xt fa26_2 rfl (ld' A11 u24 rfl (clV 42 rfl func29 rfl (spec_FloatBits.calls a0.F s7.w (mm [] s7) w0_0 (Xh (s := s7) A0_0)) (fun r13 s14 p14 n14 => ?_)))
     refine Xc rfl (Xc rfl ?_)
     exact Kj12 _ _ _ ⟨s14, _, rfl, (ue (ue rfl rfl) rfl), (K4.st (Xk p7 p14) rfl)⟩
    refine sbT hb12 ?_
    rw [if_neg (by rw [hb12]; decide)]
    refine Xj rfl (Xj rfl (Xj rfl (Xj rfl (Xc rfl ?_))))
    exact Kj12 _ _ _ ⟨s7, _, rfl, (ue (ue rfl rfl) rfl), (K4.st p7 rfl)⟩
   rintro y12 _ _ ⟨s17, _, rfl, rfl, Ky12⟩
   exact Xc rfl (Xc rfl (Kj10 _ _ _ ⟨s17, _, rfl, (ue rfl rfl), Ky12⟩))
  refine sbT hb10 ?_
  rw [if_neg (by rw [hb10]; decide)]
  refine Xj rfl (Xj rfl (Xj rfl (Xj rfl (Xj rfl (Xj rfl (Xj rfl (Xj rfl (Xj rfl (Xj rfl (Xc rfl ?_))))))))))
  exact Kj10 _ _ _ ⟨s7, _, rfl, (ue rfl rfl), (K4.st p7 rfl)⟩
 rintro y10 _ _ ⟨s19, _, rfl, rfl, Ky10⟩
 exact Xc rfl (dn (re rfl func43 rfl (r_t rfl Xg) rfl ⟨_, rfl, rfl, z.ky Ky10⟩))
end Go.Proofs.YtdhefendaopcbaaGreatDoor
