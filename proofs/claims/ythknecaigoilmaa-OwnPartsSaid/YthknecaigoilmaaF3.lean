import Derived.Test.YthknecaigoilmaaF2
/-! Functions, told; their equations with the evaluator; that they are sound. Written by gen.py. -/
namespace Go.Proofs.Ythknecaigoilmaa
open Go Go.Ev
noncomputable section
set_option linter.unusedVariables false
set_option linter.unusedSimpArgs false
set_option maxRecDepth 100000
/-! ### pyx/pyxlaw1.LimbTells: function 8 -/
noncomputable def pyxlaw1_LimbTells.f (k : Nat) (a0 : Int) (a1 : Int) (a2 : Int) (a3 : Int) (a4 : Int) (a5 : Int) (a6 : Int) (a7 : Bool) : Option Bool := (pyxlaw1_words.f k a0 a1 a4).bind fun t1 => ((pyxlaw1_words.f k a2 a3 a5).bind fun t2 => (((cond ((Int.tmod a4 3) == 0) (some (a0, a6, a7, t1.1, t1.2, t2.1, t2.2, t1.1, t1.2, t2.1, 0)) (some (a0, a6, a7, t1.1, t1.2, t2.1, t2.2, t1.1, t1.2, t2.1, t2.2))) : Option (Int × Int × Bool × Int × Int × Int × Int × Int × Int × Int × Int)).bind fun y14 => (((cond (!y14.2.2.1) ((pyxhand_Pick.f k y14.2.1 300).bind fun t15 => (some (y14.1, IntKind.wrap .i64 (t15 - 20), y14.2.2.2.1, y14.2.2.2.2.1, y14.2.2.2.2.2.1, y14.2.2.2.2.2.2.1, y14.2.2.2.2.2.2.2.1, y14.2.2.2.2.2.2.2.2.1, y14.2.2.2.2.2.2.2.2.2.1, y14.2.2.2.2.2.2.2.2.2.2))) (some (y14.1, y14.2.1, y14.2.2.2.1, y14.2.2.2.2.1, y14.2.2.2.2.2.1, y14.2.2.2.2.2.2.1, y14.2.2.2.2.2.2.2.1, y14.2.2.2.2.2.2.2.2.1, y14.2.2.2.2.2.2.2.2.2.1, y14.2.2.2.2.2.2.2.2.2.2))) : Option (Int × Int × Int × Int × Int × Int × Int × Int × Int × Int)).bind fun y26 => ((pyxref1_Nat2.f k (y26.2.2.1, y26.2.2.2.1)).bind fun t27 => ((pyxref1_Nat2.f k (y26.2.2.2.2.1, y26.2.2.2.2.2.1)).bind fun t28 => ((limb_Add.f k (y26.2.2.1, y26.2.2.2.1) (y26.2.2.2.2.1, y26.2.2.2.2.2.1)).bind fun t29 => ((pyxref1_AddNat.f k t27 t28).bind fun t30 => ((pyxref1_Words2.f k t30).bind fun t31 => (((cond (!((t29.1.1 == t31.1.1) && (t29.1.2 == t31.1.2))) (some (y26.1, y26.2.1, t27, t28, true, y26.2.2.1, y26.2.2.2.1, y26.2.2.2.2.1, y26.2.2.2.2.2.1, y26.2.2.2.2.2.2.1, y26.2.2.2.2.2.2.2.1, y26.2.2.2.2.2.2.2.2.1, y26.2.2.2.2.2.2.2.2.2)) (cond (!(t29.2 == t31.2)) (some (y26.1, y26.2.1, t27, t28, true, y26.2.2.1, y26.2.2.2.1, y26.2.2.2.2.1, y26.2.2.2.2.2.1, y26.2.2.2.2.2.2.1, y26.2.2.2.2.2.2.2.1, y26.2.2.2.2.2.2.2.2.1, y26.2.2.2.2.2.2.2.2.2)) ((limb_Cmp.f k (y26.2.2.1, y26.2.2.2.1) (y26.2.2.2.2.1, y26.2.2.2.2.2.1)).bind fun t45 => ((pyxref1_CmpNat.f k t27 t28).bind fun t46 => (cond (t45 != t46) (some (y26.1, y26.2.1, t27, t28, true, y26.2.2.1, y26.2.2.2.1, y26.2.2.2.2.1, y26.2.2.2.2.2.1, y26.2.2.2.2.2.2.1, y26.2.2.2.2.2.2.2.1, y26.2.2.2.2.2.2.2.2.1, y26.2.2.2.2.2.2.2.2.2)) ((limb_Mul.f k (y26.2.2.1, y26.2.2.2.1) (y26.2.2.2.2.1, y26.2.2.2.2.2.1)).bind fun t47 => ((pyxref1_MulNat.f k t27 t28).bind fun t48 => ((pyxref1_Words4.f k t48).bind fun t49 => (some (y26.1, y26.2.1, t27, t28, !((t47.1 == t49.1) && ((t47.2.1 == t49.2.1) && ((t47.2.2.1 == t49.2.2.1) && (t47.2.2.2 == t49.2.2.2)))), y26.2.2.1, y26.2.2.2.1, y26.2.2.2.2.1, y26.2.2.2.2.2.1, y26.2.2.2.2.2.2.1, y26.2.2.2.2.2.2.2.1, y26.2.2.2.2.2.2.2.2.1, y26.2.2.2.2.2.2.2.2.2)))))))))) : Option (Int × Int × List Int × List Int × Bool × Int × Int × Int × Int × Int × Int × Int × Int)).bind fun y50 => (cond (y50.2.2.2.2.1) (some false) ((limb_Sub.f k (y50.2.2.2.2.2.1, y50.2.2.2.2.2.2.1) (y50.2.2.2.2.2.2.2.1, y50.2.2.2.2.2.2.2.2.1)).bind fun t51 => ((((pyxref1_CmpNat.f k y50.2.2.1 y50.2.2.2.1).bind fun t52 => (cond (!(t51.2 == (decide (t52 ≥ 0)))) (some (y50.1, y50.2.1, y50.2.2.1, true, y50.2.2.2.2.2.1, y50.2.2.2.2.2.2.1, y50.2.2.2.2.2.2.2.2.2.1, y50.2.2.2.2.2.2.2.2.2.2.1, y50.2.2.2.2.2.2.2.2.2.2.2.1, y50.2.2.2.2.2.2.2.2.2.2.2.2)) (cond (t51.2) ((pyxref1_Nat2.f k (t51.1.1, t51.1.2)).bind fun t63 => ((pyxref1_AddNat.f k t63 y50.2.2.2.1).bind fun t64 => ((pyxref1_CmpNat.f k t64 y50.2.2.1).bind fun t65 => (cond (t65 != 0) (some (y50.1, y50.2.1, y50.2.2.1, true, y50.2.2.2.2.2.1, y50.2.2.2.2.2.2.1, y50.2.2.2.2.2.2.2.2.2.1, y50.2.2.2.2.2.2.2.2.2.2.1, y50.2.2.2.2.2.2.2.2.2.2.2.1, y50.2.2.2.2.2.2.2.2.2.2.2.2)) (cond (!t51.2) (some (y50.1, y50.2.1, y50.2.2.1, !((t51.1.1 == 0) && (t51.1.2 == 0)), y50.2.2.2.2.2.1, y50.2.2.2.2.2.2.1, y50.2.2.2.2.2.2.2.2.2.1, y50.2.2.2.2.2.2.2.2.2.2.1, y50.2.2.2.2.2.2.2.2.2.2.2.1, y50.2.2.2.2.2.2.2.2.2.2.2.2)) (some (y50.1, y50.2.1, y50.2.2.1, false, y50.2.2.2.2.2.1, y50.2.2.2.2.2.2.1, y50.2.2.2.2.2.2.2.2.2.1, y50.2.2.2.2.2.2.2.2.2.2.1, y50.2.2.2.2.2.2.2.2.2.2.2.1, y50.2.2.2.2.2.2.2.2.2.2.2.2))))))) (cond (!t51.2) (some (y50.1, y50.2.1, y50.2.2.1, !((t51.1.1 == 0) && (t51.1.2 == 0)), y50.2.2.2.2.2.1, y50.2.2.2.2.2.2.1, y50.2.2.2.2.2.2.2.2.2.1, y50.2.2.2.2.2.2.2.2.2.2.1, y50.2.2.2.2.2.2.2.2.2.2.2.1, y50.2.2.2.2.2.2.2.2.2.2.2.2)) (some (y50.1, y50.2.1, y50.2.2.1, false, y50.2.2.2.2.2.1, y50.2.2.2.2.2.2.1, y50.2.2.2.2.2.2.2.2.2.1, y50.2.2.2.2.2.2.2.2.2.2.1, y50.2.2.2.2.2.2.2.2.2.2.2.1, y50.2.2.2.2.2.2.2.2.2.2.2.2)))))) : Option (Int × Int × List Int × Bool × Int × Int × Int × Int × Int × Int)).bind fun y66 => (cond (y66.2.2.2.1) (some false) ((limb_Div.f k (y66.2.2.2.2.2.2.1, y66.2.2.2.2.2.2.2.1, y66.2.2.2.2.2.2.2.2.1, y66.2.2.2.2.2.2.2.2.2) (y66.2.2.2.2.1, y66.2.2.2.2.2.1)).bind fun t67 => (cond (!(t67.2.2 == (decide ((List.length y66.2.2.1 : Int) > 0)))) (some false) (((cond (t67.2.2) ((pyxref1_Nat4.f k (y66.2.2.2.2.2.2.1, y66.2.2.2.2.2.2.2.1, y66.2.2.2.2.2.2.2.2.1, y66.2.2.2.2.2.2.2.2.2)).bind fun t68 => ((pyxref1_DivNat.f k t68 y66.2.2.1).bind fun t69 => ((pyxref1_Words4.f k t69.1).bind fun t70 => (cond (!((t67.1.1 == t70.1) && ((t67.1.2.1 == t70.2.1) && ((t67.1.2.2.1 == t70.2.2.1) && (t67.1.2.2.2 == t70.2.2.2))))) (some (.inr false)) ((pyxref1_Nat2.f k (t67.2.1.1, t67.2.1.2)).bind fun t71 => ((pyxref1_CmpNat.f k t71 t69.2).bind fun t72 => (cond (t72 != 0) (some (.inr false)) (some (.inl (y66.1, y66.2.1, y66.2.2.2.2.1, y66.2.2.2.2.2.1, y66.2.2.2.2.2.2.1, y66.2.2.2.2.2.2.2.1, y66.2.2.2.2.2.2.2.2.1, y66.2.2.2.2.2.2.2.2.2)))))))))) (some (.inl (y66.1, y66.2.1, y66.2.2.2.2.1, y66.2.2.2.2.2.1, y66.2.2.2.2.2.2.1, y66.2.2.2.2.2.2.2.1, y66.2.2.2.2.2.2.2.2.1, y66.2.2.2.2.2.2.2.2.2)))) : Option ((Int × Int × Int × Int × Int × Int × Int × Int) ⊕ Bool)).bind fun | .inl y82 => ((limb_Short.f k (y82.2.2.2.2.1, y82.2.2.2.2.2.1, y82.2.2.2.2.2.2.1, y82.2.2.2.2.2.2.2)).bind fun t83 => (((cond (y82.2.2.2.2.2.2.1 == 0) (cond (!(t83.2 == (y82.2.2.2.2.2.2.2 == 0))) (some (y82.1, y82.2.1, true, y82.2.2.1, y82.2.2.2.1, y82.2.2.2.2.1, y82.2.2.2.2.2.1, y82.2.2.2.2.2.2.1, y82.2.2.2.2.2.2.2)) (cond (t83.2) (cond (!((t83.1.1 == y82.2.2.2.2.1) && (t83.1.2 == y82.2.2.2.2.2.1))) (some (y82.1, y82.2.1, true, y82.2.2.1, y82.2.2.2.1, y82.2.2.2.2.1, y82.2.2.2.2.2.1, y82.2.2.2.2.2.2.1, y82.2.2.2.2.2.2.2)) (cond (!t83.2) (some (y82.1, y82.2.1, !((t83.1.1 == 0) && (t83.1.2 == 0)), y82.2.2.1, y82.2.2.2.1, y82.2.2.2.2.1, y82.2.2.2.2.2.1, y82.2.2.2.2.2.2.1, y82.2.2.2.2.2.2.2)) (some (y82.1, y82.2.1, false, y82.2.2.1, y82.2.2.2.1, y82.2.2.2.2.1, y82.2.2.2.2.2.1, y82.2.2.2.2.2.2.1, y82.2.2.2.2.2.2.2)))) (cond (!t83.2) (some (y82.1, y82.2.1, !((t83.1.1 == 0) && (t83.1.2 == 0)), y82.2.2.1, y82.2.2.2.1, y82.2.2.2.2.1, y82.2.2.2.2.2.1, y82.2.2.2.2.2.2.1, y82.2.2.2.2.2.2.2)) (some (y82.1, y82.2.1, false, y82.2.2.1, y82.2.2.2.1, y82.2.2.2.2.1, y82.2.2.2.2.2.1, y82.2.2.2.2.2.2.1, y82.2.2.2.2.2.2.2))))) (cond (!(t83.2 == false)) (some (y82.1, y82.2.1, true, y82.2.2.1, y82.2.2.2.1, y82.2.2.2.2.1, y82.2.2.2.2.2.1, y82.2.2.2.2.2.2.1, y82.2.2.2.2.2.2.2)) (cond (t83.2) (cond (!((t83.1.1 == y82.2.2.2.2.1) && (t83.1.2 == y82.2.2.2.2.2.1))) (some (y82.1, y82.2.1, true, y82.2.2.1, y82.2.2.2.1, y82.2.2.2.2.1, y82.2.2.2.2.2.1, y82.2.2.2.2.2.2.1, y82.2.2.2.2.2.2.2)) (cond (!t83.2) (some (y82.1, y82.2.1, !((t83.1.1 == 0) && (t83.1.2 == 0)), y82.2.2.1, y82.2.2.2.1, y82.2.2.2.2.1, y82.2.2.2.2.2.1, y82.2.2.2.2.2.2.1, y82.2.2.2.2.2.2.2)) (some (y82.1, y82.2.1, false, y82.2.2.1, y82.2.2.2.1, y82.2.2.2.2.1, y82.2.2.2.2.2.1, y82.2.2.2.2.2.2.1, y82.2.2.2.2.2.2.2)))) (cond (!t83.2) (some (y82.1, y82.2.1, !((t83.1.1 == 0) && (t83.1.2 == 0)), y82.2.2.1, y82.2.2.2.1, y82.2.2.2.2.1, y82.2.2.2.2.2.1, y82.2.2.2.2.2.2.1, y82.2.2.2.2.2.2.2)) (some (y82.1, y82.2.1, false, y82.2.2.1, y82.2.2.2.1, y82.2.2.2.2.1, y82.2.2.2.2.2.1, y82.2.2.2.2.2.2.1, y82.2.2.2.2.2.2.2)))))) : Option (Int × Int × Bool × Int × Int × Int × Int × Int × Int)).bind fun y93 => (cond (y93.2.2.1) (some false) ((pyxhand_Pick.f k y93.2.1 45).bind fun t94 => ((limb_Ten.f k (IntKind.wrap .i64 (t94 - 3))).bind fun t95 => (((cond (decide ((IntKind.wrap .i64 (t94 - 3)) ≥ 0)) (cond (!(t95.2 == (decide ((IntKind.wrap .i64 (t94 - 3)) ≤ 38)))) (some (y93.1, y93.2.1, true, y93.2.2.2.1, y93.2.2.2.2.1, y93.2.2.2.2.2.1, y93.2.2.2.2.2.2.1, y93.2.2.2.2.2.2.2.1, y93.2.2.2.2.2.2.2.2)) (cond (t95.2) ((pyxref1_Nat2.f k (t95.1.1, t95.1.2)).bind fun t105 => ((pyxref1_TenNat.f k (IntKind.wrap .i64 (t94 - 3))).bind fun t106 => ((pyxref1_CmpNat.f k t105 t106).bind fun t107 => (some (y93.1, y93.2.1, t107 != 0, y93.2.2.2.1, y93.2.2.2.2.1, y93.2.2.2.2.2.1, y93.2.2.2.2.2.2.1, y93.2.2.2.2.2.2.2.1, y93.2.2.2.2.2.2.2.2))))) (some (y93.1, y93.2.1, false, y93.2.2.2.1, y93.2.2.2.2.1, y93.2.2.2.2.2.1, y93.2.2.2.2.2.2.1, y93.2.2.2.2.2.2.2.1, y93.2.2.2.2.2.2.2.2)))) (cond (!(t95.2 == false)) (some (y93.1, y93.2.1, true, y93.2.2.2.1, y93.2.2.2.2.1, y93.2.2.2.2.2.1, y93.2.2.2.2.2.2.1, y93.2.2.2.2.2.2.2.1, y93.2.2.2.2.2.2.2.2)) (cond (t95.2) ((pyxref1_Nat2.f k (t95.1.1, t95.1.2)).bind fun t108 => ((pyxref1_TenNat.f k (IntKind.wrap .i64 (t94 - 3))).bind fun t109 => ((pyxref1_CmpNat.f k t108 t109).bind fun t110 => (some (y93.1, y93.2.1, t110 != 0, y93.2.2.2.1, y93.2.2.2.2.1, y93.2.2.2.2.2.1, y93.2.2.2.2.2.2.1, y93.2.2.2.2.2.2.2.1, y93.2.2.2.2.2.2.2.2))))) (some (y93.1, y93.2.1, false, y93.2.2.2.1, y93.2.2.2.2.1, y93.2.2.2.2.2.1, y93.2.2.2.2.2.2.1, y93.2.2.2.2.2.2.2.1, y93.2.2.2.2.2.2.2.2))))) : Option (Int × Int × Bool × Int × Int × Int × Int × Int × Int)).bind fun y111 => (cond (y111.2.2.1) (some false) ((pyxlaw1_known.f k).bind fun t112 => (cond (t112) ((limb_Left.f k (y111.2.2.2.2.2.1, y111.2.2.2.2.2.2.1, y111.2.2.2.2.2.2.2.1, y111.2.2.2.2.2.2.2.2) y111.2.1).bind fun t113 => ((pyxref1_Left.f k (y111.2.2.2.2.2.1, y111.2.2.2.2.2.2.1, y111.2.2.2.2.2.2.2.1, y111.2.2.2.2.2.2.2.2) y111.2.1).bind fun t114 => (cond ((t113.1 == t114.1) && ((t113.2.1 == t114.2.1) && ((t113.2.2.1 == t114.2.2.1) && (t113.2.2.2 == t114.2.2.2)))) ((limb_Right.f k (y111.2.2.2.2.2.1, y111.2.2.2.2.2.2.1, y111.2.2.2.2.2.2.2.1, y111.2.2.2.2.2.2.2.2) y111.2.1).bind fun t115 => ((pyxref1_Right.f k (y111.2.2.2.2.2.1, y111.2.2.2.2.2.2.1, y111.2.2.2.2.2.2.2.1, y111.2.2.2.2.2.2.2.2) y111.2.1).bind fun t116 => (cond ((t115.1 == t116.1) && ((t115.2.1 == t116.2.1) && ((t115.2.2.1 == t116.2.2.1) && (t115.2.2.2 == t116.2.2.2)))) ((limb_Bits.f k (y111.2.2.2.2.2.1, y111.2.2.2.2.2.2.1, y111.2.2.2.2.2.2.2.1, y111.2.2.2.2.2.2.2.2)).bind fun t117 => ((pyxref1_Bits.f k (y111.2.2.2.2.2.1, y111.2.2.2.2.2.2.1, y111.2.2.2.2.2.2.2.1, y111.2.2.2.2.2.2.2.2)).bind fun t118 => (cond (t117 == t118) ((limb_Wide.f k (y111.2.2.2.1, y111.2.2.2.2.1)).bind fun t119 => (cond ((t119.1 == y111.2.2.2.1) && ((t119.2.1 == y111.2.2.2.2.1) && ((t119.2.2.1 == 0) && (t119.2.2.2 == 0)))) ((limb_Of.f k y111.1).bind fun t120 => (some ((t120.1 == y111.1) && (t120.2 == 0)))) (some false))) (some false)))) (some false)))) (some false)))) (some false)))))))))) | .inr y121 => (some y121)))))))))))))))))
noncomputable def pyxlaw1_LimbTells.un : List (AV U) → Option (Int × Int × Int × Int × Int × Int × Int × Bool) | [.flat (.int .u64 x1), .flat (.int .u64 x2), .flat (.int .u64 x3), .flat (.int .u64 x4), .flat (.int .i64 x5), .flat (.int .i64 x6), .flat (.int .i64 x7), .flat (.bool x8)] => some (x1, x2, x3, x4, x5, x6, x7, x8) | _ => none
noncomputable def pyxlaw1_LimbTells.mk (x : (Int × Int × Int × Int × Int × Int × Int × Bool)) : List (AV U) := [.flat (.int .u64 x.1), .flat (.int .u64 x.2.1), .flat (.int .u64 x.2.2.1), .flat (.int .u64 x.2.2.2.1), .flat (.int .i64 x.2.2.2.2.1), .flat (.int .i64 x.2.2.2.2.2.1), .flat (.int .i64 x.2.2.2.2.2.2.1), .flat (.bool x.2.2.2.2.2.2.2)]
noncomputable def pyxlaw1_LimbTells.D (k : Nat) : FDen U := { X := (Int × Int × Int × Int × Int × Int × Int × Bool), Y := Bool, un := pyxlaw1_LimbTells.un, f := fun x => pyxlaw1_LimbTells.f k (x.1) (x.2.1) (x.2.2.1) (x.2.2.2.1) (x.2.2.2.2.1) (x.2.2.2.2.2.1) (x.2.2.2.2.2.2.1) (x.2.2.2.2.2.2.2), fin := fun y => .flat (.bool y) }
noncomputable def pyxlaw1_LimbTells.re : AV U → Option Bool | .flat (.bool x1) => some x1 | _ => none
noncomputable def pyxlaw1_LimbTells.j5001.fin (y : (Int × Int × Bool × Int × Int × Int × Int × Int × Int × Int × Int)) : Out U := match y with | (x3, x4, x5, x6, x7, x8, x9, x10, x11, x12, x13) => .norm ⟨[(17, .ptr 17 0), (18, .ptr 18 0), (19, .ptr 19 0), (0, .flat (.int .u64 x3)), (6, .flat (.int .i64 x4)), (7, .flat (.bool x5))], [(17, .lit [.flat (.int .u64 x6), .flat (.int .u64 x7)]), (18, .lit [.flat (.int .u64 x8), .flat (.int .u64 x9)]), (19, .lit [.flat (.int .u64 x10), .flat (.int .u64 x11), .flat (.int .u64 x12), .flat (.int .u64 x13)])]⟩
noncomputable def pyxlaw1_LimbTells.j5001.finK {ρ : Type} (y : (Int × Int × Bool × Int × Int × Int × Int × Int × Int × Int × Int)) (K : Out U → Option ρ) : Option ρ := match y with | (x3, x4, x5, x6, x7, x8, x9, x10, x11, x12, x13) => K (.norm ⟨[(17, .ptr 17 0), (18, .ptr 18 0), (19, .ptr 19 0), (0, .flat (.int .u64 x3)), (6, .flat (.int .i64 x4)), (7, .flat (.bool x5))], [(17, .lit [.flat (.int .u64 x6), .flat (.int .u64 x7)]), (18, .lit [.flat (.int .u64 x8), .flat (.int .u64 x9)]), (19, .lit [.flat (.int .u64 x10), .flat (.int .u64 x11), .flat (.int .u64 x12), .flat (.int .u64 x13)])]⟩)
theorem pyxlaw1_LimbTells.j5001.finK_eq {ρ : Type} (y : (Int × Int × Bool × Int × Int × Int × Int × Int × Int × Int × Int)) (K : Out U → Option ρ) : pyxlaw1_LimbTells.j5001.finK y K = K (pyxlaw1_LimbTells.j5001.fin y) := by
  unfold pyxlaw1_LimbTells.j5001.finK pyxlaw1_LimbTells.j5001.fin
  first | rfl | (split <;> rfl)
noncomputable def pyxlaw1_LimbTells.j5001.re : Out U → Option ((Int × Int × Bool × Int × Int × Int × Int × Int × Int × Int × Int)) | .norm s => (match s.get 17, s.get 18, s.get 19, s.get 0, s.get 6, s.get 7, lk s.o 17, lk s.o 18, lk s.o 19 with | .ptr 17 0, .ptr 18 0, .ptr 19 0, .flat (.int .u64 x3), .flat (.int .i64 x4), .flat (.bool x5), some (.lit [.flat (.int .u64 x6), .flat (.int .u64 x7)]), some (.lit [.flat (.int .u64 x8), .flat (.int .u64 x9)]), some (.lit [.flat (.int .u64 x10), .flat (.int .u64 x11), .flat (.int .u64 x12), .flat (.int .u64 x13)]) => some (x3, x4, x5, x6, x7, x8, x9, x10, x11, x12, x13) | _, _, _, _, _, _, _, _, _ => none) | _ => none
noncomputable def pyxlaw1_LimbTells.j5001.J : JDen U := { Y := (Int × Int × Bool × Int × Int × Int × Int × Int × Int × Int × Int), re := pyxlaw1_LimbTells.j5001.re, fin := pyxlaw1_LimbTells.j5001.fin, finK := pyxlaw1_LimbTells.j5001.finK, finK_eq := pyxlaw1_LimbTells.j5001.finK_eq }
theorem pyxlaw1_LimbTells.j5001.fit (o : Out U) (y : (Int × Int × Bool × Int × Int × Int × Int × Int × Int × Int × Int)) (h : pyxlaw1_LimbTells.j5001.re o = some y) : FitsO o (pyxlaw1_LimbTells.j5001.fin y) := by
  unfold pyxlaw1_LimbTells.j5001.re at h
  split at h
  · split at h
    · cases h
      refine fitsO_norm (fits_ren [] ?_ ?_ ren_nil rfl)
      · exact List.forall_mem_cons.2 ⟨FV.same (by assumption) (fun _ _ _ hh => by cases hh) (fun _ hh => by cases hh), List.forall_mem_cons.2 ⟨FV.same (by assumption) (fun _ _ _ hh => by cases hh) (fun _ hh => by cases hh), List.forall_mem_cons.2 ⟨FV.same (by assumption) (fun _ _ _ hh => by cases hh) (fun _ hh => by cases hh), List.forall_mem_cons.2 ⟨FV.same (by assumption) (fun _ _ _ hh => by cases hh) (fun _ hh => by cases hh), List.forall_mem_cons.2 ⟨FV.same (by assumption) (fun _ _ _ hh => by cases hh) (fun _ hh => by cases hh), List.forall_mem_cons.2 ⟨FV.same (by assumption) (fun _ _ _ hh => by cases hh) (fun _ hh => by cases hh), fun _ hp => (List.not_mem_nil hp).elim⟩⟩⟩⟩⟩⟩
      · exact List.forall_mem_cons.2 ⟨(show lk (St.o _) 17 = some _ from by assumption), List.forall_mem_cons.2 ⟨(show lk (St.o _) 18 = some _ from by assumption), List.forall_mem_cons.2 ⟨(show lk (St.o _) 19 = some _ from by assumption), fun _ hp => (List.not_mem_nil hp).elim⟩⟩⟩
    · cases h
  · cases h
noncomputable def pyxlaw1_LimbTells.j7001.fin (y : (Int × Int × Int × Int × Int × Int × Int × Int × Int × Int)) : Out U := match y with | (x16, x17, x18, x19, x20, x21, x22, x23, x24, x25) => .norm ⟨[(17, .ptr 17 0), (18, .ptr 18 0), (19, .ptr 19 0), (0, .flat (.int .u64 x16)), (6, .flat (.int .i64 x17))], [(17, .lit [.flat (.int .u64 x18), .flat (.int .u64 x19)]), (18, .lit [.flat (.int .u64 x20), .flat (.int .u64 x21)]), (19, .lit [.flat (.int .u64 x22), .flat (.int .u64 x23), .flat (.int .u64 x24), .flat (.int .u64 x25)])]⟩
noncomputable def pyxlaw1_LimbTells.j7001.finK {ρ : Type} (y : (Int × Int × Int × Int × Int × Int × Int × Int × Int × Int)) (K : Out U → Option ρ) : Option ρ := match y with | (x16, x17, x18, x19, x20, x21, x22, x23, x24, x25) => K (.norm ⟨[(17, .ptr 17 0), (18, .ptr 18 0), (19, .ptr 19 0), (0, .flat (.int .u64 x16)), (6, .flat (.int .i64 x17))], [(17, .lit [.flat (.int .u64 x18), .flat (.int .u64 x19)]), (18, .lit [.flat (.int .u64 x20), .flat (.int .u64 x21)]), (19, .lit [.flat (.int .u64 x22), .flat (.int .u64 x23), .flat (.int .u64 x24), .flat (.int .u64 x25)])]⟩)
theorem pyxlaw1_LimbTells.j7001.finK_eq {ρ : Type} (y : (Int × Int × Int × Int × Int × Int × Int × Int × Int × Int)) (K : Out U → Option ρ) : pyxlaw1_LimbTells.j7001.finK y K = K (pyxlaw1_LimbTells.j7001.fin y) := by
  unfold pyxlaw1_LimbTells.j7001.finK pyxlaw1_LimbTells.j7001.fin
  first | rfl | (split <;> rfl)
noncomputable def pyxlaw1_LimbTells.j7001.re : Out U → Option ((Int × Int × Int × Int × Int × Int × Int × Int × Int × Int)) | .norm s => (match s.get 17, s.get 18, s.get 19, s.get 0, s.get 6, lk s.o 17, lk s.o 18, lk s.o 19 with | .ptr 17 0, .ptr 18 0, .ptr 19 0, .flat (.int .u64 x16), .flat (.int .i64 x17), some (.lit [.flat (.int .u64 x18), .flat (.int .u64 x19)]), some (.lit [.flat (.int .u64 x20), .flat (.int .u64 x21)]), some (.lit [.flat (.int .u64 x22), .flat (.int .u64 x23), .flat (.int .u64 x24), .flat (.int .u64 x25)]) => some (x16, x17, x18, x19, x20, x21, x22, x23, x24, x25) | _, _, _, _, _, _, _, _ => none) | _ => none
noncomputable def pyxlaw1_LimbTells.j7001.J : JDen U := { Y := (Int × Int × Int × Int × Int × Int × Int × Int × Int × Int), re := pyxlaw1_LimbTells.j7001.re, fin := pyxlaw1_LimbTells.j7001.fin, finK := pyxlaw1_LimbTells.j7001.finK, finK_eq := pyxlaw1_LimbTells.j7001.finK_eq }
theorem pyxlaw1_LimbTells.j7001.fit (o : Out U) (y : (Int × Int × Int × Int × Int × Int × Int × Int × Int × Int)) (h : pyxlaw1_LimbTells.j7001.re o = some y) : FitsO o (pyxlaw1_LimbTells.j7001.fin y) := by
  unfold pyxlaw1_LimbTells.j7001.re at h
  split at h
  · split at h
    · cases h
      refine fitsO_norm (fits_ren [] ?_ ?_ ren_nil rfl)
      · exact List.forall_mem_cons.2 ⟨FV.same (by assumption) (fun _ _ _ hh => by cases hh) (fun _ hh => by cases hh), List.forall_mem_cons.2 ⟨FV.same (by assumption) (fun _ _ _ hh => by cases hh) (fun _ hh => by cases hh), List.forall_mem_cons.2 ⟨FV.same (by assumption) (fun _ _ _ hh => by cases hh) (fun _ hh => by cases hh), List.forall_mem_cons.2 ⟨FV.same (by assumption) (fun _ _ _ hh => by cases hh) (fun _ hh => by cases hh), List.forall_mem_cons.2 ⟨FV.same (by assumption) (fun _ _ _ hh => by cases hh) (fun _ hh => by cases hh), fun _ hp => (List.not_mem_nil hp).elim⟩⟩⟩⟩⟩
      · exact List.forall_mem_cons.2 ⟨(show lk (St.o _) 17 = some _ from by assumption), List.forall_mem_cons.2 ⟨(show lk (St.o _) 18 = some _ from by assumption), List.forall_mem_cons.2 ⟨(show lk (St.o _) 19 = some _ from by assumption), fun _ hp => (List.not_mem_nil hp).elim⟩⟩⟩
    · cases h
  · cases h
noncomputable def pyxlaw1_LimbTells.j12000.fin (y : (Int × Int × List Int × List Int × Bool × Int × Int × Int × Int × Int × Int × Int × Int)) : Out U := match y with | (x32, x33, x42, x43, x44, x34, x35, x36, x37, x38, x39, x40, x41) => .norm ⟨[(17, .ptr 17 0), (18, .ptr 18 0), (19, .ptr 19 0), (0, .flat (.int .u64 x32)), (6, .flat (.int .i64 x33)), (20, .row C.i64 x42), (21, .row C.i64 x43), (107, .flat (.bool x44))], [(17, .lit [.flat (.int .u64 x34), .flat (.int .u64 x35)]), (18, .lit [.flat (.int .u64 x36), .flat (.int .u64 x37)]), (19, .lit [.flat (.int .u64 x38), .flat (.int .u64 x39), .flat (.int .u64 x40), .flat (.int .u64 x41)])]⟩
noncomputable def pyxlaw1_LimbTells.j12000.finK {ρ : Type} (y : (Int × Int × List Int × List Int × Bool × Int × Int × Int × Int × Int × Int × Int × Int)) (K : Out U → Option ρ) : Option ρ := match y with | (x32, x33, x42, x43, x44, x34, x35, x36, x37, x38, x39, x40, x41) => K (.norm ⟨[(17, .ptr 17 0), (18, .ptr 18 0), (19, .ptr 19 0), (0, .flat (.int .u64 x32)), (6, .flat (.int .i64 x33)), (20, .row C.i64 x42), (21, .row C.i64 x43), (107, .flat (.bool x44))], [(17, .lit [.flat (.int .u64 x34), .flat (.int .u64 x35)]), (18, .lit [.flat (.int .u64 x36), .flat (.int .u64 x37)]), (19, .lit [.flat (.int .u64 x38), .flat (.int .u64 x39), .flat (.int .u64 x40), .flat (.int .u64 x41)])]⟩)
theorem pyxlaw1_LimbTells.j12000.finK_eq {ρ : Type} (y : (Int × Int × List Int × List Int × Bool × Int × Int × Int × Int × Int × Int × Int × Int)) (K : Out U → Option ρ) : pyxlaw1_LimbTells.j12000.finK y K = K (pyxlaw1_LimbTells.j12000.fin y) := by
  unfold pyxlaw1_LimbTells.j12000.finK pyxlaw1_LimbTells.j12000.fin
  first | rfl | (split <;> rfl)
noncomputable def pyxlaw1_LimbTells.j12000.re : Out U → Option ((Int × Int × List Int × List Int × Bool × Int × Int × Int × Int × Int × Int × Int × Int)) | .norm s => ((row_i64 (s.get 20)).bind fun q0 => ((row_i64 (s.get 21)).bind fun q1 => (match s.get 17, s.get 18, s.get 19, s.get 0, s.get 6, s.get 107, lk s.o 17, lk s.o 18, lk s.o 19 with | .ptr 17 0, .ptr 18 0, .ptr 19 0, .flat (.int .u64 x32), .flat (.int .i64 x33), .flat (.bool x44), some (.lit [.flat (.int .u64 x34), .flat (.int .u64 x35)]), some (.lit [.flat (.int .u64 x36), .flat (.int .u64 x37)]), some (.lit [.flat (.int .u64 x38), .flat (.int .u64 x39), .flat (.int .u64 x40), .flat (.int .u64 x41)]) => some (x32, x33, q0, q1, x44, x34, x35, x36, x37, x38, x39, x40, x41) | _, _, _, _, _, _, _, _, _ => none))) | _ => none
noncomputable def pyxlaw1_LimbTells.j12000.J : JDen U := { Y := (Int × Int × List Int × List Int × Bool × Int × Int × Int × Int × Int × Int × Int × Int), re := pyxlaw1_LimbTells.j12000.re, fin := pyxlaw1_LimbTells.j12000.fin, finK := pyxlaw1_LimbTells.j12000.finK, finK_eq := pyxlaw1_LimbTells.j12000.finK_eq }
theorem pyxlaw1_LimbTells.j12000.fit (o : Out U) (y : (Int × Int × List Int × List Int × Bool × Int × Int × Int × Int × Int × Int × Int × Int)) (h : pyxlaw1_LimbTells.j12000.re o = some y) : FitsO o (pyxlaw1_LimbTells.j12000.fin y) := by
  unfold pyxlaw1_LimbTells.j12000.re at h
  split at h
  · obtain ⟨q0, eq0, h1⟩ := Option.bind_eq_some_iff.1 h
    obtain ⟨q1, eq1, h2⟩ := Option.bind_eq_some_iff.1 h1
    split at h2
    · cases h2
      refine fitsO_norm (fits_ren [] ?_ ?_ ren_nil rfl)
      · exact List.forall_mem_cons.2 ⟨FV.same (by assumption) (fun _ _ _ hh => by cases hh) (fun _ hh => by cases hh), List.forall_mem_cons.2 ⟨FV.same (by assumption) (fun _ _ _ hh => by cases hh) (fun _ hh => by cases hh), List.forall_mem_cons.2 ⟨FV.same (by assumption) (fun _ _ _ hh => by cases hh) (fun _ hh => by cases hh), List.forall_mem_cons.2 ⟨FV.same (by assumption) (fun _ _ _ hh => by cases hh) (fun _ hh => by cases hh), List.forall_mem_cons.2 ⟨FV.same (by assumption) (fun _ _ _ hh => by cases hh) (fun _ hh => by cases hh), List.forall_mem_cons.2 ⟨row_i64_fit eq0, List.forall_mem_cons.2 ⟨row_i64_fit eq1, List.forall_mem_cons.2 ⟨FV.same (by assumption) (fun _ _ _ hh => by cases hh) (fun _ hh => by cases hh), fun _ hp => (List.not_mem_nil hp).elim⟩⟩⟩⟩⟩⟩⟩⟩
      · exact List.forall_mem_cons.2 ⟨(show lk (St.o _) 17 = some _ from by assumption), List.forall_mem_cons.2 ⟨(show lk (St.o _) 18 = some _ from by assumption), List.forall_mem_cons.2 ⟨(show lk (St.o _) 19 = some _ from by assumption), fun _ hp => (List.not_mem_nil hp).elim⟩⟩⟩
    · cases h2
  · cases h
noncomputable def pyxlaw1_LimbTells.j15000.fin (y : (Int × Int × List Int × Bool × Int × Int × Int × Int × Int × Int)) : Out U := match y with | (x53, x54, x61, x62, x55, x56, x57, x58, x59, x60) => .norm ⟨[(17, .ptr 17 0), (19, .ptr 19 0), (0, .flat (.int .u64 x53)), (6, .flat (.int .i64 x54)), (20, .row C.i64 x61), (140, .flat (.bool x62))], [(17, .lit [.flat (.int .u64 x55), .flat (.int .u64 x56)]), (19, .lit [.flat (.int .u64 x57), .flat (.int .u64 x58), .flat (.int .u64 x59), .flat (.int .u64 x60)])]⟩
noncomputable def pyxlaw1_LimbTells.j15000.finK {ρ : Type} (y : (Int × Int × List Int × Bool × Int × Int × Int × Int × Int × Int)) (K : Out U → Option ρ) : Option ρ := match y with | (x53, x54, x61, x62, x55, x56, x57, x58, x59, x60) => K (.norm ⟨[(17, .ptr 17 0), (19, .ptr 19 0), (0, .flat (.int .u64 x53)), (6, .flat (.int .i64 x54)), (20, .row C.i64 x61), (140, .flat (.bool x62))], [(17, .lit [.flat (.int .u64 x55), .flat (.int .u64 x56)]), (19, .lit [.flat (.int .u64 x57), .flat (.int .u64 x58), .flat (.int .u64 x59), .flat (.int .u64 x60)])]⟩)
theorem pyxlaw1_LimbTells.j15000.finK_eq {ρ : Type} (y : (Int × Int × List Int × Bool × Int × Int × Int × Int × Int × Int)) (K : Out U → Option ρ) : pyxlaw1_LimbTells.j15000.finK y K = K (pyxlaw1_LimbTells.j15000.fin y) := by
  unfold pyxlaw1_LimbTells.j15000.finK pyxlaw1_LimbTells.j15000.fin
  first | rfl | (split <;> rfl)
noncomputable def pyxlaw1_LimbTells.j15000.re : Out U → Option ((Int × Int × List Int × Bool × Int × Int × Int × Int × Int × Int)) | .norm s => ((row_i64 (s.get 20)).bind fun q0 => (match s.get 17, s.get 19, s.get 0, s.get 6, s.get 140, lk s.o 17, lk s.o 19 with | .ptr 17 0, .ptr 19 0, .flat (.int .u64 x53), .flat (.int .i64 x54), .flat (.bool x62), some (.lit [.flat (.int .u64 x55), .flat (.int .u64 x56)]), some (.lit [.flat (.int .u64 x57), .flat (.int .u64 x58), .flat (.int .u64 x59), .flat (.int .u64 x60)]) => some (x53, x54, q0, x62, x55, x56, x57, x58, x59, x60) | _, _, _, _, _, _, _ => none)) | _ => none
noncomputable def pyxlaw1_LimbTells.j15000.J : JDen U := { Y := (Int × Int × List Int × Bool × Int × Int × Int × Int × Int × Int), re := pyxlaw1_LimbTells.j15000.re, fin := pyxlaw1_LimbTells.j15000.fin, finK := pyxlaw1_LimbTells.j15000.finK, finK_eq := pyxlaw1_LimbTells.j15000.finK_eq }
theorem pyxlaw1_LimbTells.j15000.fit (o : Out U) (y : (Int × Int × List Int × Bool × Int × Int × Int × Int × Int × Int)) (h : pyxlaw1_LimbTells.j15000.re o = some y) : FitsO o (pyxlaw1_LimbTells.j15000.fin y) := by
  unfold pyxlaw1_LimbTells.j15000.re at h
  split at h
  · obtain ⟨q0, eq0, h1⟩ := Option.bind_eq_some_iff.1 h
    split at h1
    · cases h1
      refine fitsO_norm (fits_ren [] ?_ ?_ ren_nil rfl)
      · exact List.forall_mem_cons.2 ⟨FV.same (by assumption) (fun _ _ _ hh => by cases hh) (fun _ hh => by cases hh), List.forall_mem_cons.2 ⟨FV.same (by assumption) (fun _ _ _ hh => by cases hh) (fun _ hh => by cases hh), List.forall_mem_cons.2 ⟨FV.same (by assumption) (fun _ _ _ hh => by cases hh) (fun _ hh => by cases hh), List.forall_mem_cons.2 ⟨FV.same (by assumption) (fun _ _ _ hh => by cases hh) (fun _ hh => by cases hh), List.forall_mem_cons.2 ⟨row_i64_fit eq0, List.forall_mem_cons.2 ⟨FV.same (by assumption) (fun _ _ _ hh => by cases hh) (fun _ hh => by cases hh), fun _ hp => (List.not_mem_nil hp).elim⟩⟩⟩⟩⟩⟩
      · exact List.forall_mem_cons.2 ⟨(show lk (St.o _) 17 = some _ from by assumption), List.forall_mem_cons.2 ⟨(show lk (St.o _) 19 = some _ from by assumption), fun _ hp => (List.not_mem_nil hp).elim⟩⟩
    · cases h1
  · cases h
noncomputable def pyxlaw1_LimbTells.j21001.fin (y : (Int × Int × Int × Int × Int × Int × Int × Int) ⊕ Bool) : Out U := match y with | .inl (x73, x74, x75, x76, x77, x78, x79, x80) => .norm ⟨[(17, .ptr 17 0), (19, .ptr 19 0), (0, .flat (.int .u64 x73)), (6, .flat (.int .i64 x74))], [(17, .lit [.flat (.int .u64 x75), .flat (.int .u64 x76)]), (19, .lit [.flat (.int .u64 x77), .flat (.int .u64 x78), .flat (.int .u64 x79), .flat (.int .u64 x80)])]⟩ | .inr z => .ret (.flat (.bool z))
noncomputable def pyxlaw1_LimbTells.j21001.finK {ρ : Type} (y : (Int × Int × Int × Int × Int × Int × Int × Int) ⊕ Bool) (K : Out U → Option ρ) : Option ρ := match y with | .inl (x73, x74, x75, x76, x77, x78, x79, x80) => K (.norm ⟨[(17, .ptr 17 0), (19, .ptr 19 0), (0, .flat (.int .u64 x73)), (6, .flat (.int .i64 x74))], [(17, .lit [.flat (.int .u64 x75), .flat (.int .u64 x76)]), (19, .lit [.flat (.int .u64 x77), .flat (.int .u64 x78), .flat (.int .u64 x79), .flat (.int .u64 x80)])]⟩) | .inr z => K (.ret (.flat (.bool z)))
theorem pyxlaw1_LimbTells.j21001.finK_eq {ρ : Type} (y : (Int × Int × Int × Int × Int × Int × Int × Int) ⊕ Bool) (K : Out U → Option ρ) : pyxlaw1_LimbTells.j21001.finK y K = K (pyxlaw1_LimbTells.j21001.fin y) := by
  unfold pyxlaw1_LimbTells.j21001.finK pyxlaw1_LimbTells.j21001.fin
  first | rfl | (split <;> rfl)
noncomputable def pyxlaw1_LimbTells.j21001.re : Out U → Option ((Int × Int × Int × Int × Int × Int × Int × Int) ⊕ Bool) | .norm s => (match s.get 17, s.get 19, s.get 0, s.get 6, lk s.o 17, lk s.o 19 with | .ptr 17 0, .ptr 19 0, .flat (.int .u64 x73), .flat (.int .i64 x74), some (.lit [.flat (.int .u64 x75), .flat (.int .u64 x76)]), some (.lit [.flat (.int .u64 x77), .flat (.int .u64 x78), .flat (.int .u64 x79), .flat (.int .u64 x80)]) => some (.inl (x73, x74, x75, x76, x77, x78, x79, x80)) | _, _, _, _, _, _ => none) | .ret v => (match v with | .flat (.bool x1) => some (.inr x1) | _ => none) | _ => none
noncomputable def pyxlaw1_LimbTells.j21001.J : JDen U := { Y := (Int × Int × Int × Int × Int × Int × Int × Int) ⊕ Bool, re := pyxlaw1_LimbTells.j21001.re, fin := pyxlaw1_LimbTells.j21001.fin, finK := pyxlaw1_LimbTells.j21001.finK, finK_eq := pyxlaw1_LimbTells.j21001.finK_eq }
theorem pyxlaw1_LimbTells.j21001.fit (o : Out U) (y : (Int × Int × Int × Int × Int × Int × Int × Int) ⊕ Bool) (h : pyxlaw1_LimbTells.j21001.re o = some y) : FitsO o (pyxlaw1_LimbTells.j21001.fin y) := by
  unfold pyxlaw1_LimbTells.j21001.re at h
  split at h
  · split at h
    · cases h
      refine fitsO_norm (fits_ren [] ?_ ?_ ren_nil rfl)
      · exact List.forall_mem_cons.2 ⟨FV.same (by assumption) (fun _ _ _ hh => by cases hh) (fun _ hh => by cases hh), List.forall_mem_cons.2 ⟨FV.same (by assumption) (fun _ _ _ hh => by cases hh) (fun _ hh => by cases hh), List.forall_mem_cons.2 ⟨FV.same (by assumption) (fun _ _ _ hh => by cases hh) (fun _ hh => by cases hh), List.forall_mem_cons.2 ⟨FV.same (by assumption) (fun _ _ _ hh => by cases hh) (fun _ hh => by cases hh), fun _ hp => (List.not_mem_nil hp).elim⟩⟩⟩⟩
      · exact List.forall_mem_cons.2 ⟨(show lk (St.o _) 17 = some _ from by assumption), List.forall_mem_cons.2 ⟨(show lk (St.o _) 19 = some _ from by assumption), fun _ hp => (List.not_mem_nil hp).elim⟩⟩
    · cases h
  · split at h
    · cases h; exact fitsO_ret
    · cases h
  · cases h
noncomputable def pyxlaw1_LimbTells.j25000.fin (y : (Int × Int × Bool × Int × Int × Int × Int × Int × Int)) : Out U := match y with | (x84, x85, x92, x86, x87, x88, x89, x90, x91) => .norm ⟨[(17, .ptr 17 0), (19, .ptr 19 0), (0, .flat (.int .u64 x84)), (6, .flat (.int .i64 x85)), (207, .flat (.bool x92))], [(17, .lit [.flat (.int .u64 x86), .flat (.int .u64 x87)]), (19, .lit [.flat (.int .u64 x88), .flat (.int .u64 x89), .flat (.int .u64 x90), .flat (.int .u64 x91)])]⟩
noncomputable def pyxlaw1_LimbTells.j25000.finK {ρ : Type} (y : (Int × Int × Bool × Int × Int × Int × Int × Int × Int)) (K : Out U → Option ρ) : Option ρ := match y with | (x84, x85, x92, x86, x87, x88, x89, x90, x91) => K (.norm ⟨[(17, .ptr 17 0), (19, .ptr 19 0), (0, .flat (.int .u64 x84)), (6, .flat (.int .i64 x85)), (207, .flat (.bool x92))], [(17, .lit [.flat (.int .u64 x86), .flat (.int .u64 x87)]), (19, .lit [.flat (.int .u64 x88), .flat (.int .u64 x89), .flat (.int .u64 x90), .flat (.int .u64 x91)])]⟩)
theorem pyxlaw1_LimbTells.j25000.finK_eq {ρ : Type} (y : (Int × Int × Bool × Int × Int × Int × Int × Int × Int)) (K : Out U → Option ρ) : pyxlaw1_LimbTells.j25000.finK y K = K (pyxlaw1_LimbTells.j25000.fin y) := by
  unfold pyxlaw1_LimbTells.j25000.finK pyxlaw1_LimbTells.j25000.fin
  first | rfl | (split <;> rfl)
noncomputable def pyxlaw1_LimbTells.j25000.re : Out U → Option ((Int × Int × Bool × Int × Int × Int × Int × Int × Int)) | .norm s => (match s.get 17, s.get 19, s.get 0, s.get 6, s.get 207, lk s.o 17, lk s.o 19 with | .ptr 17 0, .ptr 19 0, .flat (.int .u64 x84), .flat (.int .i64 x85), .flat (.bool x92), some (.lit [.flat (.int .u64 x86), .flat (.int .u64 x87)]), some (.lit [.flat (.int .u64 x88), .flat (.int .u64 x89), .flat (.int .u64 x90), .flat (.int .u64 x91)]) => some (x84, x85, x92, x86, x87, x88, x89, x90, x91) | _, _, _, _, _, _, _ => none) | _ => none
noncomputable def pyxlaw1_LimbTells.j25000.J : JDen U := { Y := (Int × Int × Bool × Int × Int × Int × Int × Int × Int), re := pyxlaw1_LimbTells.j25000.re, fin := pyxlaw1_LimbTells.j25000.fin, finK := pyxlaw1_LimbTells.j25000.finK, finK_eq := pyxlaw1_LimbTells.j25000.finK_eq }
theorem pyxlaw1_LimbTells.j25000.fit (o : Out U) (y : (Int × Int × Bool × Int × Int × Int × Int × Int × Int)) (h : pyxlaw1_LimbTells.j25000.re o = some y) : FitsO o (pyxlaw1_LimbTells.j25000.fin y) := by
  unfold pyxlaw1_LimbTells.j25000.re at h
  split at h
  · split at h
    · cases h
      refine fitsO_norm (fits_ren [] ?_ ?_ ren_nil rfl)
      · exact List.forall_mem_cons.2 ⟨FV.same (by assumption) (fun _ _ _ hh => by cases hh) (fun _ hh => by cases hh), List.forall_mem_cons.2 ⟨FV.same (by assumption) (fun _ _ _ hh => by cases hh) (fun _ hh => by cases hh), List.forall_mem_cons.2 ⟨FV.same (by assumption) (fun _ _ _ hh => by cases hh) (fun _ hh => by cases hh), List.forall_mem_cons.2 ⟨FV.same (by assumption) (fun _ _ _ hh => by cases hh) (fun _ hh => by cases hh), List.forall_mem_cons.2 ⟨FV.same (by assumption) (fun _ _ _ hh => by cases hh) (fun _ hh => by cases hh), fun _ hp => (List.not_mem_nil hp).elim⟩⟩⟩⟩⟩
      · exact List.forall_mem_cons.2 ⟨(show lk (St.o _) 17 = some _ from by assumption), List.forall_mem_cons.2 ⟨(show lk (St.o _) 19 = some _ from by assumption), fun _ hp => (List.not_mem_nil hp).elim⟩⟩
    · cases h
  · cases h
noncomputable def pyxlaw1_LimbTells.j29000.fin (y : (Int × Int × Bool × Int × Int × Int × Int × Int × Int)) : Out U := match y with | (x96, x97, x104, x98, x99, x100, x101, x102, x103) => .norm ⟨[(17, .ptr 17 0), (19, .ptr 19 0), (0, .flat (.int .u64 x96)), (6, .flat (.int .i64 x97)), (234, .flat (.bool x104))], [(17, .lit [.flat (.int .u64 x98), .flat (.int .u64 x99)]), (19, .lit [.flat (.int .u64 x100), .flat (.int .u64 x101), .flat (.int .u64 x102), .flat (.int .u64 x103)])]⟩
noncomputable def pyxlaw1_LimbTells.j29000.finK {ρ : Type} (y : (Int × Int × Bool × Int × Int × Int × Int × Int × Int)) (K : Out U → Option ρ) : Option ρ := match y with | (x96, x97, x104, x98, x99, x100, x101, x102, x103) => K (.norm ⟨[(17, .ptr 17 0), (19, .ptr 19 0), (0, .flat (.int .u64 x96)), (6, .flat (.int .i64 x97)), (234, .flat (.bool x104))], [(17, .lit [.flat (.int .u64 x98), .flat (.int .u64 x99)]), (19, .lit [.flat (.int .u64 x100), .flat (.int .u64 x101), .flat (.int .u64 x102), .flat (.int .u64 x103)])]⟩)
theorem pyxlaw1_LimbTells.j29000.finK_eq {ρ : Type} (y : (Int × Int × Bool × Int × Int × Int × Int × Int × Int)) (K : Out U → Option ρ) : pyxlaw1_LimbTells.j29000.finK y K = K (pyxlaw1_LimbTells.j29000.fin y) := by
  unfold pyxlaw1_LimbTells.j29000.finK pyxlaw1_LimbTells.j29000.fin
  first | rfl | (split <;> rfl)
noncomputable def pyxlaw1_LimbTells.j29000.re : Out U → Option ((Int × Int × Bool × Int × Int × Int × Int × Int × Int)) | .norm s => (match s.get 17, s.get 19, s.get 0, s.get 6, s.get 234, lk s.o 17, lk s.o 19 with | .ptr 17 0, .ptr 19 0, .flat (.int .u64 x96), .flat (.int .i64 x97), .flat (.bool x104), some (.lit [.flat (.int .u64 x98), .flat (.int .u64 x99)]), some (.lit [.flat (.int .u64 x100), .flat (.int .u64 x101), .flat (.int .u64 x102), .flat (.int .u64 x103)]) => some (x96, x97, x104, x98, x99, x100, x101, x102, x103) | _, _, _, _, _, _, _ => none) | _ => none
noncomputable def pyxlaw1_LimbTells.j29000.J : JDen U := { Y := (Int × Int × Bool × Int × Int × Int × Int × Int × Int), re := pyxlaw1_LimbTells.j29000.re, fin := pyxlaw1_LimbTells.j29000.fin, finK := pyxlaw1_LimbTells.j29000.finK, finK_eq := pyxlaw1_LimbTells.j29000.finK_eq }
theorem pyxlaw1_LimbTells.j29000.fit (o : Out U) (y : (Int × Int × Bool × Int × Int × Int × Int × Int × Int)) (h : pyxlaw1_LimbTells.j29000.re o = some y) : FitsO o (pyxlaw1_LimbTells.j29000.fin y) := by
  unfold pyxlaw1_LimbTells.j29000.re at h
  split at h
  · split at h
    · cases h
      refine fitsO_norm (fits_ren [] ?_ ?_ ren_nil rfl)
      · exact List.forall_mem_cons.2 ⟨FV.same (by assumption) (fun _ _ _ hh => by cases hh) (fun _ hh => by cases hh), List.forall_mem_cons.2 ⟨FV.same (by assumption) (fun _ _ _ hh => by cases hh) (fun _ hh => by cases hh), List.forall_mem_cons.2 ⟨FV.same (by assumption) (fun _ _ _ hh => by cases hh) (fun _ hh => by cases hh), List.forall_mem_cons.2 ⟨FV.same (by assumption) (fun _ _ _ hh => by cases hh) (fun _ hh => by cases hh), List.forall_mem_cons.2 ⟨FV.same (by assumption) (fun _ _ _ hh => by cases hh) (fun _ hh => by cases hh), fun _ hp => (List.not_mem_nil hp).elim⟩⟩⟩⟩⟩
      · exact List.forall_mem_cons.2 ⟨(show lk (St.o _) 17 = some _ from by assumption), List.forall_mem_cons.2 ⟨(show lk (St.o _) 19 = some _ from by assumption), fun _ hp => (List.not_mem_nil hp).elim⟩⟩
    · cases h
  · cases h
noncomputable def pyxlaw1_LimbTells.jl : List (Nat × JDen U) := [(5001, pyxlaw1_LimbTells.j5001.J), (7001, pyxlaw1_LimbTells.j7001.J), (12000, pyxlaw1_LimbTells.j12000.J), (15000, pyxlaw1_LimbTells.j15000.J), (21001, pyxlaw1_LimbTells.j21001.J), (25000, pyxlaw1_LimbTells.j25000.J), (29000, pyxlaw1_LimbTells.j29000.J)]
noncomputable def pyxlaw1_LimbTells.fl (k : Nat) : List (Nat × FDen U) := [(15, pyxlaw1_words.D k), (21, pyxhand_Pick.D k), (30, pyxref1_Nat2.D k), (16, limb_Add.D k), (32, pyxref1_AddNat.D k), (31, pyxref1_Words2.D k), (19, limb_Cmp.D k), (33, pyxref1_CmpNat.D k), (25, limb_Mul.D k), (35, pyxref1_MulNat.D k), (34, pyxref1_Words4.D k), (18, limb_Sub.D k), (27, limb_Div.D k), (37, pyxref1_Nat4.D k), (36, pyxref1_DivNat.D k), (29, limb_Short.D k), (28, limb_Ten.D k), (38, pyxref1_TenNat.D k), (17, pyxlaw1_known.D k), (22, limb_Left.D k), (39, pyxref1_Left.D k), (23, limb_Right.D k), (40, pyxref1_Right.D k), (24, limb_Bits.D k), (41, pyxref1_Bits.D k), (20, limb_Wide.D k), (26, limb_Of.D k)]
noncomputable def pyxlaw1_LimbTells.ll (k : Nat) : List (Nat × LDen U) := []
noncomputable def pyxlaw1_LimbTells.E (k : Nat) : Env U := { P := Try.prog, D := DD, fd := lk (pyxlaw1_LimbTells.fl k), ld := lk (pyxlaw1_LimbTells.ll k), jd := lk pyxlaw1_LimbTells.jl, mode := lk [], elc := lk ec, dyn := fun t => false, vecs := fun d => false, results := Try.f8.results.toList }
theorem pyxlaw1_LimbTells.ok (k : Nat) : EnvOk (pyxlaw1_LimbTells.E k) := envOk lawful (pyxlaw1_LimbTells.fl k) (pyxlaw1_LimbTells.ll k) pyxlaw1_LimbTells.jl _ _ _ _ _ (by
  intro p hp
  simp only [pyxlaw1_LimbTells.fl, List.mem_cons, List.not_mem_nil, or_false] at hp
  rcases hp with rfl | rfl | rfl | rfl | rfl | rfl | rfl | rfl | rfl | rfl | rfl | rfl | rfl | rfl | rfl | rfl | rfl | rfl | rfl | rfl | rfl | rfl | rfl | rfl | rfl | rfl | rfl
  · exact ⟨pyxlaw1_words.sound k, enter_of Try.func15 (by kernel_rfl) (by kernel_rfl)⟩
  · exact ⟨pyxhand_Pick.sound k, enter_of Try.func21 (by kernel_rfl) (by kernel_rfl)⟩
  · exact ⟨pyxref1_Nat2.sound k, enter_of Try.func30 (by kernel_rfl) (by kernel_rfl)⟩
  · exact ⟨limb_Add.sound k, enter_of Try.func16 (by kernel_rfl) (by kernel_rfl)⟩
  · exact ⟨pyxref1_AddNat.sound k, enter_of Try.func32 (by kernel_rfl) (by kernel_rfl)⟩
  · exact ⟨pyxref1_Words2.sound k, enter_of Try.func31 (by kernel_rfl) (by kernel_rfl)⟩
  · exact ⟨limb_Cmp.sound k, enter_of Try.func19 (by kernel_rfl) (by kernel_rfl)⟩
  · exact ⟨pyxref1_CmpNat.sound k, enter_of Try.func33 (by kernel_rfl) (by kernel_rfl)⟩
  · exact ⟨limb_Mul.sound k, enter_of Try.func25 (by kernel_rfl) (by kernel_rfl)⟩
  · exact ⟨pyxref1_MulNat.sound k, enter_of Try.func35 (by kernel_rfl) (by kernel_rfl)⟩
  · exact ⟨pyxref1_Words4.sound k, enter_of Try.func34 (by kernel_rfl) (by kernel_rfl)⟩
  · exact ⟨limb_Sub.sound k, enter_of Try.func18 (by kernel_rfl) (by kernel_rfl)⟩
  · exact ⟨limb_Div.sound k, enter_of Try.func27 (by kernel_rfl) (by kernel_rfl)⟩
  · exact ⟨pyxref1_Nat4.sound k, enter_of Try.func37 (by kernel_rfl) (by kernel_rfl)⟩
  · exact ⟨pyxref1_DivNat.sound k, enter_of Try.func36 (by kernel_rfl) (by kernel_rfl)⟩
  · exact ⟨limb_Short.sound k, enter_of Try.func29 (by kernel_rfl) (by kernel_rfl)⟩
  · exact ⟨limb_Ten.sound k, enter_of Try.func28 (by kernel_rfl) (by kernel_rfl)⟩
  · exact ⟨pyxref1_TenNat.sound k, enter_of Try.func38 (by kernel_rfl) (by kernel_rfl)⟩
  · exact ⟨pyxlaw1_known.sound k, enter_of Try.func17 (by kernel_rfl) (by kernel_rfl)⟩
  · exact ⟨limb_Left.sound k, enter_of Try.func22 (by kernel_rfl) (by kernel_rfl)⟩
  · exact ⟨pyxref1_Left.sound k, enter_of Try.func39 (by kernel_rfl) (by kernel_rfl)⟩
  · exact ⟨limb_Right.sound k, enter_of Try.func23 (by kernel_rfl) (by kernel_rfl)⟩
  · exact ⟨pyxref1_Right.sound k, enter_of Try.func40 (by kernel_rfl) (by kernel_rfl)⟩
  · exact ⟨limb_Bits.sound k, enter_of Try.func24 (by kernel_rfl) (by kernel_rfl)⟩
  · exact ⟨pyxref1_Bits.sound k, enter_of Try.func41 (by kernel_rfl) (by kernel_rfl)⟩
  · exact ⟨limb_Wide.sound k, enter_of Try.func20 (by kernel_rfl) (by kernel_rfl)⟩
  · exact ⟨limb_Of.sound k, enter_of Try.func26 (by kernel_rfl) (by kernel_rfl)⟩) (by
  intro p hp
  simp only [pyxlaw1_LimbTells.jl, List.mem_cons, List.not_mem_nil, or_false] at hp
  rcases hp with rfl | rfl | rfl | rfl | rfl | rfl | rfl
  · exact pyxlaw1_LimbTells.j5001.fit
  · exact pyxlaw1_LimbTells.j7001.fit
  · exact pyxlaw1_LimbTells.j12000.fit
  · exact pyxlaw1_LimbTells.j15000.fit
  · exact pyxlaw1_LimbTells.j21001.fit
  · exact pyxlaw1_LimbTells.j25000.fit
  · exact pyxlaw1_LimbTells.j29000.fit)
theorem pyxlaw1_LimbTells.eq (k : Nat) (x : (Int × Int × Int × Int × Int × Int × Int × Bool)) : runF (pyxlaw1_LimbTells.E k) (codeOf Try.f8) (pyxlaw1_LimbTells.mk x) pyxlaw1_LimbTells.re = (pyxlaw1_LimbTells.D k).f x := by kernel_rfl
theorem pyxlaw1_LimbTells.sound (k : Nat) : Sound Try.prog DD 8 (pyxlaw1_LimbTells.D k) :=
  fun_sound (E := pyxlaw1_LimbTells.E k) (fn := Try.f8) (c := codeOf Try.f8) (pyxlaw1_LimbTells.ok k) mixed rfl Try.func8 (by kernel_rfl) (by kernel_rfl) (allL_of (l := []) (by kernel_rfl) allL_nil) (pyxlaw1_LimbTells.D k) pyxlaw1_LimbTells.mk pyxlaw1_LimbTells.re
    (by intro args x h; replace h : pyxlaw1_LimbTells.un args = some x := h; unfold pyxlaw1_LimbTells.un at h; split at h; · cases h; rfl
        · cases h)
    (by intro v y h; unfold pyxlaw1_LimbTells.re at h; split at h; · cases h; rfl
        · cases h)
    (fun _ => rfl) (fun x => Nat.le_of_ble_eq_true (by kernel_rfl)) (pyxlaw1_LimbTells.eq k)
/-! ### pyx/own.within: function 108 -/
noncomputable def own_within.f (k : Nat) (a0 : Int) (a1 : Int) (a2 : Int) : Option Bool := cond (decide (a0 ≥ a1)) (some (decide (a0 ≤ a2))) (some false)
noncomputable def own_within.un : List (AV U) → Option (Int × Int × Int) | [.flat (.int .i64 x1), .flat (.int .i64 x2), .flat (.int .i64 x3)] => some (x1, x2, x3) | _ => none
noncomputable def own_within.mk (x : (Int × Int × Int)) : List (AV U) := [.flat (.int .i64 x.1), .flat (.int .i64 x.2.1), .flat (.int .i64 x.2.2)]
noncomputable def own_within.D (k : Nat) : FDen U := { X := (Int × Int × Int), Y := Bool, un := own_within.un, f := fun x => own_within.f k (x.1) (x.2.1) (x.2.2), fin := fun y => .flat (.bool y) }
noncomputable def own_within.re : AV U → Option Bool | .flat (.bool x1) => some x1 | _ => none
noncomputable def own_within.jl : List (Nat × JDen U) := []
noncomputable def own_within.fl (k : Nat) : List (Nat × FDen U) := []
noncomputable def own_within.ll (k : Nat) : List (Nat × LDen U) := []
noncomputable def own_within.E (k : Nat) : Env U := { P := Try.prog, D := DD, fd := lk (own_within.fl k), ld := lk (own_within.ll k), jd := lk own_within.jl, mode := lk [], elc := lk ec, dyn := fun t => false, vecs := fun d => false, results := Try.f108.results.toList }
theorem own_within.ok (k : Nat) : EnvOk (own_within.E k) := envOk lawful (own_within.fl k) (own_within.ll k) own_within.jl _ _ _ _ _ (by
  intro p hp
  simp [own_within.fl] at hp) (by
  intro p hp
  simp [own_within.jl] at hp)
theorem own_within.eq (k : Nat) (x : (Int × Int × Int)) : runF (own_within.E k) (codeOf Try.f108) (own_within.mk x) own_within.re = (own_within.D k).f x := by kernel_rfl
theorem own_within.sound (k : Nat) : Sound Try.prog DD 108 (own_within.D k) :=
  fun_sound (E := own_within.E k) (fn := Try.f108) (c := codeOf Try.f108) (own_within.ok k) mixed rfl Try.func108 (by kernel_rfl) (by kernel_rfl) (allL_of (l := []) (by kernel_rfl) allL_nil) (own_within.D k) own_within.mk own_within.re
    (by intro args x h; replace h : own_within.un args = some x := h; unfold own_within.un at h; split at h; · cases h; rfl
        · cases h)
    (by intro v y h; unfold own_within.re at h; split at h; · cases h; rfl
        · cases h)
    (fun _ => rfl) (fun x => Nat.le_of_ble_eq_true (by kernel_rfl)) (own_within.eq k)
/-! ### pyx/own.right: function 93 -/
noncomputable def own_right.l2.once (k : Nat) (x : (List Sapi_Ent × Int × List Sapi_Ent × Int × Int)) : Option ((List Sapi_Ent × Int × List Sapi_Ent × Int × Int) ⊕ ((List Sapi_Ent × Int) ⊕ Bool)) := match x with | (x1, x2, x3, x4, x5) => cond (decide (x5 < x4)) (cond (inb x5 (List.length x3)) ((((own_within.f k ((List.getD x3 (Int.toNat x5) Sapi_Ent.zero).f_Level) 0 3).bind fun t6 => (cond (!t6) (some (x1, x2, x3, x4, x5, true)) ((own_within.f k ((List.getD x3 (Int.toNat x5) Sapi_Ent.zero).f_Scale) 0 4).bind fun t13 => (cond (!t13) (some (x1, x2, x3, x4, x5, true)) ((own_within.f k ((List.getD x3 (Int.toNat x5) Sapi_Ent.zero).f_Parent) (-1) (IntKind.wrap .i64 (x5 - 1))).bind fun t14 => (cond (!t14) (some (x1, x2, x3, x4, x5, true)) ((own_within.f k ((List.getD x3 (Int.toNat x5) Sapi_Ent.zero).f_Share) 1 10000).bind fun t15 => (cond (!t15) (some (x1, x2, x3, x4, x5, true)) (cond (((List.getD x3 (Int.toNat x5) Sapi_Ent.zero).f_Parent) == (-1)) (some (x1, x2, x3, x4, x5, ((List.getD x3 (Int.toNat x5) Sapi_Ent.zero).f_Share) != 10000)) (some (x1, x2, x3, x4, x5, false))))))))))) : Option (List Sapi_Ent × Int × List Sapi_Ent × Int × Int × Bool)).bind fun y16 => (cond (y16.2.2.2.2.2) (some (.inr (.inr false))) (some (.inl (y16.1, y16.2.1, y16.2.2.1, y16.2.2.2.1, IntKind.wrap .i64 (y16.2.2.2.2.1 + 1)))))) none) (some (.inr (.inl (x1, x2))))
noncomputable def own_right.f (k : Nat) (a0 : List Sapi_Ent) (a1 : Int) : Option Bool := (iter (own_right.l2.once k) k (a0, a1, a0, (List.length a0 : Int), 0)).bind fun | .inl y20 => ((own_within.f k (List.length y20.1 : Int) 1 8).bind fun t21 => (cond (t21) ((own_within.f k y20.2 0 (IntKind.wrap .i64 ((List.length y20.1 : Int) - 1))).bind fun t22 => (some t22)) (some false))) | .inr y23 => (some y23)
noncomputable def own_right.un : List (AV U) → Option (List Sapi_Ent × Int) | [.row C.Sapi_Ent x1, .flat (.int .i64 x2)] => some (x1, x2) | _ => none
noncomputable def own_right.mk (x : (List Sapi_Ent × Int)) : List (AV U) := [.row C.Sapi_Ent x.1, .flat (.int .i64 x.2)]
noncomputable def own_right.D (k : Nat) : FDen U := { X := (List Sapi_Ent × Int), Y := Bool, un := own_right.un, f := fun x => own_right.f k (x.1) (x.2), fin := fun y => .flat (.bool y) }
noncomputable def own_right.re : AV U → Option Bool | .flat (.bool x1) => some x1 | _ => none
noncomputable def own_right.l2.mk (x : (List Sapi_Ent × Int × List Sapi_Ent × Int × Int)) : St U := match x with | (x1, x2, x3, x4, x5) => ⟨[(0, .row C.Sapi_Ent x1), (1, .flat (.int .i64 x2)), (7, .row C.Sapi_Ent x3), (8, .flat (.int .i64 x4)), (9, .flat (.int .i64 x5))], []⟩
noncomputable def own_right.l2.un (s : St U) : Option (List Sapi_Ent × Int × List Sapi_Ent × Int × Int) := (row_Sapi_Ent (s.get 0)).bind fun q0 => ((row_Sapi_Ent (s.get 7)).bind fun q1 => (match s.get 1, s.get 8, s.get 9 with | .flat (.int .i64 x2), .flat (.int .i64 x4), .flat (.int .i64 x5) => some (q0, x2, q1, x4, x5) | _, _, _ => none))
noncomputable def own_right.l2.fin (y : (List Sapi_Ent × Int) ⊕ Bool) : Out U := match y with | .inl (x17, x18) => .exit 0 ⟨[(0, .row C.Sapi_Ent x17), (1, .flat (.int .i64 x18))], []⟩ | .inr z => .ret (.flat (.bool z))
noncomputable def own_right.l2.finK {ρ : Type} (y : (List Sapi_Ent × Int) ⊕ Bool) (K : Out U → Option ρ) : Option ρ := match y with | .inl (x17, x18) => K (.exit 0 ⟨[(0, .row C.Sapi_Ent x17), (1, .flat (.int .i64 x18))], []⟩) | .inr z => K (.ret (.flat (.bool z)))
theorem own_right.l2.finK_eq {ρ : Type} (y : (List Sapi_Ent × Int) ⊕ Bool) (K : Out U → Option ρ) : own_right.l2.finK y K = K (own_right.l2.fin y) := by
  unfold own_right.l2.finK own_right.l2.fin
  first | rfl | (split <;> rfl)
noncomputable def own_right.l2.re : Out U → Option ((List Sapi_Ent × Int) ⊕ Bool) | .exit 0 s => ((row_Sapi_Ent (s.get 0)).bind fun q0 => (match s.get 1 with | .flat (.int .i64 x18) => some (.inl (q0, x18)) | _ => none)) | .ret v => (match v with | .flat (.bool x1) => some (.inr x1) | _ => none) | _ => none
noncomputable def own_right.l2.L (k : Nat) : LDen U := { X := (List Sapi_Ent × Int × List Sapi_Ent × Int × Int), Y := (List Sapi_Ent × Int) ⊕ Bool, un := own_right.l2.un, f := iter (own_right.l2.once k) k, fin := own_right.l2.fin, finK := own_right.l2.finK, finK_eq := own_right.l2.finK_eq }
noncomputable def own_right.j4000.fin (y : (List Sapi_Ent × Int × List Sapi_Ent × Int × Int × Bool)) : Out U := match y with | (x7, x8, x9, x10, x11, x12) => .norm ⟨[(0, .row C.Sapi_Ent x7), (1, .flat (.int .i64 x8)), (7, .row C.Sapi_Ent x9), (8, .flat (.int .i64 x10)), (9, .flat (.int .i64 x11)), (47, .flat (.bool x12))], []⟩
noncomputable def own_right.j4000.finK {ρ : Type} (y : (List Sapi_Ent × Int × List Sapi_Ent × Int × Int × Bool)) (K : Out U → Option ρ) : Option ρ := match y with | (x7, x8, x9, x10, x11, x12) => K (.norm ⟨[(0, .row C.Sapi_Ent x7), (1, .flat (.int .i64 x8)), (7, .row C.Sapi_Ent x9), (8, .flat (.int .i64 x10)), (9, .flat (.int .i64 x11)), (47, .flat (.bool x12))], []⟩)
theorem own_right.j4000.finK_eq {ρ : Type} (y : (List Sapi_Ent × Int × List Sapi_Ent × Int × Int × Bool)) (K : Out U → Option ρ) : own_right.j4000.finK y K = K (own_right.j4000.fin y) := by
  unfold own_right.j4000.finK own_right.j4000.fin
  first | rfl | (split <;> rfl)
noncomputable def own_right.j4000.re : Out U → Option ((List Sapi_Ent × Int × List Sapi_Ent × Int × Int × Bool)) | .norm s => ((row_Sapi_Ent (s.get 0)).bind fun q0 => ((row_Sapi_Ent (s.get 7)).bind fun q1 => (match s.get 1, s.get 8, s.get 9, s.get 47 with | .flat (.int .i64 x8), .flat (.int .i64 x10), .flat (.int .i64 x11), .flat (.bool x12) => some (q0, x8, q1, x10, x11, x12) | _, _, _, _ => none))) | _ => none
noncomputable def own_right.j4000.J : JDen U := { Y := (List Sapi_Ent × Int × List Sapi_Ent × Int × Int × Bool), re := own_right.j4000.re, fin := own_right.j4000.fin, finK := own_right.j4000.finK, finK_eq := own_right.j4000.finK_eq }
theorem own_right.j4000.fit (o : Out U) (y : (List Sapi_Ent × Int × List Sapi_Ent × Int × Int × Bool)) (h : own_right.j4000.re o = some y) : FitsO o (own_right.j4000.fin y) := by
  unfold own_right.j4000.re at h
  split at h
  · obtain ⟨q0, eq0, h1⟩ := Option.bind_eq_some_iff.1 h
    obtain ⟨q1, eq1, h2⟩ := Option.bind_eq_some_iff.1 h1
    split at h2
    · cases h2
      refine fitsO_norm (fits_ren [] ?_ ?_ ren_nil rfl)
      · exact List.forall_mem_cons.2 ⟨row_Sapi_Ent_fit eq0, List.forall_mem_cons.2 ⟨FV.same (by assumption) (fun _ _ _ hh => by cases hh) (fun _ hh => by cases hh), List.forall_mem_cons.2 ⟨row_Sapi_Ent_fit eq1, List.forall_mem_cons.2 ⟨FV.same (by assumption) (fun _ _ _ hh => by cases hh) (fun _ hh => by cases hh), List.forall_mem_cons.2 ⟨FV.same (by assumption) (fun _ _ _ hh => by cases hh) (fun _ hh => by cases hh), List.forall_mem_cons.2 ⟨FV.same (by assumption) (fun _ _ _ hh => by cases hh) (fun _ hh => by cases hh), fun _ hp => (List.not_mem_nil hp).elim⟩⟩⟩⟩⟩⟩
      · exact fun _ hp => (List.not_mem_nil hp).elim
    · cases h2
  · cases h
noncomputable def own_right.jl : List (Nat × JDen U) := [(4000, own_right.j4000.J)]
noncomputable def own_right.fl (k : Nat) : List (Nat × FDen U) := [(108, own_within.D k)]
noncomputable def own_right.ll (k : Nat) : List (Nat × LDen U) := [(2, own_right.l2.L k)]
noncomputable def own_right.E (k : Nat) : Env U := { P := Try.prog, D := DD, fd := lk (own_right.fl k), ld := lk (own_right.ll k), jd := lk own_right.jl, mode := lk [], elc := lk ec, dyn := fun t => false, vecs := fun d => false, results := Try.f93.results.toList }
theorem own_right.ok (k : Nat) : EnvOk (own_right.E k) := envOk lawful (own_right.fl k) (own_right.ll k) own_right.jl _ _ _ _ _ (by
  intro p hp
  simp only [own_right.fl, List.mem_cons, List.not_mem_nil, or_false] at hp
  rcases hp with rfl
  · exact ⟨own_within.sound k, enter_of Try.func108 (by kernel_rfl) (by kernel_rfl)⟩) (by
  intro p hp
  simp only [own_right.jl, List.mem_cons, List.not_mem_nil, or_false] at hp
  rcases hp with rfl
  · exact own_right.j4000.fit)
theorem own_right.l2.eq (k : Nat) (x : (List Sapi_Ent × Int × List Sapi_Ent × Int × Int)) : evC (own_right.E k) (loopAt Try.f93 2) (own_right.l2.mk x) (headK own_right.l2.un own_right.l2.re) = own_right.l2.once k x := by kernel_rfl
theorem own_right.l2.fit (s : St U) (x : (List Sapi_Ent × Int × List Sapi_Ent × Int × Int)) (h : own_right.l2.un s = some x) : Fits s (own_right.l2.mk x) := by
  unfold own_right.l2.un at h
  obtain ⟨q0, eq0, h1⟩ := Option.bind_eq_some_iff.1 h
  obtain ⟨q1, eq1, h2⟩ := Option.bind_eq_some_iff.1 h1
  split at h2
  · cases h2
    refine fits_ren [] ?_ ?_ ren_nil rfl
    · exact List.forall_mem_cons.2 ⟨row_Sapi_Ent_fit eq0, List.forall_mem_cons.2 ⟨FV.same (by assumption) (fun _ _ _ hh => by cases hh) (fun _ hh => by cases hh), List.forall_mem_cons.2 ⟨row_Sapi_Ent_fit eq1, List.forall_mem_cons.2 ⟨FV.same (by assumption) (fun _ _ _ hh => by cases hh) (fun _ hh => by cases hh), List.forall_mem_cons.2 ⟨FV.same (by assumption) (fun _ _ _ hh => by cases hh) (fun _ hh => by cases hh), fun _ hp => (List.not_mem_nil hp).elim⟩⟩⟩⟩⟩
    · exact fun _ hp => (List.not_mem_nil hp).elim
  · cases h2
theorem own_right.l2.fitO (o : Out U) (y : (List Sapi_Ent × Int) ⊕ Bool) (h : own_right.l2.re o = some y) : FitsO o (own_right.l2.fin y) := by
  unfold own_right.l2.re at h
  split at h
  · obtain ⟨q0, eq0, h1⟩ := Option.bind_eq_some_iff.1 h
    split at h1
    · cases h1
      refine fitsO_exit (fits_ren [] ?_ ?_ ren_nil rfl)
      · exact List.forall_mem_cons.2 ⟨row_Sapi_Ent_fit eq0, List.forall_mem_cons.2 ⟨FV.same (by assumption) (fun _ _ _ hh => by cases hh) (fun _ hh => by cases hh), fun _ hp => (List.not_mem_nil hp).elim⟩⟩
      · exact fun _ hp => (List.not_mem_nil hp).elim
    · cases h1
  · split at h
    · cases h; exact fitsO_ret
    · cases h
  · cases h
theorem own_right.l2.sound (k : Nat) : LSound (own_right.E k) Try.f93.ntmps Try.f93 (loopAt Try.f93 2) (own_right.l2.L k) :=
  loop_sound (own_right.ok k) mixed rfl (by kernel_rfl) (allL_of (l := []) (by kernel_rfl) allL_nil) own_right.l2.un own_right.l2.mk own_right.l2.fin own_right.l2.re (own_right.l2.once k) k own_right.l2.fit own_right.l2.fitO (own_right.l2.eq k) own_right.l2.finK own_right.l2.finK_eq
theorem own_right.eq (k : Nat) (x : (List Sapi_Ent × Int)) : runF (own_right.E k) (codeOf Try.f93) (own_right.mk x) own_right.re = (own_right.D k).f x := by kernel_rfl
theorem own_right.sound (k : Nat) : Sound Try.prog DD 93 (own_right.D k) :=
  fun_sound (E := own_right.E k) (fn := Try.f93) (c := codeOf Try.f93) (own_right.ok k) mixed rfl Try.func93 (by kernel_rfl) (by kernel_rfl) (allL_of (l := [loopAt Try.f93 2]) (by kernel_rfl) (allL_cons (key := 2) (by kernel_rfl) rfl (own_right.l2.sound k) allL_nil)) (own_right.D k) own_right.mk own_right.re
    (by intro args x h; replace h : own_right.un args = some x := h; unfold own_right.un at h; split at h; · cases h; rfl
        · cases h)
    (by intro v y h; unfold own_right.re at h; split at h; · cases h; rfl
        · cases h)
    (fun _ => rfl) (fun x => Nat.le_of_ble_eq_true (by kernel_rfl)) (own_right.eq k)
/-! ### pyx/own.Top: function 57 -/
noncomputable def own_Top.l3.once (k : Nat) (x : (List Sapi_Ent × Int)) : Option ((List Sapi_Ent × Int) ⊕ (Int)) := match x with | (x2, x3) => cond (inb x3 (List.length x2)) (cond (decide (((List.getD x2 (Int.toNat x3) Sapi_Ent.zero).f_Parent) ≥ 0)) (cond (inb x3 (List.length x2)) (some (.inl (x2, (List.getD x2 (Int.toNat x3) Sapi_Ent.zero).f_Parent))) none) (some (.inr x3))) none
noncomputable def own_Top.f (k : Nat) (a0 : List Sapi_Ent) (a1 : Int) : Option Int := (own_right.f k a0 a1).bind fun t1 => (cond (!t1) (some (-1)) ((iter (own_Top.l3.once k) k (a0, a1)).bind fun y5 => (some y5)))
noncomputable def own_Top.un : List (AV U) → Option (List Sapi_Ent × Int) | [.row C.Sapi_Ent x1, .flat (.int .i64 x2)] => some (x1, x2) | _ => none
noncomputable def own_Top.mk (x : (List Sapi_Ent × Int)) : List (AV U) := [.row C.Sapi_Ent x.1, .flat (.int .i64 x.2)]
noncomputable def own_Top.D (k : Nat) : FDen U := { X := (List Sapi_Ent × Int), Y := Int, un := own_Top.un, f := fun x => own_Top.f k (x.1) (x.2), fin := fun y => .flat (.int .i64 y) }
noncomputable def own_Top.re : AV U → Option Int | .flat (.int .i64 x1) => some x1 | _ => none
noncomputable def own_Top.l3.mk (x : (List Sapi_Ent × Int)) : St U := match x with | (x2, x3) => ⟨[(0, .row C.Sapi_Ent x2), (1, .flat (.int .i64 x3))], []⟩
noncomputable def own_Top.l3.un (s : St U) : Option (List Sapi_Ent × Int) := (row_Sapi_Ent (s.get 0)).bind fun q0 => (match s.get 1 with | .flat (.int .i64 x3) => some (q0, x3) | _ => none)
noncomputable def own_Top.l3.fin (y : Int) : Out U := match y with | x4 => .exit 0 ⟨[(1, .flat (.int .i64 x4))], []⟩
noncomputable def own_Top.l3.finK {ρ : Type} (y : Int) (K : Out U → Option ρ) : Option ρ := match y with | x4 => K (.exit 0 ⟨[(1, .flat (.int .i64 x4))], []⟩)
theorem own_Top.l3.finK_eq {ρ : Type} (y : Int) (K : Out U → Option ρ) : own_Top.l3.finK y K = K (own_Top.l3.fin y) := by
  unfold own_Top.l3.finK own_Top.l3.fin
  first | rfl | (split <;> rfl)
noncomputable def own_Top.l3.re : Out U → Option (Int) | .exit 0 s => (match s.get 1 with | .flat (.int .i64 x4) => some x4 | _ => none) | _ => none
noncomputable def own_Top.l3.L (k : Nat) : LDen U := { X := (List Sapi_Ent × Int), Y := Int, un := own_Top.l3.un, f := iter (own_Top.l3.once k) k, fin := own_Top.l3.fin, finK := own_Top.l3.finK, finK_eq := own_Top.l3.finK_eq }
noncomputable def own_Top.jl : List (Nat × JDen U) := []
noncomputable def own_Top.fl (k : Nat) : List (Nat × FDen U) := [(93, own_right.D k)]
noncomputable def own_Top.ll (k : Nat) : List (Nat × LDen U) := [(3, own_Top.l3.L k)]
noncomputable def own_Top.E (k : Nat) : Env U := { P := Try.prog, D := DD, fd := lk (own_Top.fl k), ld := lk (own_Top.ll k), jd := lk own_Top.jl, mode := lk [], elc := lk ec, dyn := fun t => false, vecs := fun d => false, results := Try.f57.results.toList }
theorem own_Top.ok (k : Nat) : EnvOk (own_Top.E k) := envOk lawful (own_Top.fl k) (own_Top.ll k) own_Top.jl _ _ _ _ _ (by
  intro p hp
  simp only [own_Top.fl, List.mem_cons, List.not_mem_nil, or_false] at hp
  rcases hp with rfl
  · exact ⟨own_right.sound k, enter_of Try.func93 (by kernel_rfl) (by kernel_rfl)⟩) (by
  intro p hp
  simp [own_Top.jl] at hp)
theorem own_Top.l3.eq (k : Nat) (x : (List Sapi_Ent × Int)) : evC (own_Top.E k) (loopAt Try.f57 3) (own_Top.l3.mk x) (headK own_Top.l3.un own_Top.l3.re) = own_Top.l3.once k x := by kernel_rfl
theorem own_Top.l3.fit (s : St U) (x : (List Sapi_Ent × Int)) (h : own_Top.l3.un s = some x) : Fits s (own_Top.l3.mk x) := by
  unfold own_Top.l3.un at h
  obtain ⟨q0, eq0, h1⟩ := Option.bind_eq_some_iff.1 h
  split at h1
  · cases h1
    refine fits_ren [] ?_ ?_ ren_nil rfl
    · exact List.forall_mem_cons.2 ⟨row_Sapi_Ent_fit eq0, List.forall_mem_cons.2 ⟨FV.same (by assumption) (fun _ _ _ hh => by cases hh) (fun _ hh => by cases hh), fun _ hp => (List.not_mem_nil hp).elim⟩⟩
    · exact fun _ hp => (List.not_mem_nil hp).elim
  · cases h1
theorem own_Top.l3.fitO (o : Out U) (y : Int) (h : own_Top.l3.re o = some y) : FitsO o (own_Top.l3.fin y) := by
  unfold own_Top.l3.re at h
  split at h
  · split at h
    · cases h
      refine fitsO_exit (fits_ren [] ?_ ?_ ren_nil rfl)
      · exact List.forall_mem_cons.2 ⟨FV.same (by assumption) (fun _ _ _ hh => by cases hh) (fun _ hh => by cases hh), fun _ hp => (List.not_mem_nil hp).elim⟩
      · exact fun _ hp => (List.not_mem_nil hp).elim
    · cases h
  · cases h
theorem own_Top.l3.sound (k : Nat) : LSound (own_Top.E k) Try.f57.ntmps Try.f57 (loopAt Try.f57 3) (own_Top.l3.L k) :=
  loop_sound (own_Top.ok k) mixed rfl (by kernel_rfl) (allL_of (l := []) (by kernel_rfl) allL_nil) own_Top.l3.un own_Top.l3.mk own_Top.l3.fin own_Top.l3.re (own_Top.l3.once k) k own_Top.l3.fit own_Top.l3.fitO (own_Top.l3.eq k) own_Top.l3.finK own_Top.l3.finK_eq
theorem own_Top.eq (k : Nat) (x : (List Sapi_Ent × Int)) : runF (own_Top.E k) (codeOf Try.f57) (own_Top.mk x) own_Top.re = (own_Top.D k).f x := by kernel_rfl
theorem own_Top.sound (k : Nat) : Sound Try.prog DD 57 (own_Top.D k) :=
  fun_sound (E := own_Top.E k) (fn := Try.f57) (c := codeOf Try.f57) (own_Top.ok k) mixed rfl Try.func57 (by kernel_rfl) (by kernel_rfl) (allL_of (l := [loopAt Try.f57 3]) (by kernel_rfl) (allL_cons (key := 3) (by kernel_rfl) rfl (own_Top.l3.sound k) allL_nil)) (own_Top.D k) own_Top.mk own_Top.re
    (by intro args x h; replace h : own_Top.un args = some x := h; unfold own_Top.un at h; split at h; · cases h; rfl
        · cases h)
    (by intro v y h; unfold own_Top.re at h; split at h; · cases h; rfl
        · cases h)
    (fun _ => rfl) (fun x => Nat.le_of_ble_eq_true (by kernel_rfl)) (own_Top.eq k)
/-! ### pyx/dec.Of: function 95 -/
noncomputable def dec_Of.f (k : Nat) (a0 : Int) (a1 : Int) : Option Sapi_Dec := ((cond (decide (a0 < 0)) (some (a0, a1, IntKind.wrap .u64 (0 - (IntKind.wrap .u64 (a0))), false, 0, 0, 0)) (some (a0, a1, IntKind.wrap .u64 (a0), false, 0, 0, 0))) : Option (Int × Int × Int × Bool × Int × Int × Int)).bind fun y8 => ((limb_Of.f k y8.2.2.1).bind fun t9 => (some (⟨decide (y8.1 < 0), (t9.1, t9.2), (if (if 9 < y8.2.1 then 9 else y8.2.1) > 0 then (if 9 < y8.2.1 then 9 else y8.2.1) else 0)⟩ : Sapi_Dec)))
noncomputable def dec_Of.un : List (AV U) → Option (Int × Int) | [.flat (.int .i64 x1), .flat (.int .i64 x2)] => some (x1, x2) | _ => none
noncomputable def dec_Of.mk (x : (Int × Int)) : List (AV U) := [.flat (.int .i64 x.1), .flat (.int .i64 x.2)]
noncomputable def dec_Of.D (k : Nat) : FDen U := { X := (Int × Int), Y := Sapi_Dec, un := dec_Of.un, f := fun x => dec_Of.f k (x.1) (x.2), fin := fun y => .agg [.flat (.bool y.f_Neg), .flat (.int .u64 y.f_C.1), .flat (.int .u64 y.f_C.2), .flat (.int .i64 y.f_Scale)] }
noncomputable def dec_Of.re : AV U → Option Sapi_Dec | .agg [.flat (.bool x1), .flat (.int .u64 x2), .flat (.int .u64 x3), .flat (.int .i64 x4)] => some (⟨x1, (x2, x3), x4⟩ : Sapi_Dec) | _ => none
noncomputable def dec_Of.j3001.fin (y : (Int × Int × Int × Bool × Int × Int × Int)) : Out U := match y with | (x1, x2, x7, x3, x4, x5, x6) => .norm ⟨[(4, .ptr 4 0), (0, .flat (.int .i64 x1)), (1, .flat (.int .i64 x2)), (5, .flat (.int .u64 x7))], [(4, .lit [.flat (.bool x3), .flat (.int .u64 x4), .flat (.int .u64 x5), .flat (.int .i64 x6)])]⟩
noncomputable def dec_Of.j3001.finK {ρ : Type} (y : (Int × Int × Int × Bool × Int × Int × Int)) (K : Out U → Option ρ) : Option ρ := match y with | (x1, x2, x7, x3, x4, x5, x6) => K (.norm ⟨[(4, .ptr 4 0), (0, .flat (.int .i64 x1)), (1, .flat (.int .i64 x2)), (5, .flat (.int .u64 x7))], [(4, .lit [.flat (.bool x3), .flat (.int .u64 x4), .flat (.int .u64 x5), .flat (.int .i64 x6)])]⟩)
theorem dec_Of.j3001.finK_eq {ρ : Type} (y : (Int × Int × Int × Bool × Int × Int × Int)) (K : Out U → Option ρ) : dec_Of.j3001.finK y K = K (dec_Of.j3001.fin y) := by
  unfold dec_Of.j3001.finK dec_Of.j3001.fin
  first | rfl | (split <;> rfl)
noncomputable def dec_Of.j3001.re : Out U → Option ((Int × Int × Int × Bool × Int × Int × Int)) | .norm s => (match s.get 4, s.get 0, s.get 1, s.get 5, lk s.o 4 with | .ptr 4 0, .flat (.int .i64 x1), .flat (.int .i64 x2), .flat (.int .u64 x7), some (.lit [.flat (.bool x3), .flat (.int .u64 x4), .flat (.int .u64 x5), .flat (.int .i64 x6)]) => some (x1, x2, x7, x3, x4, x5, x6) | _, _, _, _, _ => none) | _ => none
noncomputable def dec_Of.j3001.J : JDen U := { Y := (Int × Int × Int × Bool × Int × Int × Int), re := dec_Of.j3001.re, fin := dec_Of.j3001.fin, finK := dec_Of.j3001.finK, finK_eq := dec_Of.j3001.finK_eq }
theorem dec_Of.j3001.fit (o : Out U) (y : (Int × Int × Int × Bool × Int × Int × Int)) (h : dec_Of.j3001.re o = some y) : FitsO o (dec_Of.j3001.fin y) := by
  unfold dec_Of.j3001.re at h
  split at h
  · split at h
    · cases h
      refine fitsO_norm (fits_ren [] ?_ ?_ ren_nil rfl)
      · exact List.forall_mem_cons.2 ⟨FV.same (by assumption) (fun _ _ _ hh => by cases hh) (fun _ hh => by cases hh), List.forall_mem_cons.2 ⟨FV.same (by assumption) (fun _ _ _ hh => by cases hh) (fun _ hh => by cases hh), List.forall_mem_cons.2 ⟨FV.same (by assumption) (fun _ _ _ hh => by cases hh) (fun _ hh => by cases hh), List.forall_mem_cons.2 ⟨FV.same (by assumption) (fun _ _ _ hh => by cases hh) (fun _ hh => by cases hh), fun _ hp => (List.not_mem_nil hp).elim⟩⟩⟩⟩
      · exact List.forall_mem_cons.2 ⟨(show lk (St.o _) 4 = some _ from by assumption), fun _ hp => (List.not_mem_nil hp).elim⟩
    · cases h
  · cases h
noncomputable def dec_Of.jl : List (Nat × JDen U) := [(3001, dec_Of.j3001.J)]
noncomputable def dec_Of.fl (k : Nat) : List (Nat × FDen U) := [(26, limb_Of.D k)]
noncomputable def dec_Of.ll (k : Nat) : List (Nat × LDen U) := []
noncomputable def dec_Of.E (k : Nat) : Env U := { P := Try.prog, D := DD, fd := lk (dec_Of.fl k), ld := lk (dec_Of.ll k), jd := lk dec_Of.jl, mode := lk [], elc := lk ec, dyn := fun t => false, vecs := fun d => false, results := Try.f95.results.toList }
theorem dec_Of.ok (k : Nat) : EnvOk (dec_Of.E k) := envOk lawful (dec_Of.fl k) (dec_Of.ll k) dec_Of.jl _ _ _ _ _ (by
  intro p hp
  simp only [dec_Of.fl, List.mem_cons, List.not_mem_nil, or_false] at hp
  rcases hp with rfl
  · exact ⟨limb_Of.sound k, enter_of Try.func26 (by kernel_rfl) (by kernel_rfl)⟩) (by
  intro p hp
  simp only [dec_Of.jl, List.mem_cons, List.not_mem_nil, or_false] at hp
  rcases hp with rfl
  · exact dec_Of.j3001.fit)
theorem dec_Of.eq (k : Nat) (x : (Int × Int)) : runF (dec_Of.E k) (codeOf Try.f95) (dec_Of.mk x) dec_Of.re = (dec_Of.D k).f x := by kernel_rfl
theorem dec_Of.sound (k : Nat) : Sound Try.prog DD 95 (dec_Of.D k) :=
  fun_sound (E := dec_Of.E k) (fn := Try.f95) (c := codeOf Try.f95) (dec_Of.ok k) mixed rfl Try.func95 (by kernel_rfl) (by kernel_rfl) (allL_of (l := []) (by kernel_rfl) allL_nil) (dec_Of.D k) dec_Of.mk dec_Of.re
    (by intro args x h; replace h : dec_Of.un args = some x := h; unfold dec_Of.un at h; split at h; · cases h; rfl
        · cases h)
    (by intro v y h; unfold dec_Of.re at h; split at h; · cases h; rfl
        · cases h)
    (fun _ => rfl) (fun x => Nat.le_of_ble_eq_true (by kernel_rfl)) (dec_Of.eq k)
/-! ### pyx/dec.ten: function 118 -/
noncomputable def dec_ten.f (k : Nat) (a0 : Int) : Option (Int × Int) := (limb_Ten.f k a0).bind fun t1 => (some (t1.1.1, t1.1.2))
noncomputable def dec_ten.un : List (AV U) → Option Int | [.flat (.int .i64 x1)] => some x1 | _ => none
noncomputable def dec_ten.mk (x : Int) : List (AV U) := [.flat (.int .i64 x)]
noncomputable def dec_ten.D (k : Nat) : FDen U := { X := Int, Y := (Int × Int), un := dec_ten.un, f := fun x => dec_ten.f k (x), fin := fun y => .agg [.flat (.int .u64 y.1), .flat (.int .u64 y.2)] }
noncomputable def dec_ten.re : AV U → Option (Int × Int) | .agg [.flat (.int .u64 x1), .flat (.int .u64 x2)] => some (x1, x2) | _ => none
noncomputable def dec_ten.jl : List (Nat × JDen U) := []
noncomputable def dec_ten.fl (k : Nat) : List (Nat × FDen U) := [(28, limb_Ten.D k)]
noncomputable def dec_ten.ll (k : Nat) : List (Nat × LDen U) := []
noncomputable def dec_ten.E (k : Nat) : Env U := { P := Try.prog, D := DD, fd := lk (dec_ten.fl k), ld := lk (dec_ten.ll k), jd := lk dec_ten.jl, mode := lk [], elc := lk ec, dyn := fun t => false, vecs := fun d => false, results := Try.f118.results.toList }
theorem dec_ten.ok (k : Nat) : EnvOk (dec_ten.E k) := envOk lawful (dec_ten.fl k) (dec_ten.ll k) dec_ten.jl _ _ _ _ _ (by
  intro p hp
  simp only [dec_ten.fl, List.mem_cons, List.not_mem_nil, or_false] at hp
  rcases hp with rfl
  · exact ⟨limb_Ten.sound k, enter_of Try.func28 (by kernel_rfl) (by kernel_rfl)⟩) (by
  intro p hp
  simp [dec_ten.jl] at hp)
theorem dec_ten.eq (k : Nat) (x : Int) : runF (dec_ten.E k) (codeOf Try.f118) (dec_ten.mk x) dec_ten.re = (dec_ten.D k).f x := by kernel_rfl
theorem dec_ten.sound (k : Nat) : Sound Try.prog DD 118 (dec_ten.D k) :=
  fun_sound (E := dec_ten.E k) (fn := Try.f118) (c := codeOf Try.f118) (dec_ten.ok k) mixed rfl Try.func118 (by kernel_rfl) (by kernel_rfl) (allL_of (l := []) (by kernel_rfl) allL_nil) (dec_ten.D k) dec_ten.mk dec_ten.re
    (by intro args x h; replace h : dec_ten.un args = some x := h; unfold dec_ten.un at h; split at h; · cases h; rfl
        · cases h)
    (by intro v y h; unfold dec_ten.re at h; split at h; · cases h; rfl
        · cases h)
    (fun _ => rfl) (fun x => Nat.le_of_ble_eq_true (by kernel_rfl)) (dec_ten.eq k)
/-! ### pyx/dec.small: function 117 -/
noncomputable def dec_small.f (k : Nat) (a0 : (Int × Int)) : Option Bool := (dec_ten.f k 30).bind fun t1 => ((limb_Cmp.f k (a0.1, a0.2) (t1.1, t1.2)).bind fun t2 => (some (decide (t2 < 0))))
noncomputable def dec_small.un : List (AV U) → Option (Int × Int) | [.agg [.flat (.int .u64 x1), .flat (.int .u64 x2)]] => some (x1, x2) | _ => none
noncomputable def dec_small.mk (x : (Int × Int)) : List (AV U) := [.agg [.flat (.int .u64 x.1), .flat (.int .u64 x.2)]]
noncomputable def dec_small.D (k : Nat) : FDen U := { X := (Int × Int), Y := Bool, un := dec_small.un, f := fun x => dec_small.f k (x), fin := fun y => .flat (.bool y) }
noncomputable def dec_small.re : AV U → Option Bool | .flat (.bool x1) => some x1 | _ => none
noncomputable def dec_small.jl : List (Nat × JDen U) := []
noncomputable def dec_small.fl (k : Nat) : List (Nat × FDen U) := [(118, dec_ten.D k), (19, limb_Cmp.D k)]
noncomputable def dec_small.ll (k : Nat) : List (Nat × LDen U) := []
noncomputable def dec_small.E (k : Nat) : Env U := { P := Try.prog, D := DD, fd := lk (dec_small.fl k), ld := lk (dec_small.ll k), jd := lk dec_small.jl, mode := lk [], elc := lk ec, dyn := fun t => false, vecs := fun d => false, results := Try.f117.results.toList }
theorem dec_small.ok (k : Nat) : EnvOk (dec_small.E k) := envOk lawful (dec_small.fl k) (dec_small.ll k) dec_small.jl _ _ _ _ _ (by
  intro p hp
  simp only [dec_small.fl, List.mem_cons, List.not_mem_nil, or_false] at hp
  rcases hp with rfl | rfl
  · exact ⟨dec_ten.sound k, enter_of Try.func118 (by kernel_rfl) (by kernel_rfl)⟩
  · exact ⟨limb_Cmp.sound k, enter_of Try.func19 (by kernel_rfl) (by kernel_rfl)⟩) (by
  intro p hp
  simp [dec_small.jl] at hp)
theorem dec_small.eq (k : Nat) (x : (Int × Int)) : runF (dec_small.E k) (codeOf Try.f117) (dec_small.mk x) dec_small.re = (dec_small.D k).f x := by kernel_rfl
theorem dec_small.sound (k : Nat) : Sound Try.prog DD 117 (dec_small.D k) :=
  fun_sound (E := dec_small.E k) (fn := Try.f117) (c := codeOf Try.f117) (dec_small.ok k) mixed rfl Try.func117 (by kernel_rfl) (by kernel_rfl) (allL_of (l := []) (by kernel_rfl) allL_nil) (dec_small.D k) dec_small.mk dec_small.re
    (by intro args x h; replace h : dec_small.un args = some x := h; unfold dec_small.un at h; split at h; · cases h; rfl
        · cases h)
    (by intro v y h; unfold dec_small.re at h; split at h; · cases h; rfl
        · cases h)
    (fun _ => rfl) (fun x => Nat.le_of_ble_eq_true (by kernel_rfl)) (dec_small.eq k)
/-! ### pyx/dec.nought: function 100 -/
noncomputable def dec_nought.f (k : Nat) (a0 : (Int × Int)) : Option Bool := some ((a0.1 == 0) && (a0.2 == 0))
noncomputable def dec_nought.un : List (AV U) → Option (Int × Int) | [.agg [.flat (.int .u64 x1), .flat (.int .u64 x2)]] => some (x1, x2) | _ => none
noncomputable def dec_nought.mk (x : (Int × Int)) : List (AV U) := [.agg [.flat (.int .u64 x.1), .flat (.int .u64 x.2)]]
noncomputable def dec_nought.D (k : Nat) : FDen U := { X := (Int × Int), Y := Bool, un := dec_nought.un, f := fun x => dec_nought.f k (x), fin := fun y => .flat (.bool y) }
noncomputable def dec_nought.re : AV U → Option Bool | .flat (.bool x1) => some x1 | _ => none
noncomputable def dec_nought.jl : List (Nat × JDen U) := []
noncomputable def dec_nought.fl (k : Nat) : List (Nat × FDen U) := []
noncomputable def dec_nought.ll (k : Nat) : List (Nat × LDen U) := []
noncomputable def dec_nought.E (k : Nat) : Env U := { P := Try.prog, D := DD, fd := lk (dec_nought.fl k), ld := lk (dec_nought.ll k), jd := lk dec_nought.jl, mode := lk [], elc := lk ec, dyn := fun t => false, vecs := fun d => false, results := Try.f100.results.toList }
theorem dec_nought.ok (k : Nat) : EnvOk (dec_nought.E k) := envOk lawful (dec_nought.fl k) (dec_nought.ll k) dec_nought.jl _ _ _ _ _ (by
  intro p hp
  simp [dec_nought.fl] at hp) (by
  intro p hp
  simp [dec_nought.jl] at hp)
theorem dec_nought.eq (k : Nat) (x : (Int × Int)) : runF (dec_nought.E k) (codeOf Try.f100) (dec_nought.mk x) dec_nought.re = (dec_nought.D k).f x := by kernel_rfl
theorem dec_nought.sound (k : Nat) : Sound Try.prog DD 100 (dec_nought.D k) :=
  fun_sound (E := dec_nought.E k) (fn := Try.f100) (c := codeOf Try.f100) (dec_nought.ok k) mixed rfl Try.func100 (by kernel_rfl) (by kernel_rfl) (allL_of (l := []) (by kernel_rfl) allL_nil) (dec_nought.D k) dec_nought.mk dec_nought.re
    (by intro args x h; replace h : dec_nought.un args = some x := h; unfold dec_nought.un at h; split at h; · cases h; rfl
        · cases h)
    (by intro v y h; unfold dec_nought.re at h; split at h; · cases h; rfl
        · cases h)
    (fun _ => rfl) (fun x => Nat.le_of_ble_eq_true (by kernel_rfl)) (dec_nought.eq k)
/-! ### pyx/dec.Right: function 99 -/
noncomputable def dec_Right.f (k : Nat) (a0 : Sapi_Dec) : Option Bool := (dec_small.f k (a0.f_C.1, a0.f_C.2)).bind fun t1 => (cond (t1) (cond (decide (a0.f_Scale ≥ 0)) (cond (decide (a0.f_Scale ≤ 9)) (cond (a0.f_Neg) ((dec_nought.f k (a0.f_C.1, a0.f_C.2)).bind fun t2 => (some (!t2))) (some true)) (some false)) (some false)) (some false))
noncomputable def dec_Right.un : List (AV U) → Option Sapi_Dec | [.agg [.flat (.bool x1), .flat (.int .u64 x2), .flat (.int .u64 x3), .flat (.int .i64 x4)]] => some (⟨x1, (x2, x3), x4⟩ : Sapi_Dec) | _ => none
noncomputable def dec_Right.mk (x : Sapi_Dec) : List (AV U) := [.agg [.flat (.bool x.f_Neg), .flat (.int .u64 x.f_C.1), .flat (.int .u64 x.f_C.2), .flat (.int .i64 x.f_Scale)]]
noncomputable def dec_Right.D (k : Nat) : FDen U := { X := Sapi_Dec, Y := Bool, un := dec_Right.un, f := fun x => dec_Right.f k (x), fin := fun y => .flat (.bool y) }
noncomputable def dec_Right.re : AV U → Option Bool | .flat (.bool x1) => some x1 | _ => none
noncomputable def dec_Right.jl : List (Nat × JDen U) := []
noncomputable def dec_Right.fl (k : Nat) : List (Nat × FDen U) := [(117, dec_small.D k), (100, dec_nought.D k)]
noncomputable def dec_Right.ll (k : Nat) : List (Nat × LDen U) := []
noncomputable def dec_Right.E (k : Nat) : Env U := { P := Try.prog, D := DD, fd := lk (dec_Right.fl k), ld := lk (dec_Right.ll k), jd := lk dec_Right.jl, mode := lk [], elc := lk ec, dyn := fun t => false, vecs := fun d => false, results := Try.f99.results.toList }
theorem dec_Right.ok (k : Nat) : EnvOk (dec_Right.E k) := envOk lawful (dec_Right.fl k) (dec_Right.ll k) dec_Right.jl _ _ _ _ _ (by
  intro p hp
  simp only [dec_Right.fl, List.mem_cons, List.not_mem_nil, or_false] at hp
  rcases hp with rfl | rfl
  · exact ⟨dec_small.sound k, enter_of Try.func117 (by kernel_rfl) (by kernel_rfl)⟩
  · exact ⟨dec_nought.sound k, enter_of Try.func100 (by kernel_rfl) (by kernel_rfl)⟩) (by
  intro p hp
  simp [dec_Right.jl] at hp)
theorem dec_Right.eq (k : Nat) (x : Sapi_Dec) : runF (dec_Right.E k) (codeOf Try.f99) (dec_Right.mk x) dec_Right.re = (dec_Right.D k).f x := by kernel_rfl
theorem dec_Right.sound (k : Nat) : Sound Try.prog DD 99 (dec_Right.D k) :=
  fun_sound (E := dec_Right.E k) (fn := Try.f99) (c := codeOf Try.f99) (dec_Right.ok k) mixed rfl Try.func99 (by kernel_rfl) (by kernel_rfl) (allL_of (l := []) (by kernel_rfl) allL_nil) (dec_Right.D k) dec_Right.mk dec_Right.re
    (by intro args x h; replace h : dec_Right.un args = some x := h; unfold dec_Right.un at h; split at h; · cases h; rfl
        · cases h)
    (by intro v y h; unfold dec_Right.re at h; split at h; · cases h; rfl
        · cases h)
    (fun _ => rfl) (fun x => Nat.le_of_ble_eq_true (by kernel_rfl)) (dec_Right.eq k)
/-! ### pyx/dec.wide: function 102 -/
noncomputable def dec_wide.f (k : Nat) (a0 : Sapi_Dec) (a1 : Int) : Option (Int × Int × Int × Int) := (dec_ten.f k (IntKind.wrap .i64 (a1 - a0.f_Scale))).bind fun t1 => ((limb_Mul.f k (a0.f_C.1, a0.f_C.2) (t1.1, t1.2)).bind fun t2 => (some (t2.1, t2.2.1, t2.2.2.1, t2.2.2.2)))
noncomputable def dec_wide.un : List (AV U) → Option (Sapi_Dec × Int) | [.agg [.flat (.bool x1), .flat (.int .u64 x2), .flat (.int .u64 x3), .flat (.int .i64 x4)], .flat (.int .i64 x5)] => some ((⟨x1, (x2, x3), x4⟩ : Sapi_Dec), x5) | _ => none
noncomputable def dec_wide.mk (x : (Sapi_Dec × Int)) : List (AV U) := [.agg [.flat (.bool x.1.f_Neg), .flat (.int .u64 x.1.f_C.1), .flat (.int .u64 x.1.f_C.2), .flat (.int .i64 x.1.f_Scale)], .flat (.int .i64 x.2)]
noncomputable def dec_wide.D (k : Nat) : FDen U := { X := (Sapi_Dec × Int), Y := (Int × Int × Int × Int), un := dec_wide.un, f := fun x => dec_wide.f k (x.1) (x.2), fin := fun y => .agg [.flat (.int .u64 y.1), .flat (.int .u64 y.2.1), .flat (.int .u64 y.2.2.1), .flat (.int .u64 y.2.2.2)] }
noncomputable def dec_wide.re : AV U → Option (Int × Int × Int × Int) | .agg [.flat (.int .u64 x1), .flat (.int .u64 x2), .flat (.int .u64 x3), .flat (.int .u64 x4)] => some (x1, x2, x3, x4) | _ => none
noncomputable def dec_wide.jl : List (Nat × JDen U) := []
noncomputable def dec_wide.fl (k : Nat) : List (Nat × FDen U) := [(118, dec_ten.D k), (25, limb_Mul.D k)]
noncomputable def dec_wide.ll (k : Nat) : List (Nat × LDen U) := []
noncomputable def dec_wide.E (k : Nat) : Env U := { P := Try.prog, D := DD, fd := lk (dec_wide.fl k), ld := lk (dec_wide.ll k), jd := lk dec_wide.jl, mode := lk [], elc := lk ec, dyn := fun t => false, vecs := fun d => false, results := Try.f102.results.toList }
theorem dec_wide.ok (k : Nat) : EnvOk (dec_wide.E k) := envOk lawful (dec_wide.fl k) (dec_wide.ll k) dec_wide.jl _ _ _ _ _ (by
  intro p hp
  simp only [dec_wide.fl, List.mem_cons, List.not_mem_nil, or_false] at hp
  rcases hp with rfl | rfl
  · exact ⟨dec_ten.sound k, enter_of Try.func118 (by kernel_rfl) (by kernel_rfl)⟩
  · exact ⟨limb_Mul.sound k, enter_of Try.func25 (by kernel_rfl) (by kernel_rfl)⟩) (by
  intro p hp
  simp [dec_wide.jl] at hp)
theorem dec_wide.eq (k : Nat) (x : (Sapi_Dec × Int)) : runF (dec_wide.E k) (codeOf Try.f102) (dec_wide.mk x) dec_wide.re = (dec_wide.D k).f x := by kernel_rfl
theorem dec_wide.sound (k : Nat) : Sound Try.prog DD 102 (dec_wide.D k) :=
  fun_sound (E := dec_wide.E k) (fn := Try.f102) (c := codeOf Try.f102) (dec_wide.ok k) mixed rfl Try.func102 (by kernel_rfl) (by kernel_rfl) (allL_of (l := []) (by kernel_rfl) allL_nil) (dec_wide.D k) dec_wide.mk dec_wide.re
    (by intro args x h; replace h : dec_wide.un args = some x := h; unfold dec_wide.un at h; split at h; · cases h; rfl
        · cases h)
    (by intro v y h; unfold dec_wide.re at h; split at h; · cases h; rfl
        · cases h)
    (fun _ => rfl) (fun x => Nat.le_of_ble_eq_true (by kernel_rfl)) (dec_wide.eq k)
/-! ### pyx/dec.made: function 109 -/
noncomputable def dec_made.f (k : Nat) (a0 : Bool) (a1 : (Int × Int × Int × Int)) (a2 : Int) : Option (Sapi_Dec × Int) := (limb_Short.f k (a1.1, a1.2.1, a1.2.2.1, a1.2.2.2)).bind fun t1 => (((cond (!t1.2) (some (a0, a2, true, false, 0, 0, 0, t1.1.1, t1.1.2)) ((dec_small.f k (t1.1.1, t1.1.2)).bind fun t11 => (some (a0, a2, !t11, false, 0, 0, 0, t1.1.1, t1.1.2)))) : Option (Bool × Int × Bool × Bool × Int × Int × Int × Int × Int)).bind fun y12 => (cond (y12.2.2.1) (some ((⟨false, (0, 0), 0⟩ : Sapi_Dec), 3)) (cond (y12.1) ((dec_nought.f k (y12.2.2.2.2.2.2.2.1, y12.2.2.2.2.2.2.2.2)).bind fun t13 => (some ((⟨!t13, (y12.2.2.2.2.2.2.2.1, y12.2.2.2.2.2.2.2.2), y12.2.1⟩ : Sapi_Dec), 0))) (some ((⟨false, (y12.2.2.2.2.2.2.2.1, y12.2.2.2.2.2.2.2.2), y12.2.1⟩ : Sapi_Dec), 0)))))
noncomputable def dec_made.un : List (AV U) → Option (Bool × (Int × Int × Int × Int) × Int) | [.flat (.bool x1), .agg [.flat (.int .u64 x2), .flat (.int .u64 x3), .flat (.int .u64 x4), .flat (.int .u64 x5)], .flat (.int .i64 x6)] => some (x1, (x2, x3, x4, x5), x6) | _ => none
noncomputable def dec_made.mk (x : (Bool × (Int × Int × Int × Int) × Int)) : List (AV U) := [.flat (.bool x.1), .agg [.flat (.int .u64 x.2.1.1), .flat (.int .u64 x.2.1.2.1), .flat (.int .u64 x.2.1.2.2.1), .flat (.int .u64 x.2.1.2.2.2)], .flat (.int .i64 x.2.2)]
noncomputable def dec_made.D (k : Nat) : FDen U := { X := (Bool × (Int × Int × Int × Int) × Int), Y := (Sapi_Dec × Int), un := dec_made.un, f := fun x => dec_made.f k (x.1) (x.2.1) (x.2.2), fin := fun y => .tup [.agg [.flat (.bool y.1.f_Neg), .flat (.int .u64 y.1.f_C.1), .flat (.int .u64 y.1.f_C.2), .flat (.int .i64 y.1.f_Scale)], .flat (.int .i64 y.2)] }
noncomputable def dec_made.re : AV U → Option (Sapi_Dec × Int) | .tup [.agg [.flat (.bool x1), .flat (.int .u64 x2), .flat (.int .u64 x3), .flat (.int .i64 x4)], .flat (.int .i64 x5)] => some ((⟨x1, (x2, x3), x4⟩ : Sapi_Dec), x5) | _ => none
noncomputable def dec_made.j2000.fin (y : (Bool × Int × Bool × Bool × Int × Int × Int × Int × Int)) : Out U := match y with | (x2, x3, x10, x4, x5, x6, x7, x8, x9) => .norm ⟨[(6, .ptr 6 0), (8, .ptr 8 0), (0, .flat (.bool x2)), (2, .flat (.int .i64 x3)), (21, .flat (.bool x10))], [(6, .lit [.flat (.bool x4), .flat (.int .u64 x5), .flat (.int .u64 x6), .flat (.int .i64 x7)]), (8, .lit [.flat (.int .u64 x8), .flat (.int .u64 x9)])]⟩
noncomputable def dec_made.j2000.finK {ρ : Type} (y : (Bool × Int × Bool × Bool × Int × Int × Int × Int × Int)) (K : Out U → Option ρ) : Option ρ := match y with | (x2, x3, x10, x4, x5, x6, x7, x8, x9) => K (.norm ⟨[(6, .ptr 6 0), (8, .ptr 8 0), (0, .flat (.bool x2)), (2, .flat (.int .i64 x3)), (21, .flat (.bool x10))], [(6, .lit [.flat (.bool x4), .flat (.int .u64 x5), .flat (.int .u64 x6), .flat (.int .i64 x7)]), (8, .lit [.flat (.int .u64 x8), .flat (.int .u64 x9)])]⟩)
theorem dec_made.j2000.finK_eq {ρ : Type} (y : (Bool × Int × Bool × Bool × Int × Int × Int × Int × Int)) (K : Out U → Option ρ) : dec_made.j2000.finK y K = K (dec_made.j2000.fin y) := by
  unfold dec_made.j2000.finK dec_made.j2000.fin
  first | rfl | (split <;> rfl)
noncomputable def dec_made.j2000.re : Out U → Option ((Bool × Int × Bool × Bool × Int × Int × Int × Int × Int)) | .norm s => (match s.get 6, s.get 8, s.get 0, s.get 2, s.get 21, lk s.o 6, lk s.o 8 with | .ptr 6 0, .ptr 8 0, .flat (.bool x2), .flat (.int .i64 x3), .flat (.bool x10), some (.lit [.flat (.bool x4), .flat (.int .u64 x5), .flat (.int .u64 x6), .flat (.int .i64 x7)]), some (.lit [.flat (.int .u64 x8), .flat (.int .u64 x9)]) => some (x2, x3, x10, x4, x5, x6, x7, x8, x9) | _, _, _, _, _, _, _ => none) | _ => none
noncomputable def dec_made.j2000.J : JDen U := { Y := (Bool × Int × Bool × Bool × Int × Int × Int × Int × Int), re := dec_made.j2000.re, fin := dec_made.j2000.fin, finK := dec_made.j2000.finK, finK_eq := dec_made.j2000.finK_eq }
theorem dec_made.j2000.fit (o : Out U) (y : (Bool × Int × Bool × Bool × Int × Int × Int × Int × Int)) (h : dec_made.j2000.re o = some y) : FitsO o (dec_made.j2000.fin y) := by
  unfold dec_made.j2000.re at h
  split at h
  · split at h
    · cases h
      refine fitsO_norm (fits_ren [] ?_ ?_ ren_nil rfl)
      · exact List.forall_mem_cons.2 ⟨FV.same (by assumption) (fun _ _ _ hh => by cases hh) (fun _ hh => by cases hh), List.forall_mem_cons.2 ⟨FV.same (by assumption) (fun _ _ _ hh => by cases hh) (fun _ hh => by cases hh), List.forall_mem_cons.2 ⟨FV.same (by assumption) (fun _ _ _ hh => by cases hh) (fun _ hh => by cases hh), List.forall_mem_cons.2 ⟨FV.same (by assumption) (fun _ _ _ hh => by cases hh) (fun _ hh => by cases hh), List.forall_mem_cons.2 ⟨FV.same (by assumption) (fun _ _ _ hh => by cases hh) (fun _ hh => by cases hh), fun _ hp => (List.not_mem_nil hp).elim⟩⟩⟩⟩⟩
      · exact List.forall_mem_cons.2 ⟨(show lk (St.o _) 6 = some _ from by assumption), List.forall_mem_cons.2 ⟨(show lk (St.o _) 8 = some _ from by assumption), fun _ hp => (List.not_mem_nil hp).elim⟩⟩
    · cases h
  · cases h
noncomputable def dec_made.jl : List (Nat × JDen U) := [(2000, dec_made.j2000.J)]
noncomputable def dec_made.fl (k : Nat) : List (Nat × FDen U) := [(29, limb_Short.D k), (117, dec_small.D k), (100, dec_nought.D k)]
noncomputable def dec_made.ll (k : Nat) : List (Nat × LDen U) := []
noncomputable def dec_made.E (k : Nat) : Env U := { P := Try.prog, D := DD, fd := lk (dec_made.fl k), ld := lk (dec_made.ll k), jd := lk dec_made.jl, mode := lk [], elc := lk ec, dyn := fun t => false, vecs := fun d => false, results := Try.f109.results.toList }
theorem dec_made.ok (k : Nat) : EnvOk (dec_made.E k) := envOk lawful (dec_made.fl k) (dec_made.ll k) dec_made.jl _ _ _ _ _ (by
  intro p hp
  simp only [dec_made.fl, List.mem_cons, List.not_mem_nil, or_false] at hp
  rcases hp with rfl | rfl | rfl
  · exact ⟨limb_Short.sound k, enter_of Try.func29 (by kernel_rfl) (by kernel_rfl)⟩
  · exact ⟨dec_small.sound k, enter_of Try.func117 (by kernel_rfl) (by kernel_rfl)⟩
  · exact ⟨dec_nought.sound k, enter_of Try.func100 (by kernel_rfl) (by kernel_rfl)⟩) (by
  intro p hp
  simp only [dec_made.jl, List.mem_cons, List.not_mem_nil, or_false] at hp
  rcases hp with rfl
  · exact dec_made.j2000.fit)
theorem dec_made.eq (k : Nat) (x : (Bool × (Int × Int × Int × Int) × Int)) : runF (dec_made.E k) (codeOf Try.f109) (dec_made.mk x) dec_made.re = (dec_made.D k).f x := by kernel_rfl
theorem dec_made.sound (k : Nat) : Sound Try.prog DD 109 (dec_made.D k) :=
  fun_sound (E := dec_made.E k) (fn := Try.f109) (c := codeOf Try.f109) (dec_made.ok k) mixed rfl Try.func109 (by kernel_rfl) (by kernel_rfl) (allL_of (l := []) (by kernel_rfl) allL_nil) (dec_made.D k) dec_made.mk dec_made.re
    (by intro args x h; replace h : dec_made.un args = some x := h; unfold dec_made.un at h; split at h; · cases h; rfl
        · cases h)
    (by intro v y h; unfold dec_made.re at h; split at h; · cases h; rfl
        · cases h)
    (fun _ => rfl) (fun x => Nat.le_of_ble_eq_true (by kernel_rfl)) (dec_made.eq k)
/-! ### pyx/dec.Scaled: function 94 -/
noncomputable def dec_Scaled.f (k : Nat) (a0 : Sapi_Dec) (a1 : Int) : Option (Sapi_Dec × Int) := (((dec_Right.f k (⟨a0.f_Neg, (a0.f_C.1, a0.f_C.2), a0.f_Scale⟩ : Sapi_Dec)).bind fun t1 => (cond (!t1) (some (a1, true, a0.f_Neg, a0.f_C.1, a0.f_C.2, a0.f_Scale, false, 0, 0, 0)) (cond (decide (a1 < a0.f_Scale)) (some (a1, true, a0.f_Neg, a0.f_C.1, a0.f_C.2, a0.f_Scale, false, 0, 0, 0)) (some (a1, decide (a1 > 9), a0.f_Neg, a0.f_C.1, a0.f_C.2, a0.f_Scale, false, 0, 0, 0))))) : Option (Int × Bool × Bool × Int × Int × Int × Bool × Int × Int × Int)).bind fun y12 => (cond (y12.2.1) (some ((⟨false, (0, 0), 0⟩ : Sapi_Dec), 1)) ((dec_wide.f k (⟨y12.2.2.1, (y12.2.2.2.1, y12.2.2.2.2.1), y12.2.2.2.2.2.1⟩ : Sapi_Dec) y12.1).bind fun t13 => ((dec_made.f k y12.2.2.1 (t13.1, t13.2.1, t13.2.2.1, t13.2.2.2) y12.1).bind fun t14 => (some ((⟨t14.1.f_Neg, (t14.1.f_C.1, t14.1.f_C.2), t14.1.f_Scale⟩ : Sapi_Dec), t14.2)))))
noncomputable def dec_Scaled.un : List (AV U) → Option (Sapi_Dec × Int) | [.agg [.flat (.bool x1), .flat (.int .u64 x2), .flat (.int .u64 x3), .flat (.int .i64 x4)], .flat (.int .i64 x5)] => some ((⟨x1, (x2, x3), x4⟩ : Sapi_Dec), x5) | _ => none
noncomputable def dec_Scaled.mk (x : (Sapi_Dec × Int)) : List (AV U) := [.agg [.flat (.bool x.1.f_Neg), .flat (.int .u64 x.1.f_C.1), .flat (.int .u64 x.1.f_C.2), .flat (.int .i64 x.1.f_Scale)], .flat (.int .i64 x.2)]
noncomputable def dec_Scaled.D (k : Nat) : FDen U := { X := (Sapi_Dec × Int), Y := (Sapi_Dec × Int), un := dec_Scaled.un, f := fun x => dec_Scaled.f k (x.1) (x.2), fin := fun y => .tup [.agg [.flat (.bool y.1.f_Neg), .flat (.int .u64 y.1.f_C.1), .flat (.int .u64 y.1.f_C.2), .flat (.int .i64 y.1.f_Scale)], .flat (.int .i64 y.2)] }
noncomputable def dec_Scaled.re : AV U → Option (Sapi_Dec × Int) | .tup [.agg [.flat (.bool x1), .flat (.int .u64 x2), .flat (.int .u64 x3), .flat (.int .i64 x4)], .flat (.int .i64 x5)] => some ((⟨x1, (x2, x3), x4⟩ : Sapi_Dec), x5) | _ => none
noncomputable def dec_Scaled.j1000.fin (y : (Int × Bool × Bool × Int × Int × Int × Bool × Int × Int × Int)) : Out U := match y with | (x2, x11, x3, x4, x5, x6, x7, x8, x9, x10) => .norm ⟨[(2, .ptr 2 0), (4, .ptr 4 0), (1, .flat (.int .i64 x2)), (18, .flat (.bool x11))], [(2, .lit [.flat (.bool x3), .flat (.int .u64 x4), .flat (.int .u64 x5), .flat (.int .i64 x6)]), (4, .lit [.flat (.bool x7), .flat (.int .u64 x8), .flat (.int .u64 x9), .flat (.int .i64 x10)])]⟩
noncomputable def dec_Scaled.j1000.finK {ρ : Type} (y : (Int × Bool × Bool × Int × Int × Int × Bool × Int × Int × Int)) (K : Out U → Option ρ) : Option ρ := match y with | (x2, x11, x3, x4, x5, x6, x7, x8, x9, x10) => K (.norm ⟨[(2, .ptr 2 0), (4, .ptr 4 0), (1, .flat (.int .i64 x2)), (18, .flat (.bool x11))], [(2, .lit [.flat (.bool x3), .flat (.int .u64 x4), .flat (.int .u64 x5), .flat (.int .i64 x6)]), (4, .lit [.flat (.bool x7), .flat (.int .u64 x8), .flat (.int .u64 x9), .flat (.int .i64 x10)])]⟩)
theorem dec_Scaled.j1000.finK_eq {ρ : Type} (y : (Int × Bool × Bool × Int × Int × Int × Bool × Int × Int × Int)) (K : Out U → Option ρ) : dec_Scaled.j1000.finK y K = K (dec_Scaled.j1000.fin y) := by
  unfold dec_Scaled.j1000.finK dec_Scaled.j1000.fin
  first | rfl | (split <;> rfl)
noncomputable def dec_Scaled.j1000.re : Out U → Option ((Int × Bool × Bool × Int × Int × Int × Bool × Int × Int × Int)) | .norm s => (match s.get 2, s.get 4, s.get 1, s.get 18, lk s.o 2, lk s.o 4 with | .ptr 2 0, .ptr 4 0, .flat (.int .i64 x2), .flat (.bool x11), some (.lit [.flat (.bool x3), .flat (.int .u64 x4), .flat (.int .u64 x5), .flat (.int .i64 x6)]), some (.lit [.flat (.bool x7), .flat (.int .u64 x8), .flat (.int .u64 x9), .flat (.int .i64 x10)]) => some (x2, x11, x3, x4, x5, x6, x7, x8, x9, x10) | _, _, _, _, _, _ => none) | _ => none
noncomputable def dec_Scaled.j1000.J : JDen U := { Y := (Int × Bool × Bool × Int × Int × Int × Bool × Int × Int × Int), re := dec_Scaled.j1000.re, fin := dec_Scaled.j1000.fin, finK := dec_Scaled.j1000.finK, finK_eq := dec_Scaled.j1000.finK_eq }
theorem dec_Scaled.j1000.fit (o : Out U) (y : (Int × Bool × Bool × Int × Int × Int × Bool × Int × Int × Int)) (h : dec_Scaled.j1000.re o = some y) : FitsO o (dec_Scaled.j1000.fin y) := by
  unfold dec_Scaled.j1000.re at h
  split at h
  · split at h
    · cases h
      refine fitsO_norm (fits_ren [] ?_ ?_ ren_nil rfl)
      · exact List.forall_mem_cons.2 ⟨FV.same (by assumption) (fun _ _ _ hh => by cases hh) (fun _ hh => by cases hh), List.forall_mem_cons.2 ⟨FV.same (by assumption) (fun _ _ _ hh => by cases hh) (fun _ hh => by cases hh), List.forall_mem_cons.2 ⟨FV.same (by assumption) (fun _ _ _ hh => by cases hh) (fun _ hh => by cases hh), List.forall_mem_cons.2 ⟨FV.same (by assumption) (fun _ _ _ hh => by cases hh) (fun _ hh => by cases hh), fun _ hp => (List.not_mem_nil hp).elim⟩⟩⟩⟩
      · exact List.forall_mem_cons.2 ⟨(show lk (St.o _) 2 = some _ from by assumption), List.forall_mem_cons.2 ⟨(show lk (St.o _) 4 = some _ from by assumption), fun _ hp => (List.not_mem_nil hp).elim⟩⟩
    · cases h
  · cases h
noncomputable def dec_Scaled.jl : List (Nat × JDen U) := [(1000, dec_Scaled.j1000.J)]
noncomputable def dec_Scaled.fl (k : Nat) : List (Nat × FDen U) := [(99, dec_Right.D k), (102, dec_wide.D k), (109, dec_made.D k)]
noncomputable def dec_Scaled.ll (k : Nat) : List (Nat × LDen U) := []
noncomputable def dec_Scaled.E (k : Nat) : Env U := { P := Try.prog, D := DD, fd := lk (dec_Scaled.fl k), ld := lk (dec_Scaled.ll k), jd := lk dec_Scaled.jl, mode := lk [], elc := lk ec, dyn := fun t => false, vecs := fun d => false, results := Try.f94.results.toList }
theorem dec_Scaled.ok (k : Nat) : EnvOk (dec_Scaled.E k) := envOk lawful (dec_Scaled.fl k) (dec_Scaled.ll k) dec_Scaled.jl _ _ _ _ _ (by
  intro p hp
  simp only [dec_Scaled.fl, List.mem_cons, List.not_mem_nil, or_false] at hp
  rcases hp with rfl | rfl | rfl
  · exact ⟨dec_Right.sound k, enter_of Try.func99 (by kernel_rfl) (by kernel_rfl)⟩
  · exact ⟨dec_wide.sound k, enter_of Try.func102 (by kernel_rfl) (by kernel_rfl)⟩
  · exact ⟨dec_made.sound k, enter_of Try.func109 (by kernel_rfl) (by kernel_rfl)⟩) (by
  intro p hp
  simp only [dec_Scaled.jl, List.mem_cons, List.not_mem_nil, or_false] at hp
  rcases hp with rfl
  · exact dec_Scaled.j1000.fit)
theorem dec_Scaled.eq (k : Nat) (x : (Sapi_Dec × Int)) : runF (dec_Scaled.E k) (codeOf Try.f94) (dec_Scaled.mk x) dec_Scaled.re = (dec_Scaled.D k).f x := by kernel_rfl
theorem dec_Scaled.sound (k : Nat) : Sound Try.prog DD 94 (dec_Scaled.D k) :=
  fun_sound (E := dec_Scaled.E k) (fn := Try.f94) (c := codeOf Try.f94) (dec_Scaled.ok k) mixed rfl Try.func94 (by kernel_rfl) (by kernel_rfl) (allL_of (l := []) (by kernel_rfl) allL_nil) (dec_Scaled.D k) dec_Scaled.mk dec_Scaled.re
    (by intro args x h; replace h : dec_Scaled.un args = some x := h; unfold dec_Scaled.un at h; split at h; · cases h; rfl
        · cases h)
    (by intro v y h; unfold dec_Scaled.re at h; split at h; · cases h; rfl
        · cases h)
    (fun _ => rfl) (fun x => Nat.le_of_ble_eq_true (by kernel_rfl)) (dec_Scaled.eq k)
/-! ### pyx/quant.right: function 110 -/
noncomputable def quant_right.l2.once (k : Nat) (x : (Int × Int × List Sapi_Dec × Int × Int)) : Option ((Int × Int × List Sapi_Dec × Int × Int) ⊕ ((Int × Int) ⊕ Bool)) := match x with | (x1, x2, x3, x4, x5) => cond (decide (x5 < x4)) (cond (inb x5 (List.length x3)) ((dec_Right.f k (⟨(List.getD x3 (Int.toNat x5) Sapi_Dec.zero).f_Neg, (((List.getD x3 (Int.toNat x5) Sapi_Dec.zero).f_C).1, ((List.getD x3 (Int.toNat x5) Sapi_Dec.zero).f_C).2), (List.getD x3 (Int.toNat x5) Sapi_Dec.zero).f_Scale⟩ : Sapi_Dec)).bind fun t6 => (cond (!t6) (some (.inr (.inr false))) (some (.inl (x1, x2, x3, x4, IntKind.wrap .i64 (x5 + 1)))))) none) (some (.inr (.inl (x1, x2))))
noncomputable def quant_right.f (k : Nat) (a0 : Int) (a1 : Int) (a2 : List Sapi_Dec) : Option Bool := (iter (quant_right.l2.once k) k (a0, a1, a2, (List.length a2 : Int), 0)).bind fun | .inl y10 => (cond (decide (y10.1 ≥ 0)) (cond (decide (y10.1 ≤ 9)) (cond (decide (y10.2 ≥ 0)) (some (decide (y10.2 ≤ 4))) (some false)) (some false)) (some false)) | .inr y11 => (some y11)
noncomputable def quant_right.un : List (AV U) → Option (Int × Int × List Sapi_Dec) | [.flat (.int .i64 x1), .flat (.int .i64 x2), .row C.Sapi_Dec x3] => some (x1, x2, x3) | _ => none
noncomputable def quant_right.mk (x : (Int × Int × List Sapi_Dec)) : List (AV U) := [.flat (.int .i64 x.1), .flat (.int .i64 x.2.1), .row C.Sapi_Dec x.2.2]
noncomputable def quant_right.D (k : Nat) : FDen U := { X := (Int × Int × List Sapi_Dec), Y := Bool, un := quant_right.un, f := fun x => quant_right.f k (x.1) (x.2.1) (x.2.2), fin := fun y => .flat (.bool y) }
noncomputable def quant_right.re : AV U → Option Bool | .flat (.bool x1) => some x1 | _ => none
noncomputable def quant_right.l2.mk (x : (Int × Int × List Sapi_Dec × Int × Int)) : St U := match x with | (x1, x2, x3, x4, x5) => ⟨[(0, .flat (.int .i64 x1)), (1, .flat (.int .i64 x2)), (9, .row C.Sapi_Dec x3), (10, .flat (.int .i64 x4)), (11, .flat (.int .i64 x5))], []⟩
noncomputable def quant_right.l2.un (s : St U) : Option (Int × Int × List Sapi_Dec × Int × Int) := (row_Sapi_Dec (s.get 9)).bind fun q0 => (match s.get 0, s.get 1, s.get 10, s.get 11 with | .flat (.int .i64 x1), .flat (.int .i64 x2), .flat (.int .i64 x4), .flat (.int .i64 x5) => some (x1, x2, q0, x4, x5) | _, _, _, _ => none)
noncomputable def quant_right.l2.fin (y : (Int × Int) ⊕ Bool) : Out U := match y with | .inl (x7, x8) => .exit 0 ⟨[(0, .flat (.int .i64 x7)), (1, .flat (.int .i64 x8))], []⟩ | .inr z => .ret (.flat (.bool z))
noncomputable def quant_right.l2.finK {ρ : Type} (y : (Int × Int) ⊕ Bool) (K : Out U → Option ρ) : Option ρ := match y with | .inl (x7, x8) => K (.exit 0 ⟨[(0, .flat (.int .i64 x7)), (1, .flat (.int .i64 x8))], []⟩) | .inr z => K (.ret (.flat (.bool z)))
theorem quant_right.l2.finK_eq {ρ : Type} (y : (Int × Int) ⊕ Bool) (K : Out U → Option ρ) : quant_right.l2.finK y K = K (quant_right.l2.fin y) := by
  unfold quant_right.l2.finK quant_right.l2.fin
  first | rfl | (split <;> rfl)
noncomputable def quant_right.l2.re : Out U → Option ((Int × Int) ⊕ Bool) | .exit 0 s => (match s.get 0, s.get 1 with | .flat (.int .i64 x7), .flat (.int .i64 x8) => some (.inl (x7, x8)) | _, _ => none) | .ret v => (match v with | .flat (.bool x1) => some (.inr x1) | _ => none) | _ => none
noncomputable def quant_right.l2.L (k : Nat) : LDen U := { X := (Int × Int × List Sapi_Dec × Int × Int), Y := (Int × Int) ⊕ Bool, un := quant_right.l2.un, f := iter (quant_right.l2.once k) k, fin := quant_right.l2.fin, finK := quant_right.l2.finK, finK_eq := quant_right.l2.finK_eq }
noncomputable def quant_right.jl : List (Nat × JDen U) := []
noncomputable def quant_right.fl (k : Nat) : List (Nat × FDen U) := [(99, dec_Right.D k)]
noncomputable def quant_right.ll (k : Nat) : List (Nat × LDen U) := [(2, quant_right.l2.L k)]
noncomputable def quant_right.E (k : Nat) : Env U := { P := Try.prog, D := DD, fd := lk (quant_right.fl k), ld := lk (quant_right.ll k), jd := lk quant_right.jl, mode := lk [], elc := lk ec, dyn := fun t => false, vecs := fun d => false, results := Try.f110.results.toList }
theorem quant_right.ok (k : Nat) : EnvOk (quant_right.E k) := envOk lawful (quant_right.fl k) (quant_right.ll k) quant_right.jl _ _ _ _ _ (by
  intro p hp
  simp only [quant_right.fl, List.mem_cons, List.not_mem_nil, or_false] at hp
  rcases hp with rfl
  · exact ⟨dec_Right.sound k, enter_of Try.func99 (by kernel_rfl) (by kernel_rfl)⟩) (by
  intro p hp
  simp [quant_right.jl] at hp)
theorem quant_right.l2.eq (k : Nat) (x : (Int × Int × List Sapi_Dec × Int × Int)) : evC (quant_right.E k) (loopAt Try.f110 2) (quant_right.l2.mk x) (headK quant_right.l2.un quant_right.l2.re) = quant_right.l2.once k x := by kernel_rfl
theorem quant_right.l2.fit (s : St U) (x : (Int × Int × List Sapi_Dec × Int × Int)) (h : quant_right.l2.un s = some x) : Fits s (quant_right.l2.mk x) := by
  unfold quant_right.l2.un at h
  obtain ⟨q0, eq0, h1⟩ := Option.bind_eq_some_iff.1 h
  split at h1
  · cases h1
    refine fits_ren [] ?_ ?_ ren_nil rfl
    · exact List.forall_mem_cons.2 ⟨FV.same (by assumption) (fun _ _ _ hh => by cases hh) (fun _ hh => by cases hh), List.forall_mem_cons.2 ⟨FV.same (by assumption) (fun _ _ _ hh => by cases hh) (fun _ hh => by cases hh), List.forall_mem_cons.2 ⟨row_Sapi_Dec_fit eq0, List.forall_mem_cons.2 ⟨FV.same (by assumption) (fun _ _ _ hh => by cases hh) (fun _ hh => by cases hh), List.forall_mem_cons.2 ⟨FV.same (by assumption) (fun _ _ _ hh => by cases hh) (fun _ hh => by cases hh), fun _ hp => (List.not_mem_nil hp).elim⟩⟩⟩⟩⟩
    · exact fun _ hp => (List.not_mem_nil hp).elim
  · cases h1
theorem quant_right.l2.fitO (o : Out U) (y : (Int × Int) ⊕ Bool) (h : quant_right.l2.re o = some y) : FitsO o (quant_right.l2.fin y) := by
  unfold quant_right.l2.re at h
  split at h
  · split at h
    · cases h
      refine fitsO_exit (fits_ren [] ?_ ?_ ren_nil rfl)
      · exact List.forall_mem_cons.2 ⟨FV.same (by assumption) (fun _ _ _ hh => by cases hh) (fun _ hh => by cases hh), List.forall_mem_cons.2 ⟨FV.same (by assumption) (fun _ _ _ hh => by cases hh) (fun _ hh => by cases hh), fun _ hp => (List.not_mem_nil hp).elim⟩⟩
      · exact fun _ hp => (List.not_mem_nil hp).elim
    · cases h
  · split at h
    · cases h; exact fitsO_ret
    · cases h
  · cases h
theorem quant_right.l2.sound (k : Nat) : LSound (quant_right.E k) Try.f110.ntmps Try.f110 (loopAt Try.f110 2) (quant_right.l2.L k) :=
  loop_sound (quant_right.ok k) mixed rfl (by kernel_rfl) (allL_of (l := []) (by kernel_rfl) allL_nil) quant_right.l2.un quant_right.l2.mk quant_right.l2.fin quant_right.l2.re (quant_right.l2.once k) k quant_right.l2.fit quant_right.l2.fitO (quant_right.l2.eq k) quant_right.l2.finK quant_right.l2.finK_eq
theorem quant_right.eq (k : Nat) (x : (Int × Int × List Sapi_Dec)) : runF (quant_right.E k) (codeOf Try.f110) (quant_right.mk x) quant_right.re = (quant_right.D k).f x := by kernel_rfl
theorem quant_right.sound (k : Nat) : Sound Try.prog DD 110 (quant_right.D k) :=
  fun_sound (E := quant_right.E k) (fn := Try.f110) (c := codeOf Try.f110) (quant_right.ok k) mixed rfl Try.func110 (by kernel_rfl) (by kernel_rfl) (allL_of (l := [loopAt Try.f110 2]) (by kernel_rfl) (allL_cons (key := 2) (by kernel_rfl) rfl (quant_right.l2.sound k) allL_nil)) (quant_right.D k) quant_right.mk quant_right.re
    (by intro args x h; replace h : quant_right.un args = some x := h; unfold quant_right.un at h; split at h; · cases h; rfl
        · cases h)
    (by intro v y h; unfold quant_right.re at h; split at h; · cases h; rfl
        · cases h)
    (fun _ => rfl) (fun x => Nat.le_of_ble_eq_true (by kernel_rfl)) (quant_right.eq k)
/-! ### pyx/quant.ten: function 112 -/
noncomputable def quant_ten.f (k : Nat) (a0 : Int) : Option (Int × Int) := (limb_Ten.f k a0).bind fun t1 => (some (t1.1.1, t1.1.2))
noncomputable def quant_ten.un : List (AV U) → Option Int | [.flat (.int .i64 x1)] => some x1 | _ => none
noncomputable def quant_ten.mk (x : Int) : List (AV U) := [.flat (.int .i64 x)]
noncomputable def quant_ten.D (k : Nat) : FDen U := { X := Int, Y := (Int × Int), un := quant_ten.un, f := fun x => quant_ten.f k (x), fin := fun y => .agg [.flat (.int .u64 y.1), .flat (.int .u64 y.2)] }
noncomputable def quant_ten.re : AV U → Option (Int × Int) | .agg [.flat (.int .u64 x1), .flat (.int .u64 x2)] => some (x1, x2) | _ => none
noncomputable def quant_ten.jl : List (Nat × JDen U) := []
noncomputable def quant_ten.fl (k : Nat) : List (Nat × FDen U) := [(28, limb_Ten.D k)]
noncomputable def quant_ten.ll (k : Nat) : List (Nat × LDen U) := []
noncomputable def quant_ten.E (k : Nat) : Env U := { P := Try.prog, D := DD, fd := lk (quant_ten.fl k), ld := lk (quant_ten.ll k), jd := lk quant_ten.jl, mode := lk [], elc := lk ec, dyn := fun t => false, vecs := fun d => false, results := Try.f112.results.toList }
theorem quant_ten.ok (k : Nat) : EnvOk (quant_ten.E k) := envOk lawful (quant_ten.fl k) (quant_ten.ll k) quant_ten.jl _ _ _ _ _ (by
  intro p hp
  simp only [quant_ten.fl, List.mem_cons, List.not_mem_nil, or_false] at hp
  rcases hp with rfl
  · exact ⟨limb_Ten.sound k, enter_of Try.func28 (by kernel_rfl) (by kernel_rfl)⟩) (by
  intro p hp
  simp [quant_ten.jl] at hp)
theorem quant_ten.eq (k : Nat) (x : Int) : runF (quant_ten.E k) (codeOf Try.f112) (quant_ten.mk x) quant_ten.re = (quant_ten.D k).f x := by kernel_rfl
theorem quant_ten.sound (k : Nat) : Sound Try.prog DD 112 (quant_ten.D k) :=
  fun_sound (E := quant_ten.E k) (fn := Try.f112) (c := codeOf Try.f112) (quant_ten.ok k) mixed rfl Try.func112 (by kernel_rfl) (by kernel_rfl) (allL_of (l := []) (by kernel_rfl) allL_nil) (quant_ten.D k) quant_ten.mk quant_ten.re
    (by intro args x h; replace h : quant_ten.un args = some x := h; unfold quant_ten.un at h; split at h; · cases h; rfl
        · cases h)
    (by intro v y h; unfold quant_ten.re at h; split at h; · cases h; rfl
        · cases h)
    (fun _ => rfl) (fun x => Nat.le_of_ble_eq_true (by kernel_rfl)) (quant_ten.eq k)
end
end Go.Proofs.Ythknecaigoilmaa
