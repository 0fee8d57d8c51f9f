import Derived.Test.YtlaogfkgkpgofaaF4
/-! Functions, told; their equations with the evaluator; that they are sound. Written by gen.py. -/
namespace Go.Proofs.Ytlaogfkgkpgofaa
open Go Go.Ev
noncomputable section
set_option linter.unusedVariables false
set_option linter.unusedSimpArgs false
set_option maxRecDepth 100000
/-! ### (*pyx/pyxref21.Gate).Release: function 24 -/
noncomputable def pyxref21_Gate_Release.l4.once (k : Nat) (x : (Int × Int × List Spyxref21_Let × Sapi_Rule × Int × Int × Int × Int × Bool × Int × Int × Int × Bool × Int × Int × Int)) : Option ((Int × Int × List Spyxref21_Let × Sapi_Rule × Int × Int × Int × Int × Bool × Int × Int × Int × Bool × Int × Int × Int) ⊕ ((Int × List Spyxref21_Let × Sapi_Rule × Int × Int × Int × Int × Bool × Int × Int × Int × Bool × Int × Int × Int) ⊕ (Sapi_Dec × Bool × Int × Spyxref21_Gate))) := match x with | (x19, x33, x18, x20, x21, x22, x23, x24, x25, x26, x27, x28, x29, x30, x31, x32) => cond (decide (x33 < (List.length x18 : Int))) (cond (inb x33 (List.length x18)) (cond (((((List.getD x18 (Int.toNat x33) Spyxref21_Let.zero).f_K).f_Group) == x21) && (((((List.getD x18 (Int.toNat x33) Spyxref21_Let.zero).f_K).f_Line) == x22) && (((((List.getD x18 (Int.toNat x33) Spyxref21_Let.zero).f_K).f_Period) == x23) && ((((List.getD x18 (Int.toNat x33) Spyxref21_Let.zero).f_K).f_Version) == x24)))) (cond (inb x33 (List.length x18)) (some (.inr (.inr ((⟨((List.getD x18 (Int.toNat x33) Spyxref21_Let.zero).f_Value).f_Neg, ((((List.getD x18 (Int.toNat x33) Spyxref21_Let.zero).f_Value).f_C).1, (((List.getD x18 (Int.toNat x33) Spyxref21_Let.zero).f_Value).f_C).2), ((List.getD x18 (Int.toNat x33) Spyxref21_Let.zero).f_Value).f_Scale⟩ : Sapi_Dec), false, 0, (⟨x18⟩ : Spyxref21_Gate))))) none) (some (.inl (x19, IntKind.wrap .i64 (x33 + 1), x18, (⟨x20.f_Tag, x20.f_Role, x20.f_Verb, x20.f_Ent, x20.f_Group, x20.f_Line, (⟨x20.f_Unit.f_Neg, (x20.f_Unit.f_C.1, x20.f_Unit.f_C.2), x20.f_Unit.f_Scale⟩ : Sapi_Dec), (⟨x20.f_To.f_Set, x20.f_To.f_Level⟩ : Sapi_Label)⟩ : Sapi_Rule), x21, x22, x23, x24, x25, x26, x27, x28, x29, x30, x31, x32)))) none) (some (.inr (.inl (x19, x18, (⟨x20.f_Tag, x20.f_Role, x20.f_Verb, x20.f_Ent, x20.f_Group, x20.f_Line, (⟨x20.f_Unit.f_Neg, (x20.f_Unit.f_C.1, x20.f_Unit.f_C.2), x20.f_Unit.f_Scale⟩ : Sapi_Dec), (⟨x20.f_To.f_Set, x20.f_To.f_Level⟩ : Sapi_Label)⟩ : Sapi_Rule), x21, x22, x23, x24, x25, x26, x27, x28, x29, x30, x31, x32))))
noncomputable def pyxref21_Gate_Release.f (k : Nat) (a0 : Spyxref21_Gate) (a1 : Sapi_Rule) (a2 : Int) (a3 : Spyxref21_Key) (a4 : Sapi_Dec) : Option (Sapi_Dec × Bool × Int × Spyxref21_Gate) := ((cond (a1.f_Tag != 3) (some (a2, true, a0.f_L, (⟨a1.f_Tag, a1.f_Role, a1.f_Verb, a1.f_Ent, a1.f_Group, a1.f_Line, (⟨a1.f_Unit.f_Neg, (a1.f_Unit.f_C.1, a1.f_Unit.f_C.2), a1.f_Unit.f_Scale⟩ : Sapi_Dec), (⟨a1.f_To.f_Set, a1.f_To.f_Level⟩ : Sapi_Label)⟩ : Sapi_Rule), a3.f_Group, a3.f_Line, a3.f_Period, a3.f_Version, a4.f_Neg, a4.f_C.1, a4.f_C.2, a4.f_Scale, false, 0, 0, 0)) (cond (a1.f_Group != a3.f_Group) (some (a2, true, a0.f_L, (⟨a1.f_Tag, a1.f_Role, a1.f_Verb, a1.f_Ent, a1.f_Group, a1.f_Line, (⟨a1.f_Unit.f_Neg, (a1.f_Unit.f_C.1, a1.f_Unit.f_C.2), a1.f_Unit.f_Scale⟩ : Sapi_Dec), (⟨a1.f_To.f_Set, a1.f_To.f_Level⟩ : Sapi_Label)⟩ : Sapi_Rule), a3.f_Group, a3.f_Line, a3.f_Period, a3.f_Version, a4.f_Neg, a4.f_C.1, a4.f_C.2, a4.f_Scale, false, 0, 0, 0)) (some (a2, a1.f_Line != a3.f_Line, a0.f_L, (⟨a1.f_Tag, a1.f_Role, a1.f_Verb, a1.f_Ent, a1.f_Group, a1.f_Line, (⟨a1.f_Unit.f_Neg, (a1.f_Unit.f_C.1, a1.f_Unit.f_C.2), a1.f_Unit.f_Scale⟩ : Sapi_Dec), (⟨a1.f_To.f_Set, a1.f_To.f_Level⟩ : Sapi_Label)⟩ : Sapi_Rule), a3.f_Group, a3.f_Line, a3.f_Period, a3.f_Version, a4.f_Neg, a4.f_C.1, a4.f_C.2, a4.f_Scale, false, 0, 0, 0)))) : Option (Int × Bool × List Spyxref21_Let × Sapi_Rule × Int × Int × Int × Int × Bool × Int × Int × Int × Bool × Int × Int × Int)).bind fun y17 => (cond (y17.2.1) (some ((⟨false, (0, 0), 0⟩ : Sapi_Dec), false, 1, (⟨y17.2.2.1⟩ : Spyxref21_Gate))) ((iter (pyxref21_Gate_Release.l4.once k) k (y17.1, 0, y17.2.2.1, (⟨y17.2.2.2.1.f_Tag, y17.2.2.2.1.f_Role, y17.2.2.2.1.f_Verb, y17.2.2.2.1.f_Ent, y17.2.2.2.1.f_Group, y17.2.2.2.1.f_Line, (⟨y17.2.2.2.1.f_Unit.f_Neg, (y17.2.2.2.1.f_Unit.f_C.1, y17.2.2.2.1.f_Unit.f_C.2), y17.2.2.2.1.f_Unit.f_Scale⟩ : Sapi_Dec), (⟨y17.2.2.2.1.f_To.f_Set, y17.2.2.2.1.f_To.f_Level⟩ : Sapi_Label)⟩ : Sapi_Rule), y17.2.2.2.2.1, y17.2.2.2.2.2.1, y17.2.2.2.2.2.2.1, y17.2.2.2.2.2.2.2.1, y17.2.2.2.2.2.2.2.2.1, y17.2.2.2.2.2.2.2.2.2.1, y17.2.2.2.2.2.2.2.2.2.2.1, y17.2.2.2.2.2.2.2.2.2.2.2.1, y17.2.2.2.2.2.2.2.2.2.2.2.2.1, y17.2.2.2.2.2.2.2.2.2.2.2.2.2.1, y17.2.2.2.2.2.2.2.2.2.2.2.2.2.2.1, y17.2.2.2.2.2.2.2.2.2.2.2.2.2.2.2)).bind fun | .inl y50 => ((pyxref1_Unit.f k (⟨y50.2.2.2.2.2.2.2.1, (y50.2.2.2.2.2.2.2.2.1, y50.2.2.2.2.2.2.2.2.2.1), y50.2.2.2.2.2.2.2.2.2.2.1⟩ : Sapi_Dec) (⟨y50.2.2.1.f_Unit.f_Neg, (y50.2.2.1.f_Unit.f_C.1, y50.2.2.1.f_Unit.f_C.2), y50.2.2.1.f_Unit.f_Scale⟩ : Sapi_Dec) 4).bind fun t51 => (cond (t51.2 != 0) (some ((⟨false, (0, 0), 0⟩ : Sapi_Dec), false, t51.2, (⟨y50.2.1⟩ : Spyxref21_Gate))) (cond (okLen (List.length y50.2.1 + List.length [(⟨(⟨y50.2.2.2.1, y50.2.2.2.2.1, y50.2.2.2.2.2.1, y50.2.2.2.2.2.2.1⟩ : Spyxref21_Key), y50.1, (⟨t51.1.f_Neg, (t51.1.f_C.1, t51.1.f_C.2), t51.1.f_Scale⟩ : Sapi_Dec), (⟨y50.2.2.1.f_To.f_Set, y50.2.2.1.f_To.f_Level⟩ : Sapi_Label)⟩ : Spyxref21_Let)]) 88) (some ((⟨t51.1.f_Neg, (t51.1.f_C.1, t51.1.f_C.2), t51.1.f_Scale⟩ : Sapi_Dec), true, 0, (⟨y50.2.1 ++ [(⟨(⟨y50.2.2.2.1, y50.2.2.2.2.1, y50.2.2.2.2.2.1, y50.2.2.2.2.2.2.1⟩ : Spyxref21_Key), y50.1, (⟨t51.1.f_Neg, (t51.1.f_C.1, t51.1.f_C.2), t51.1.f_Scale⟩ : Sapi_Dec), (⟨y50.2.2.1.f_To.f_Set, y50.2.2.1.f_To.f_Level⟩ : Sapi_Label)⟩ : Spyxref21_Let)]⟩ : Spyxref21_Gate))) none))) | .inr y52 => (some ((⟨y52.1.f_Neg, (y52.1.f_C.1, y52.1.f_C.2), y52.1.f_Scale⟩ : Sapi_Dec), y52.2.1, y52.2.2.1, (⟨y52.2.2.2.f_L⟩ : Spyxref21_Gate)))))
noncomputable def pyxref21_Gate_Release.un (s : St U) : Option (Spyxref21_Gate × Sapi_Rule × Int × Spyxref21_Key × Sapi_Dec) := match s.get 0, lk s.o 7000000000000, s.get 1, s.get 2, s.get 3, s.get 4, s.get 1000000000000000 with | .ptr 7000000000000 0, some (.lit [x2]), .agg x3, .flat (.int .i64 x5), .agg [.flat (.int .i64 x6), .flat (.int .i64 x7), .flat (.int .i64 x8), .flat (.int .i64 x9)], .agg [.flat (.bool x10), .flat (.int .u64 x11), .flat (.int .u64 x12), .flat (.int .i64 x13)], .ptr 7000000000000 0 => (tip_Spyxref21_Let s.o 11 x2).bind fun ex1 => ((cd_Sapi_Rule.full x3).bind fun x4 => (some ((⟨ex1.2⟩ : Spyxref21_Gate), x4, x5, (⟨x6, x7, x8, x9⟩ : Spyxref21_Key), (⟨x10, (x11, x12), x13⟩ : Sapi_Dec)))) | _, _, _, _, _, _, _ => none
noncomputable def pyxref21_Gate_Release.mk (x : (Spyxref21_Gate × Sapi_Rule × Int × Spyxref21_Key × Sapi_Dec)) : St U := ⟨[(0, .ptr 7000000000000 0), (1, .agg (cd_Sapi_Rule.enc x.2.1)), (2, .flat (.int .i64 x.2.2.1)), (3, .agg [.flat (.int .i64 x.2.2.2.1.f_Group), .flat (.int .i64 x.2.2.2.1.f_Line), .flat (.int .i64 x.2.2.2.1.f_Period), .flat (.int .i64 x.2.2.2.1.f_Version)]), (4, .agg [.flat (.bool x.2.2.2.2.f_Neg), .flat (.int .u64 x.2.2.2.2.f_C.1), .flat (.int .u64 x.2.2.2.2.f_C.2), .flat (.int .i64 x.2.2.2.2.f_Scale)]), (1000000000000000, .ptr 7000000000000 0)], [(7000000000000, .lit [.tip 7000000000001 C.Spyxref21_Let x.1.f_L]), (7000000000001, .tip 11)]⟩
noncomputable def pyxref21_Gate_Release.fin (y : (Sapi_Dec × Bool × Int × Spyxref21_Gate)) : St U := ⟨[(0, .tup [.agg [.flat (.bool y.1.f_Neg), .flat (.int .u64 y.1.f_C.1), .flat (.int .u64 y.1.f_C.2), .flat (.int .i64 y.1.f_Scale)], .flat (.bool y.2.1), .flat (.int .i64 y.2.2.1)]), (1000000000000000, .ptr 7000000000000 0)], [(7000000000000, .lit [.tip 7000000000001 C.Spyxref21_Let y.2.2.2.f_L]), (7000000000001, .tip 11)]⟩
noncomputable def pyxref21_Gate_Release.D (k : Nat) : FDen U := { X := (Spyxref21_Gate × Sapi_Rule × Int × Spyxref21_Key × Sapi_Dec), Y := (Sapi_Dec × Bool × Int × Spyxref21_Gate), nt := 88, gh := [0], un := pyxref21_Gate_Release.un, f := fun x => pyxref21_Gate_Release.f k (x.1) (x.2.1) (x.2.2.1) (x.2.2.2.1) (x.2.2.2.2), fin := pyxref21_Gate_Release.fin, cl := false, clo := fun h => by cases h }
noncomputable def pyxref21_Gate_Release.re (s : St U) : Option (Sapi_Dec × Bool × Int × Spyxref21_Gate) := match s.get 0, s.get 1000000000000000, lk s.o 7000000000000 with | .tup [.agg [.flat (.bool x1), .flat (.int .u64 x2), .flat (.int .u64 x3), .flat (.int .i64 x4)], .flat (.bool x5), .flat (.int .i64 x6)], .ptr 7000000000000 0, some (.lit [x8]) => (tip_Spyxref21_Let s.o 11 x8).bind fun ex7 => (some ((⟨x1, (x2, x3), x4⟩ : Sapi_Dec), x5, x6, (⟨ex7.2⟩ : Spyxref21_Gate))) | _, _, _ => none
noncomputable def pyxref21_Gate_Release.l4.mk (x : (Int × Int × List Spyxref21_Let × Sapi_Rule × Int × Int × Int × Int × Bool × Int × Int × Int × Bool × Int × Int × Int)) : St U := match x with | (x19, x33, x18, x20, x21, x22, x23, x24, x25, x26, x27, x28, x29, x30, x31, x32) => ⟨[(0, .ptr 7000000000000 0), (6, .ptr 6 0), (8, .ptr 8 0), (9, .ptr 9 0), (10, .ptr 10 0), (1000000000000000, .ptr 7000000000000 0), (2, .flat (.int .i64 x19)), (13, .flat (.int .i64 x33))], [(7000000000000, .lit [.tip 700002000400000 C.Spyxref21_Let x18]), (700002000400000, .tip 11), (6, .lit (cd_Sapi_Rule.enc x20)), (8, .lit [.flat (.int .i64 x21), .flat (.int .i64 x22), .flat (.int .i64 x23), .flat (.int .i64 x24)]), (9, .lit [.flat (.bool x25), .flat (.int .u64 x26), .flat (.int .u64 x27), .flat (.int .i64 x28)]), (10, .lit [.flat (.bool x29), .flat (.int .u64 x30), .flat (.int .u64 x31), .flat (.int .i64 x32)])]⟩
noncomputable def pyxref21_Gate_Release.l4.un (s : St U) : Option (Int × Int × List Spyxref21_Let × Sapi_Rule × Int × Int × Int × Int × Bool × Int × Int × Int × Bool × Int × Int × Int) := (Cd.ofLit cd_Sapi_Rule s.o 6).bind fun q0 => (match s.get 0, s.get 6, s.get 8, s.get 9, s.get 10, s.get 1000000000000000, s.get 2, s.get 13, lk s.o 7000000000000, lk s.o 8, lk s.o 9, lk s.o 10 with | .ptr 7000000000000 0, .ptr 6 0, .ptr 8 0, .ptr 9 0, .ptr 10 0, .ptr 7000000000000 0, .flat (.int .i64 x19), .flat (.int .i64 x33), some (.lit [u7000000000000_0]), some (.lit [.flat (.int .i64 x21), .flat (.int .i64 x22), .flat (.int .i64 x23), .flat (.int .i64 x24)]), some (.lit [.flat (.bool x25), .flat (.int .u64 x26), .flat (.int .u64 x27), .flat (.int .i64 x28)]), some (.lit [.flat (.bool x29), .flat (.int .u64 x30), .flat (.int .u64 x31), .flat (.int .i64 x32)]) => (tip_Spyxref21_Let s.o 11 u7000000000000_0).bind fun w7000000000000_0 => (some (x19, x33, w7000000000000_0.2, q0, x21, x22, x23, x24, x25, x26, x27, x28, x29, x30, x31, x32)) | _, _, _, _, _, _, _, _, _, _, _, _ => none)
noncomputable def pyxref21_Gate_Release.l4.fin (y : (Int × List Spyxref21_Let × Sapi_Rule × Int × Int × Int × Int × Bool × Int × Int × Int × Bool × Int × Int × Int) ⊕ (Sapi_Dec × Bool × Int × Spyxref21_Gate)) : Out U := match y with | .inl (x35, x34, x36, x37, x38, x39, x40, x41, x42, x43, x44, x45, x46, x47, x48) => .exit 0 ⟨[(0, .ptr 7000000000000 0), (6, .ptr 6 0), (8, .ptr 8 0), (9, .ptr 9 0), (10, .ptr 10 0), (1000000000000000, .ptr 7000000000000 0), (2, .flat (.int .i64 x35))], [(7000000000000, .lit [.tip 700002000400000 C.Spyxref21_Let x34]), (700002000400000, .tip 11), (6, .lit (cd_Sapi_Rule.enc x36)), (8, .lit [.flat (.int .i64 x37), .flat (.int .i64 x38), .flat (.int .i64 x39), .flat (.int .i64 x40)]), (9, .lit [.flat (.bool x41), .flat (.int .u64 x42), .flat (.int .u64 x43), .flat (.int .i64 x44)]), (10, .lit [.flat (.bool x45), .flat (.int .u64 x46), .flat (.int .u64 x47), .flat (.int .i64 x48)])]⟩ | .inr z => .ret (⟨[(0, .tup [.agg [.flat (.bool z.1.f_Neg), .flat (.int .u64 z.1.f_C.1), .flat (.int .u64 z.1.f_C.2), .flat (.int .i64 z.1.f_Scale)], .flat (.bool z.2.1), .flat (.int .i64 z.2.2.1)]), (1000000000000000, .ptr 7000000000000 0)], [(7000000000000, .lit [.tip 7000000000001 C.Spyxref21_Let z.2.2.2.f_L]), (7000000000001, .tip 11)]⟩)
noncomputable def pyxref21_Gate_Release.l4.finK {ρ : Type} (y : (Int × List Spyxref21_Let × Sapi_Rule × Int × Int × Int × Int × Bool × Int × Int × Int × Bool × Int × Int × Int) ⊕ (Sapi_Dec × Bool × Int × Spyxref21_Gate)) (K : Out U → Option ρ) : Option ρ := match y with | .inl (x35, x34, x36, x37, x38, x39, x40, x41, x42, x43, x44, x45, x46, x47, x48) => K (.exit 0 ⟨[(0, .ptr 7000000000000 0), (6, .ptr 6 0), (8, .ptr 8 0), (9, .ptr 9 0), (10, .ptr 10 0), (1000000000000000, .ptr 7000000000000 0), (2, .flat (.int .i64 x35))], [(7000000000000, .lit [.tip 700002000400000 C.Spyxref21_Let x34]), (700002000400000, .tip 11), (6, .lit (cd_Sapi_Rule.enc x36)), (8, .lit [.flat (.int .i64 x37), .flat (.int .i64 x38), .flat (.int .i64 x39), .flat (.int .i64 x40)]), (9, .lit [.flat (.bool x41), .flat (.int .u64 x42), .flat (.int .u64 x43), .flat (.int .i64 x44)]), (10, .lit [.flat (.bool x45), .flat (.int .u64 x46), .flat (.int .u64 x47), .flat (.int .i64 x48)])]⟩) | .inr z => K (.ret (⟨[(0, .tup [.agg [.flat (.bool z.1.f_Neg), .flat (.int .u64 z.1.f_C.1), .flat (.int .u64 z.1.f_C.2), .flat (.int .i64 z.1.f_Scale)], .flat (.bool z.2.1), .flat (.int .i64 z.2.2.1)]), (1000000000000000, .ptr 7000000000000 0)], [(7000000000000, .lit [.tip 7000000000001 C.Spyxref21_Let z.2.2.2.f_L]), (7000000000001, .tip 11)]⟩))
theorem pyxref21_Gate_Release.l4.finK_eq {ρ : Type} (y : (Int × List Spyxref21_Let × Sapi_Rule × Int × Int × Int × Int × Bool × Int × Int × Int × Bool × Int × Int × Int) ⊕ (Sapi_Dec × Bool × Int × Spyxref21_Gate)) (K : Out U → Option ρ) : pyxref21_Gate_Release.l4.finK y K = K (pyxref21_Gate_Release.l4.fin y) := by
  unfold pyxref21_Gate_Release.l4.finK pyxref21_Gate_Release.l4.fin
  first | rfl | (split <;> rfl)
noncomputable def pyxref21_Gate_Release.l4.re : Out U → Option ((Int × List Spyxref21_Let × Sapi_Rule × Int × Int × Int × Int × Bool × Int × Int × Int × Bool × Int × Int × Int) ⊕ (Sapi_Dec × Bool × Int × Spyxref21_Gate)) | .exit 0 s => ((Cd.ofLit cd_Sapi_Rule s.o 6).bind fun q0 => (match s.get 0, s.get 6, s.get 8, s.get 9, s.get 10, s.get 1000000000000000, s.get 2, lk s.o 7000000000000, lk s.o 8, lk s.o 9, lk s.o 10 with | .ptr 7000000000000 0, .ptr 6 0, .ptr 8 0, .ptr 9 0, .ptr 10 0, .ptr 7000000000000 0, .flat (.int .i64 x35), some (.lit [u7000000000000_0]), some (.lit [.flat (.int .i64 x37), .flat (.int .i64 x38), .flat (.int .i64 x39), .flat (.int .i64 x40)]), some (.lit [.flat (.bool x41), .flat (.int .u64 x42), .flat (.int .u64 x43), .flat (.int .i64 x44)]), some (.lit [.flat (.bool x45), .flat (.int .u64 x46), .flat (.int .u64 x47), .flat (.int .i64 x48)]) => (tip_Spyxref21_Let s.o 11 u7000000000000_0).bind fun w7000000000000_0 => (some (.inl (x35, w7000000000000_0.2, q0, x37, x38, x39, x40, x41, x42, x43, x44, x45, x46, x47, x48))) | _, _, _, _, _, _, _, _, _, _, _ => none)) | .ret s => (match s.get 0, s.get 1000000000000000, lk s.o 7000000000000 with | .tup [.agg [.flat (.bool x1), .flat (.int .u64 x2), .flat (.int .u64 x3), .flat (.int .i64 x4)], .flat (.bool x5), .flat (.int .i64 x6)], .ptr 7000000000000 0, some (.lit [x8]) => (tip_Spyxref21_Let s.o 11 x8).bind fun ex7 => (some (.inr ((⟨x1, (x2, x3), x4⟩ : Sapi_Dec), x5, x6, (⟨ex7.2⟩ : Spyxref21_Gate)))) | _, _, _ => none) | _ => none
noncomputable def pyxref21_Gate_Release.l4.L (k : Nat) : LDen U := { X := (Int × Int × List Spyxref21_Let × Sapi_Rule × Int × Int × Int × Int × Bool × Int × Int × Int × Bool × Int × Int × Int), Y := (Int × List Spyxref21_Let × Sapi_Rule × Int × Int × Int × Int × Bool × Int × Int × Int × Bool × Int × Int × Int) ⊕ (Sapi_Dec × Bool × Int × Spyxref21_Gate), un := pyxref21_Gate_Release.l4.un, f := iter (pyxref21_Gate_Release.l4.once k) k, fin := pyxref21_Gate_Release.l4.fin, finK := pyxref21_Gate_Release.l4.finK, finK_eq := pyxref21_Gate_Release.l4.finK_eq }
noncomputable def pyxref21_Gate_Release.j1000.fin (y : (Int × Bool × List Spyxref21_Let × Sapi_Rule × Int × Int × Int × Int × Bool × Int × Int × Int × Bool × Int × Int × Int)) : Out U := match y with | (x2, x16, x1, x3, x4, x5, x6, x7, x8, x9, x10, x11, x12, x13, x14, x15) => .norm ⟨[(0, .ptr 7000000000000 0), (6, .ptr 6 0), (8, .ptr 8 0), (9, .ptr 9 0), (10, .ptr 10 0), (1000000000000000, .ptr 7000000000000 0), (2, .flat (.int .i64 x2)), (32, .flat (.bool x16))], [(7000000000000, .lit [.tip 700102100000000 C.Spyxref21_Let x1]), (700102100000000, .tip 11), (6, .lit (cd_Sapi_Rule.enc x3)), (8, .lit [.flat (.int .i64 x4), .flat (.int .i64 x5), .flat (.int .i64 x6), .flat (.int .i64 x7)]), (9, .lit [.flat (.bool x8), .flat (.int .u64 x9), .flat (.int .u64 x10), .flat (.int .i64 x11)]), (10, .lit [.flat (.bool x12), .flat (.int .u64 x13), .flat (.int .u64 x14), .flat (.int .i64 x15)])]⟩
noncomputable def pyxref21_Gate_Release.j1000.finK {ρ : Type} (y : (Int × Bool × List Spyxref21_Let × Sapi_Rule × Int × Int × Int × Int × Bool × Int × Int × Int × Bool × Int × Int × Int)) (K : Out U → Option ρ) : Option ρ := match y with | (x2, x16, x1, x3, x4, x5, x6, x7, x8, x9, x10, x11, x12, x13, x14, x15) => K (.norm ⟨[(0, .ptr 7000000000000 0), (6, .ptr 6 0), (8, .ptr 8 0), (9, .ptr 9 0), (10, .ptr 10 0), (1000000000000000, .ptr 7000000000000 0), (2, .flat (.int .i64 x2)), (32, .flat (.bool x16))], [(7000000000000, .lit [.tip 700102100000000 C.Spyxref21_Let x1]), (700102100000000, .tip 11), (6, .lit (cd_Sapi_Rule.enc x3)), (8, .lit [.flat (.int .i64 x4), .flat (.int .i64 x5), .flat (.int .i64 x6), .flat (.int .i64 x7)]), (9, .lit [.flat (.bool x8), .flat (.int .u64 x9), .flat (.int .u64 x10), .flat (.int .i64 x11)]), (10, .lit [.flat (.bool x12), .flat (.int .u64 x13), .flat (.int .u64 x14), .flat (.int .i64 x15)])]⟩)
theorem pyxref21_Gate_Release.j1000.finK_eq {ρ : Type} (y : (Int × Bool × List Spyxref21_Let × Sapi_Rule × Int × Int × Int × Int × Bool × Int × Int × Int × Bool × Int × Int × Int)) (K : Out U → Option ρ) : pyxref21_Gate_Release.j1000.finK y K = K (pyxref21_Gate_Release.j1000.fin y) := by
  unfold pyxref21_Gate_Release.j1000.finK pyxref21_Gate_Release.j1000.fin
  first | rfl | (split <;> rfl)
noncomputable def pyxref21_Gate_Release.j1000.re : Out U → Option ((Int × Bool × List Spyxref21_Let × Sapi_Rule × Int × Int × Int × Int × Bool × Int × Int × Int × Bool × Int × Int × Int)) | .norm s => ((Cd.ofLit cd_Sapi_Rule s.o 6).bind fun q0 => (match s.get 0, s.get 6, s.get 8, s.get 9, s.get 10, s.get 1000000000000000, s.get 2, s.get 32, lk s.o 7000000000000, lk s.o 8, lk s.o 9, lk s.o 10 with | .ptr 7000000000000 0, .ptr 6 0, .ptr 8 0, .ptr 9 0, .ptr 10 0, .ptr 7000000000000 0, .flat (.int .i64 x2), .flat (.bool x16), some (.lit [u7000000000000_0]), some (.lit [.flat (.int .i64 x4), .flat (.int .i64 x5), .flat (.int .i64 x6), .flat (.int .i64 x7)]), some (.lit [.flat (.bool x8), .flat (.int .u64 x9), .flat (.int .u64 x10), .flat (.int .i64 x11)]), some (.lit [.flat (.bool x12), .flat (.int .u64 x13), .flat (.int .u64 x14), .flat (.int .i64 x15)]) => (tip_Spyxref21_Let s.o 11 u7000000000000_0).bind fun w7000000000000_0 => (some (x2, x16, w7000000000000_0.2, q0, x4, x5, x6, x7, x8, x9, x10, x11, x12, x13, x14, x15)) | _, _, _, _, _, _, _, _, _, _, _, _ => none)) | _ => none
noncomputable def pyxref21_Gate_Release.j1000.J : JDen U := { Y := (Int × Bool × List Spyxref21_Let × Sapi_Rule × Int × Int × Int × Int × Bool × Int × Int × Int × Bool × Int × Int × Int), re := pyxref21_Gate_Release.j1000.re, fin := pyxref21_Gate_Release.j1000.fin, finK := pyxref21_Gate_Release.j1000.finK, finK_eq := pyxref21_Gate_Release.j1000.finK_eq }
theorem pyxref21_Gate_Release.j1000.fit (o : Out U) (y : (Int × Bool × List Spyxref21_Let × Sapi_Rule × Int × Int × Int × Int × Bool × Int × Int × Int × Bool × Int × Int × Int)) (h : pyxref21_Gate_Release.j1000.re o = some y) : FitsO o (pyxref21_Gate_Release.j1000.fin y) := by
  unfold pyxref21_Gate_Release.j1000.re at h
  split at h
  · obtain ⟨q0, eq0, h1⟩ := Option.bind_eq_some_iff.1 h
    split at h1
    · obtain ⟨w7000000000000_0, ew7000000000000_0, h2⟩ := Option.bind_eq_some_iff.1 h1
      cases h2
      refine fitsO_norm (fits_ren [(700102100000000, w7000000000000_0.1)] ?_ ?_ ren_one rfl)
      · exact List.forall_mem_cons.2 ⟨FV.one (FV.ptr (by assumption)), List.forall_mem_cons.2 ⟨FV.one (FV.ptr (by assumption)), List.forall_mem_cons.2 ⟨FV.one (FV.ptr (by assumption)), List.forall_mem_cons.2 ⟨FV.one (FV.ptr (by assumption)), List.forall_mem_cons.2 ⟨FV.one (FV.ptr (by assumption)), List.forall_mem_cons.2 ⟨FV.one (FV.ptr (by assumption)), List.forall_mem_cons.2 ⟨FV.one (FV.same (by assumption) rfl), List.forall_mem_cons.2 ⟨FV.one (FV.same (by assumption) rfl), fun _ hp => (List.not_mem_nil hp).elim⟩⟩⟩⟩⟩⟩⟩⟩
      · exact List.forall_mem_cons.2 ⟨(FO.cells (show lk (St.o _) 7000000000000 = some _ from by assumption) (FCs.cons ((tip_Spyxref21_Let_fit ew7000000000000_0 rfl).1) (FCs.nil))), List.forall_mem_cons.2 ⟨(tip_Spyxref21_Let_fit ew7000000000000_0 rfl).2, List.forall_mem_cons.2 ⟨(FO.same (Cd.ofLit_ok eq0) rfl), List.forall_mem_cons.2 ⟨(FO.same (show lk (St.o _) 8 = some _ from by assumption) rfl), List.forall_mem_cons.2 ⟨(FO.same (show lk (St.o _) 9 = some _ from by assumption) rfl), List.forall_mem_cons.2 ⟨(FO.same (show lk (St.o _) 10 = some _ from by assumption) rfl), fun _ hp => (List.not_mem_nil hp).elim⟩⟩⟩⟩⟩⟩
    · cases h1
  · cases h
noncomputable def pyxref21_Gate_Release.jl : List (Nat × JDen U) := [(1000, pyxref21_Gate_Release.j1000.J)]
noncomputable def pyxref21_Gate_Release.fl (k : Nat) : List (Nat × FDen U) := [(64, pyxref1_Unit.D k)]
noncomputable def pyxref21_Gate_Release.ll (k : Nat) : List (Nat × LDen U) := [(4, pyxref21_Gate_Release.l4.L k)]
noncomputable def pyxref21_Gate_Release.E (k : Nat) : Env U := { P := Try.prog, D := DD, fd := lk (pyxref21_Gate_Release.fl k), ld := lk (pyxref21_Gate_Release.ll k), jd := lk pyxref21_Gate_Release.jl, mode := lk [], elc := lk ec, mpc := lk mc, rts := Try.f24.resultTypes.toList, dyn := fun t => false, vecs := fun d => false, results := Try.f24.results.toList, gh := [0], own := false, io := fun g i => false }
theorem pyxref21_Gate_Release.ok (k : Nat) : EnvOk (pyxref21_Gate_Release.E k) := envOk lawful (pyxref21_Gate_Release.fl k) (pyxref21_Gate_Release.ll k) pyxref21_Gate_Release.jl _ _ _ _ _ _ _ _ _ _ (by
  intro p hp
  simp only [pyxref21_Gate_Release.fl, List.mem_cons, List.not_mem_nil, or_false] at hp
  rcases hp with rfl
  · exact ⟨pyxref1_Unit.sound k, enter_of Try.func64 (by kernel_rfl) (by kernel_rfl)⟩) (by
  intro p hp
  simp only [pyxref21_Gate_Release.jl, List.mem_cons, List.not_mem_nil, or_false] at hp
  rcases hp with rfl
  · exact pyxref21_Gate_Release.j1000.fit)
theorem pyxref21_Gate_Release.l4.eq (k : Nat) (x : (Int × Int × List Spyxref21_Let × Sapi_Rule × Int × Int × Int × Int × Bool × Int × Int × Int × Bool × Int × Int × Int)) : evC (pyxref21_Gate_Release.E k) (loopAt Try.f24 4) (pyxref21_Gate_Release.l4.mk x) (headK pyxref21_Gate_Release.l4.un pyxref21_Gate_Release.l4.re) = pyxref21_Gate_Release.l4.once k x := by kernel_rfl
theorem pyxref21_Gate_Release.l4.fit (s : St U) (x : (Int × Int × List Spyxref21_Let × Sapi_Rule × Int × Int × Int × Int × Bool × Int × Int × Int × Bool × Int × Int × Int)) (h : pyxref21_Gate_Release.l4.un s = some x) : Fits s (pyxref21_Gate_Release.l4.mk x) := by
  unfold pyxref21_Gate_Release.l4.un at h
  obtain ⟨q0, eq0, h1⟩ := Option.bind_eq_some_iff.1 h
  split at h1
  · obtain ⟨w7000000000000_0, ew7000000000000_0, h2⟩ := Option.bind_eq_some_iff.1 h1
    cases h2
    refine fits_ren [(700002000400000, w7000000000000_0.1)] ?_ ?_ ren_one rfl
    · exact List.forall_mem_cons.2 ⟨FV.one (FV.ptr (by assumption)), List.forall_mem_cons.2 ⟨FV.one (FV.ptr (by assumption)), List.forall_mem_cons.2 ⟨FV.one (FV.ptr (by assumption)), List.forall_mem_cons.2 ⟨FV.one (FV.ptr (by assumption)), List.forall_mem_cons.2 ⟨FV.one (FV.ptr (by assumption)), List.forall_mem_cons.2 ⟨FV.one (FV.ptr (by assumption)), List.forall_mem_cons.2 ⟨FV.one (FV.same (by assumption) rfl), List.forall_mem_cons.2 ⟨FV.one (FV.same (by assumption) rfl), fun _ hp => (List.not_mem_nil hp).elim⟩⟩⟩⟩⟩⟩⟩⟩
    · exact List.forall_mem_cons.2 ⟨(FO.cells (show lk (St.o _) 7000000000000 = some _ from by assumption) (FCs.cons ((tip_Spyxref21_Let_fit ew7000000000000_0 rfl).1) (FCs.nil))), List.forall_mem_cons.2 ⟨(tip_Spyxref21_Let_fit ew7000000000000_0 rfl).2, List.forall_mem_cons.2 ⟨(FO.same (Cd.ofLit_ok eq0) rfl), List.forall_mem_cons.2 ⟨(FO.same (show lk (St.o _) 8 = some _ from by assumption) rfl), List.forall_mem_cons.2 ⟨(FO.same (show lk (St.o _) 9 = some _ from by assumption) rfl), List.forall_mem_cons.2 ⟨(FO.same (show lk (St.o _) 10 = some _ from by assumption) rfl), fun _ hp => (List.not_mem_nil hp).elim⟩⟩⟩⟩⟩⟩
  · cases h1
theorem pyxref21_Gate_Release.l4.fitO (o : Out U) (y : (Int × List Spyxref21_Let × Sapi_Rule × Int × Int × Int × Int × Bool × Int × Int × Int × Bool × Int × Int × Int) ⊕ (Sapi_Dec × Bool × Int × Spyxref21_Gate)) (h : pyxref21_Gate_Release.l4.re o = some y) : FitsO o (pyxref21_Gate_Release.l4.fin y) := by
  unfold pyxref21_Gate_Release.l4.re at h
  split at h
  · obtain ⟨q0, eq0, h1⟩ := Option.bind_eq_some_iff.1 h
    split at h1
    · obtain ⟨w7000000000000_0, ew7000000000000_0, h2⟩ := Option.bind_eq_some_iff.1 h1
      cases h2
      refine fitsO_exit (fits_ren [(700002000400000, w7000000000000_0.1)] ?_ ?_ ren_one rfl)
      · exact List.forall_mem_cons.2 ⟨FV.one (FV.ptr (by assumption)), List.forall_mem_cons.2 ⟨FV.one (FV.ptr (by assumption)), List.forall_mem_cons.2 ⟨FV.one (FV.ptr (by assumption)), List.forall_mem_cons.2 ⟨FV.one (FV.ptr (by assumption)), List.forall_mem_cons.2 ⟨FV.one (FV.ptr (by assumption)), List.forall_mem_cons.2 ⟨FV.one (FV.ptr (by assumption)), List.forall_mem_cons.2 ⟨FV.one (FV.same (by assumption) rfl), fun _ hp => (List.not_mem_nil hp).elim⟩⟩⟩⟩⟩⟩⟩
      · exact List.forall_mem_cons.2 ⟨(FO.cells (show lk (St.o _) 7000000000000 = some _ from by assumption) (FCs.cons ((tip_Spyxref21_Let_fit ew7000000000000_0 rfl).1) (FCs.nil))), List.forall_mem_cons.2 ⟨(tip_Spyxref21_Let_fit ew7000000000000_0 rfl).2, List.forall_mem_cons.2 ⟨(FO.same (Cd.ofLit_ok eq0) rfl), List.forall_mem_cons.2 ⟨(FO.same (show lk (St.o _) 8 = some _ from by assumption) rfl), List.forall_mem_cons.2 ⟨(FO.same (show lk (St.o _) 9 = some _ from by assumption) rfl), List.forall_mem_cons.2 ⟨(FO.same (show lk (St.o _) 10 = some _ from by assumption) rfl), fun _ hp => (List.not_mem_nil hp).elim⟩⟩⟩⟩⟩⟩
    · cases h1
  · split at h
    · obtain ⟨ex15, hex15, hh1⟩ := Option.bind_eq_some_iff.1 h
      cases hh1
      refine fitsO_ret (fits_ren [(7000000000001, ex15.1)] ?_ ?_ ren_one rfl)
      · exact List.forall_mem_cons.2 ⟨FV.tup (by assumption) (FTs.cons (FVA.one (FV.same rfl rfl)) (FTs.cons (FVA.one (FV.same rfl rfl)) (FTs.cons (FVA.one (FV.same rfl rfl)) (FTs.nil)))), List.forall_mem_cons.2 ⟨FV.one (FV.ptr (by assumption)), fun _ hp => (List.not_mem_nil hp).elim⟩⟩
      · exact List.forall_mem_cons.2 ⟨FO.cells (show lk (St.o _) 7000000000000 = some _ from by assumption) (FCs.cons ((tip_Spyxref21_Let_fit hex15 rfl).1) (FCs.nil)), List.forall_mem_cons.2 ⟨(tip_Spyxref21_Let_fit hex15 rfl).2, fun _ hp => (List.not_mem_nil hp).elim⟩⟩
    · cases h
  · cases h
theorem pyxref21_Gate_Release.l4.sound (k : Nat) : LSound (pyxref21_Gate_Release.E k) Try.f24.ntmps Try.f24 (loopAt Try.f24 4) (pyxref21_Gate_Release.l4.L k) :=
  loop_sound (pyxref21_Gate_Release.ok k) mixed rfl (by kernel_rfl) (allL_of (l := []) (by kernel_rfl) allL_nil) pyxref21_Gate_Release.l4.un pyxref21_Gate_Release.l4.mk pyxref21_Gate_Release.l4.fin pyxref21_Gate_Release.l4.re (pyxref21_Gate_Release.l4.once k) k pyxref21_Gate_Release.l4.fit pyxref21_Gate_Release.l4.fitO (pyxref21_Gate_Release.l4.eq k) pyxref21_Gate_Release.l4.finK pyxref21_Gate_Release.l4.finK_eq
theorem pyxref21_Gate_Release.eq (k : Nat) (x : (Spyxref21_Gate × Sapi_Rule × Int × Spyxref21_Key × Sapi_Dec)) : runF (pyxref21_Gate_Release.E k) (codeOf Try.f24) (pyxref21_Gate_Release.mk x) pyxref21_Gate_Release.re = (pyxref21_Gate_Release.D k).f x := by kernel_rfl
theorem pyxref21_Gate_Release.fit (s : St U) (x : (Spyxref21_Gate × Sapi_Rule × Int × Spyxref21_Key × Sapi_Dec)) (h : pyxref21_Gate_Release.un s = some x) : Fits s (pyxref21_Gate_Release.mk x) := by
  unfold pyxref21_Gate_Release.un at h
  split at h
  · obtain ⟨ex1, hex1, hh1⟩ := Option.bind_eq_some_iff.1 h
    obtain ⟨x4, hx4, hh2⟩ := Option.bind_eq_some_iff.1 hh1
    have hc2 := Cd.full_ok hx4
    clear hx4
    subst hc2
    cases hh2
    refine fits_ren [(7000000000001, ex1.1)] ?_ ?_ ren_one rfl
    · exact List.forall_mem_cons.2 ⟨FV.one (FV.ptr (by assumption)), List.forall_mem_cons.2 ⟨FV.one (FV.same (by assumption) rfl), List.forall_mem_cons.2 ⟨FV.one (FV.same (by assumption) rfl), List.forall_mem_cons.2 ⟨FV.one (FV.same (by assumption) rfl), List.forall_mem_cons.2 ⟨FV.one (FV.same (by assumption) rfl), List.forall_mem_cons.2 ⟨FV.one (FV.ptr (by assumption)), fun _ hp => (List.not_mem_nil hp).elim⟩⟩⟩⟩⟩⟩
    · exact List.forall_mem_cons.2 ⟨FO.cells (show lk (St.o _) 7000000000000 = some _ from by assumption) (FCs.cons ((tip_Spyxref21_Let_fit hex1 rfl).1) (FCs.nil)), List.forall_mem_cons.2 ⟨(tip_Spyxref21_Let_fit hex1 rfl).2, fun _ hp => (List.not_mem_nil hp).elim⟩⟩
  · cases h
theorem pyxref21_Gate_Release.fitR (s : St U) (y : (Sapi_Dec × Bool × Int × Spyxref21_Gate)) (h : pyxref21_Gate_Release.re s = some y) : Fits s (pyxref21_Gate_Release.fin y) := by
  unfold pyxref21_Gate_Release.re at h
  split at h
  · obtain ⟨ex7, hex7, hh1⟩ := Option.bind_eq_some_iff.1 h
    cases hh1
    refine fits_ren [(7000000000001, ex7.1)] ?_ ?_ ren_one rfl
    · exact List.forall_mem_cons.2 ⟨FV.tup (by assumption) (FTs.cons (FVA.one (FV.same rfl rfl)) (FTs.cons (FVA.one (FV.same rfl rfl)) (FTs.cons (FVA.one (FV.same rfl rfl)) (FTs.nil)))), List.forall_mem_cons.2 ⟨FV.one (FV.ptr (by assumption)), fun _ hp => (List.not_mem_nil hp).elim⟩⟩
    · exact List.forall_mem_cons.2 ⟨FO.cells (show lk (St.o _) 7000000000000 = some _ from by assumption) (FCs.cons ((tip_Spyxref21_Let_fit hex7 rfl).1) (FCs.nil)), List.forall_mem_cons.2 ⟨(tip_Spyxref21_Let_fit hex7 rfl).2, fun _ hp => (List.not_mem_nil hp).elim⟩⟩
  · cases h
theorem pyxref21_Gate_Release.sound (k : Nat) : Sound Try.prog DD 24 (pyxref21_Gate_Release.D k) :=
  fun_sound (E := pyxref21_Gate_Release.E k) (fn := Try.f24) (c := codeOf Try.f24) (pyxref21_Gate_Release.ok k) mixed rfl Try.func24 (by kernel_rfl) (by kernel_rfl) (allL_of (l := [loopAt Try.f24 4]) (by kernel_rfl) (allL_cons (key := 4) (by kernel_rfl) rfl (pyxref21_Gate_Release.l4.sound k) allL_nil)) (pyxref21_Gate_Release.D k) pyxref21_Gate_Release.mk pyxref21_Gate_Release.re (by kernel_rfl) (by kernel_rfl) pyxref21_Gate_Release.fit pyxref21_Gate_Release.fitR (pyxref21_Gate_Release.eq k)
/-! ### pyx/label.Below: function 50 -/
noncomputable def label_Below.f (k : Nat) (a0 : Sapi_Label) (a1 : Sapi_Label) : Option Bool := cond ((bits .andNot .u64 a0.f_Set a1.f_Set) == 0) (some (decide (a0.f_Level ≤ a1.f_Level))) (some false)
noncomputable def label_Below.un (s : St U) : Option (Sapi_Label × Sapi_Label) := match s.get 0, s.get 1 with | .agg [.flat (.int .u64 x1), .flat (.int .i64 x2)], .agg [.flat (.int .u64 x3), .flat (.int .i64 x4)] => some ((⟨x1, x2⟩ : Sapi_Label), (⟨x3, x4⟩ : Sapi_Label)) | _, _ => none
noncomputable def label_Below.mk (x : (Sapi_Label × Sapi_Label)) : St U := ⟨[(0, .agg [.flat (.int .u64 x.1.f_Set), .flat (.int .i64 x.1.f_Level)]), (1, .agg [.flat (.int .u64 x.2.f_Set), .flat (.int .i64 x.2.f_Level)])], []⟩
noncomputable def label_Below.fin (y : Bool) : St U := ⟨[(0, .flat (.bool y))], []⟩
noncomputable def label_Below.D (k : Nat) : FDen U := { X := (Sapi_Label × Sapi_Label), Y := Bool, nt := 18, gh := [], un := label_Below.un, f := fun x => label_Below.f k (x.1) (x.2), fin := label_Below.fin, cl := true, clo := fun _ _ => rfl }
noncomputable def label_Below.re (s : St U) : Option Bool := match s.get 0 with | .flat (.bool x1) => some x1 | _ => none
noncomputable def label_Below.jl : List (Nat × JDen U) := []
noncomputable def label_Below.fl (k : Nat) : List (Nat × FDen U) := []
noncomputable def label_Below.ll (k : Nat) : List (Nat × LDen U) := []
noncomputable def label_Below.E (k : Nat) : Env U := { P := Try.prog, D := DD, fd := lk (label_Below.fl k), ld := lk (label_Below.ll k), jd := lk label_Below.jl, mode := lk [], elc := lk ec, mpc := lk mc, rts := Try.f50.resultTypes.toList, dyn := fun t => false, vecs := fun d => false, results := Try.f50.results.toList, gh := [], own := false, io := fun g i => false }
theorem label_Below.ok (k : Nat) : EnvOk (label_Below.E k) := envOk lawful (label_Below.fl k) (label_Below.ll k) label_Below.jl _ _ _ _ _ _ _ _ _ _ (by
  intro p hp
  simp [label_Below.fl] at hp) (by
  intro p hp
  simp [label_Below.jl] at hp)
theorem label_Below.eq (k : Nat) (x : (Sapi_Label × Sapi_Label)) : runF (label_Below.E k) (codeOf Try.f50) (label_Below.mk x) label_Below.re = (label_Below.D k).f x := by kernel_rfl
theorem label_Below.fit (s : St U) (x : (Sapi_Label × Sapi_Label)) (h : label_Below.un s = some x) : Fits s (label_Below.mk x) := by
  unfold label_Below.un at h
  split at h
  · cases h
    refine fits_ren [] ?_ ?_ ren_nil rfl
    · exact List.forall_mem_cons.2 ⟨FV.one (FV.same (by assumption) rfl), List.forall_mem_cons.2 ⟨FV.one (FV.same (by assumption) rfl), fun _ hp => (List.not_mem_nil hp).elim⟩⟩
    · exact fun _ hp => (List.not_mem_nil hp).elim
  · cases h
theorem label_Below.fitR (s : St U) (y : Bool) (h : label_Below.re s = some y) : Fits s (label_Below.fin y) := by
  unfold label_Below.re at h
  split at h
  · cases h
    refine fits_ren [] ?_ ?_ ren_nil rfl
    · exact List.forall_mem_cons.2 ⟨FV.one (FV.same (by assumption) rfl), fun _ hp => (List.not_mem_nil hp).elim⟩
    · exact fun _ hp => (List.not_mem_nil hp).elim
  · cases h
theorem label_Below.sound (k : Nat) : Sound Try.prog DD 50 (label_Below.D k) :=
  fun_sound (E := label_Below.E k) (fn := Try.f50) (c := codeOf Try.f50) (label_Below.ok k) mixed rfl Try.func50 (by kernel_rfl) (by kernel_rfl) (allL_of (l := []) (by kernel_rfl) allL_nil) (label_Below.D k) label_Below.mk label_Below.re (by kernel_rfl) (by kernel_rfl) label_Below.fit label_Below.fitR (label_Below.eq k)
/-! ### (*pyx/gate.Gate).Seen: function 20 -/
noncomputable def gate_Gate_Seen.l3.once (k : Nat) (x : (List Sgate_Out × List Sgate_Out × Int × Int × Int × Int × List Sgate_Out × List (Sgate_Key × Int))) : Option ((List Sgate_Out × List Sgate_Out × Int × Int × Int × Int × List Sgate_Out × List (Sgate_Key × Int)) ⊕ ((List Sgate_Out × List Sgate_Out × List (Sgate_Key × Int)))) := match x with | (x4, x5, x6, x7, x2, x3, x8, x9) => cond (decide (x7 < x6)) (cond (inb x7 (List.length x5)) ((label_Below.f k (⟨((List.getD x5 (Int.toNat x7) Sgate_Out.zero).f_To).f_Set, ((List.getD x5 (Int.toNat x7) Sgate_Out.zero).f_To).f_Level⟩ : Sapi_Label) (⟨x2, x3⟩ : Sapi_Label)).bind fun t10 => (cond (t10) (cond (okLen (List.length x4 + List.length [(⟨(⟨((List.getD x5 (Int.toNat x7) Sgate_Out.zero).f_K).f_Group, ((List.getD x5 (Int.toNat x7) Sgate_Out.zero).f_K).f_Line, ((List.getD x5 (Int.toNat x7) Sgate_Out.zero).f_K).f_Period, ((List.getD x5 (Int.toNat x7) Sgate_Out.zero).f_K).f_Version⟩ : Sgate_Key), (List.getD x5 (Int.toNat x7) Sgate_Out.zero).f_Rule, (⟨((List.getD x5 (Int.toNat x7) Sgate_Out.zero).f_Value).f_Neg, ((((List.getD x5 (Int.toNat x7) Sgate_Out.zero).f_Value).f_C).1, (((List.getD x5 (Int.toNat x7) Sgate_Out.zero).f_Value).f_C).2), ((List.getD x5 (Int.toNat x7) Sgate_Out.zero).f_Value).f_Scale⟩ : Sapi_Dec), (⟨((List.getD x5 (Int.toNat x7) Sgate_Out.zero).f_To).f_Set, ((List.getD x5 (Int.toNat x7) Sgate_Out.zero).f_To).f_Level⟩ : Sapi_Label)⟩ : Sgate_Out)]) 88) (some (.inl (x4 ++ [(⟨(⟨((List.getD x5 (Int.toNat x7) Sgate_Out.zero).f_K).f_Group, ((List.getD x5 (Int.toNat x7) Sgate_Out.zero).f_K).f_Line, ((List.getD x5 (Int.toNat x7) Sgate_Out.zero).f_K).f_Period, ((List.getD x5 (Int.toNat x7) Sgate_Out.zero).f_K).f_Version⟩ : Sgate_Key), (List.getD x5 (Int.toNat x7) Sgate_Out.zero).f_Rule, (⟨((List.getD x5 (Int.toNat x7) Sgate_Out.zero).f_Value).f_Neg, ((((List.getD x5 (Int.toNat x7) Sgate_Out.zero).f_Value).f_C).1, (((List.getD x5 (Int.toNat x7) Sgate_Out.zero).f_Value).f_C).2), ((List.getD x5 (Int.toNat x7) Sgate_Out.zero).f_Value).f_Scale⟩ : Sapi_Dec), (⟨((List.getD x5 (Int.toNat x7) Sgate_Out.zero).f_To).f_Set, ((List.getD x5 (Int.toNat x7) Sgate_Out.zero).f_To).f_Level⟩ : Sapi_Label)⟩ : Sgate_Out)], x5, x6, IntKind.wrap .i64 (x7 + 1), x2, x3, x8, x9))) none) (some (.inl (x4, x5, x6, IntKind.wrap .i64 (x7 + 1), x2, x3, x8, x9))))) none) (some (.inr (x4, x8, x9)))
noncomputable def gate_Gate_Seen.f (k : Nat) (a0 : Sgate_Gate) (a1 : Sapi_Label) : Option (List Sgate_Out × Sgate_Gate) := (gate_Gate_Log.f k (⟨a0.f_l, a0.f_at⟩ : Sgate_Gate)).bind fun t1 => ((iter (gate_Gate_Seen.l3.once k) k (([] : List Sgate_Out), t1.1, (List.length t1.1 : Int), 0, a1.f_Set, a1.f_Level, t1.2.f_l, t1.2.f_at)).bind fun y14 => ((slices_Clip_gate_Out.f k y14.1).bind fun t15 => (some (t15, (⟨y14.2.1, y14.2.2⟩ : Sgate_Gate)))))
noncomputable def gate_Gate_Seen.un (s : St U) : Option (Sgate_Gate × Sapi_Label) := match s.get 0, lk s.o 7000000000000, s.get 1, s.get 1000000000000000 with | .ptr 7000000000000 0, some (.lit [x3, x4]), .agg [.flat (.int .u64 x5), .flat (.int .i64 x6)], .ptr 7000000000000 0 => (tip_Sgate_Out s.o 11 x3).bind fun ex1 => ((map_Sgate_Key_i64_t s.o x4).bind fun ex2 => (cond (apart [ex1.1, ex2.1]) (some ((⟨ex1.2, ex2.2⟩ : Sgate_Gate), (⟨x5, x6⟩ : Sapi_Label))) none)) | _, _, _, _ => none
noncomputable def gate_Gate_Seen.mk (x : (Sgate_Gate × Sapi_Label)) : St U := ⟨[(0, .ptr 7000000000000 0), (1, .agg [.flat (.int .u64 x.2.f_Set), .flat (.int .i64 x.2.f_Level)]), (1000000000000000, .ptr 7000000000000 0)], [(7000000000000, .lit [.tip 7000000000001 C.Sgate_Out x.1.f_l, .mp 7000000000002]), (7000000000001, .tip 11), (7000000000002, .map true true false C.Sgate_Key C.i64 x.1.f_at)]⟩
noncomputable def gate_Gate_Seen.fin (y : (List Sgate_Out × Sgate_Gate)) : St U := ⟨[(0, .row C.Sgate_Out y.1), (1000000000000000, .ptr 7000000000000 0)], [(7000000000000, .lit [.tip 7000000000001 C.Sgate_Out y.2.f_l, .mp 7000000000002]), (7000000000001, .tip 11), (7000000000002, .map true true false C.Sgate_Key C.i64 y.2.f_at)]⟩
noncomputable def gate_Gate_Seen.D (k : Nat) : FDen U := { X := (Sgate_Gate × Sapi_Label), Y := (List Sgate_Out × Sgate_Gate), nt := 26, gh := [0], un := gate_Gate_Seen.un, f := fun x => gate_Gate_Seen.f k (x.1) (x.2), fin := gate_Gate_Seen.fin, cl := false, clo := fun h => by cases h }
noncomputable def gate_Gate_Seen.re (s : St U) : Option (List Sgate_Out × Sgate_Gate) := match s.get 0, s.get 1000000000000000, lk s.o 7000000000000 with | .row C.Sgate_Out x1, .ptr 7000000000000 0, some (.lit [x4, x5]) => (tip_Sgate_Out s.o 11 x4).bind fun ex2 => ((map_Sgate_Key_i64_t s.o x5).bind fun ex3 => (cond (apart [ex2.1, ex3.1]) (some (x1, (⟨ex2.2, ex3.2⟩ : Sgate_Gate))) none)) | _, _, _ => none
noncomputable def gate_Gate_Seen.l3.mk (x : (List Sgate_Out × List Sgate_Out × Int × Int × Int × Int × List Sgate_Out × List (Sgate_Key × Int))) : St U := match x with | (x4, x5, x6, x7, x2, x3, x8, x9) => ⟨[(3, .ptr 3 0), (1000000000000000, .ptr 7000000000000 0), (5, .tip 1003005 C.Sgate_Out x4), (9, .row C.Sgate_Out x5), (10, .flat (.int .i64 x6)), (11, .flat (.int .i64 x7))], [(3, .lit [.flat (.int .u64 x2), .flat (.int .i64 x3)]), (1003005, .tip 11), (7000000000000, .lit [.tip 700002000300000 C.Sgate_Out x8, .mp 700002000300001]), (700002000300000, .tip 11), (700002000300001, .map true true false C.Sgate_Key C.i64 x9)]⟩
noncomputable def gate_Gate_Seen.l3.un (s : St U) : Option (List Sgate_Out × List Sgate_Out × Int × Int × Int × Int × List Sgate_Out × List (Sgate_Key × Int)) := (tip_Sgate_Out s.o 11 (s.get 5)).bind fun q0 => ((row_Sgate_Out (s.get 9)).bind fun q1 => (match s.get 3, s.get 1000000000000000, s.get 10, s.get 11, lk s.o 3, lk s.o 7000000000000 with | .ptr 3 0, .ptr 7000000000000 0, .flat (.int .i64 x6), .flat (.int .i64 x7), some (.lit [.flat (.int .u64 x2), .flat (.int .i64 x3)]), some (.lit [u7000000000000_0, u7000000000000_1]) => (tip_Sgate_Out s.o 11 u7000000000000_0).bind fun w7000000000000_0 => ((map_Sgate_Key_i64_t s.o u7000000000000_1).bind fun w7000000000000_1 => (cond (apart [q0.1, w7000000000000_0.1, w7000000000000_1.1]) (some (q0.2, q1, x6, x7, x2, x3, w7000000000000_0.2, w7000000000000_1.2)) none)) | _, _, _, _, _, _ => none))
noncomputable def gate_Gate_Seen.l3.fin (y : (List Sgate_Out × List Sgate_Out × List (Sgate_Key × Int))) : Out U := match y with | (x11, x12, x13) => .exit 0 ⟨[(1000000000000000, .ptr 7000000000000 0), (5, .tip 1003005 C.Sgate_Out x11)], [(1003005, .tip 11), (7000000000000, .lit [.tip 700002000300000 C.Sgate_Out x12, .mp 700002000300001]), (700002000300000, .tip 11), (700002000300001, .map true true false C.Sgate_Key C.i64 x13)]⟩
noncomputable def gate_Gate_Seen.l3.finK {ρ : Type} (y : (List Sgate_Out × List Sgate_Out × List (Sgate_Key × Int))) (K : Out U → Option ρ) : Option ρ := match y with | (x11, x12, x13) => K (.exit 0 ⟨[(1000000000000000, .ptr 7000000000000 0), (5, .tip 1003005 C.Sgate_Out x11)], [(1003005, .tip 11), (7000000000000, .lit [.tip 700002000300000 C.Sgate_Out x12, .mp 700002000300001]), (700002000300000, .tip 11), (700002000300001, .map true true false C.Sgate_Key C.i64 x13)]⟩)
theorem gate_Gate_Seen.l3.finK_eq {ρ : Type} (y : (List Sgate_Out × List Sgate_Out × List (Sgate_Key × Int))) (K : Out U → Option ρ) : gate_Gate_Seen.l3.finK y K = K (gate_Gate_Seen.l3.fin y) := by
  unfold gate_Gate_Seen.l3.finK gate_Gate_Seen.l3.fin
  first | rfl | (split <;> rfl)
noncomputable def gate_Gate_Seen.l3.re : Out U → Option ((List Sgate_Out × List Sgate_Out × List (Sgate_Key × Int))) | .exit 0 s => ((tip_Sgate_Out s.o 11 (s.get 5)).bind fun q0 => (match s.get 1000000000000000, lk s.o 7000000000000 with | .ptr 7000000000000 0, some (.lit [u7000000000000_0, u7000000000000_1]) => (tip_Sgate_Out s.o 11 u7000000000000_0).bind fun w7000000000000_0 => ((map_Sgate_Key_i64_t s.o u7000000000000_1).bind fun w7000000000000_1 => (cond (apart [q0.1, w7000000000000_0.1, w7000000000000_1.1]) (some (q0.2, w7000000000000_0.2, w7000000000000_1.2)) none)) | _, _ => none)) | _ => none
noncomputable def gate_Gate_Seen.l3.L (k : Nat) : LDen U := { X := (List Sgate_Out × List Sgate_Out × Int × Int × Int × Int × List Sgate_Out × List (Sgate_Key × Int)), Y := (List Sgate_Out × List Sgate_Out × List (Sgate_Key × Int)), un := gate_Gate_Seen.l3.un, f := iter (gate_Gate_Seen.l3.once k) k, fin := gate_Gate_Seen.l3.fin, finK := gate_Gate_Seen.l3.finK, finK_eq := gate_Gate_Seen.l3.finK_eq }
noncomputable def gate_Gate_Seen.jl : List (Nat × JDen U) := []
noncomputable def gate_Gate_Seen.fl (k : Nat) : List (Nat × FDen U) := [(19, gate_Gate_Log.D k), (50, label_Below.D k), (62, slices_Clip_gate_Out.D k)]
noncomputable def gate_Gate_Seen.ll (k : Nat) : List (Nat × LDen U) := [(3, gate_Gate_Seen.l3.L k)]
noncomputable def gate_Gate_Seen.E (k : Nat) : Env U := { P := Try.prog, D := DD, fd := lk (gate_Gate_Seen.fl k), ld := lk (gate_Gate_Seen.ll k), jd := lk gate_Gate_Seen.jl, mode := lk [], elc := lk ec, mpc := lk mc, rts := Try.f20.resultTypes.toList, dyn := fun t => false, vecs := fun d => false, results := Try.f20.results.toList, gh := [0], own := false, io := fun g i => false }
theorem gate_Gate_Seen.ok (k : Nat) : EnvOk (gate_Gate_Seen.E k) := envOk lawful (gate_Gate_Seen.fl k) (gate_Gate_Seen.ll k) gate_Gate_Seen.jl _ _ _ _ _ _ _ _ _ _ (by
  intro p hp
  simp only [gate_Gate_Seen.fl, List.mem_cons, List.not_mem_nil, or_false] at hp
  rcases hp with rfl | rfl | rfl
  · exact ⟨gate_Gate_Log.sound k, enter_of Try.func19 (by kernel_rfl) (by kernel_rfl)⟩
  · exact ⟨label_Below.sound k, enter_of Try.func50 (by kernel_rfl) (by kernel_rfl)⟩
  · exact ⟨slices_Clip_gate_Out.sound k, enter_of Try.func62 (by kernel_rfl) (by kernel_rfl)⟩) (by
  intro p hp
  simp [gate_Gate_Seen.jl] at hp)
theorem gate_Gate_Seen.l3.eq (k : Nat) (x : (List Sgate_Out × List Sgate_Out × Int × Int × Int × Int × List Sgate_Out × List (Sgate_Key × Int))) : evC (gate_Gate_Seen.E k) (loopAt Try.f20 3) (gate_Gate_Seen.l3.mk x) (headK gate_Gate_Seen.l3.un gate_Gate_Seen.l3.re) = gate_Gate_Seen.l3.once k x := by kernel_rfl
theorem gate_Gate_Seen.l3.fit (s : St U) (x : (List Sgate_Out × List Sgate_Out × Int × Int × Int × Int × List Sgate_Out × List (Sgate_Key × Int))) (h : gate_Gate_Seen.l3.un s = some x) : Fits s (gate_Gate_Seen.l3.mk x) := by
  unfold gate_Gate_Seen.l3.un at h
  obtain ⟨q0, eq0, h1⟩ := Option.bind_eq_some_iff.1 h
  obtain ⟨q1, eq1, h2⟩ := Option.bind_eq_some_iff.1 h1
  split at h2
  · obtain ⟨w7000000000000_0, ew7000000000000_0, h3⟩ := Option.bind_eq_some_iff.1 h2
    obtain ⟨w7000000000000_1, ew7000000000000_1, h4⟩ := Option.bind_eq_some_iff.1 h3
    obtain ⟨hap, h5⟩ := cond_none h4
    cases h5
    refine fits_ren [(1003005, q0.1), (700002000300000, w7000000000000_0.1), (700002000300001, w7000000000000_1.1)] ?_ ?_ (ren_apart hap) rfl
    · exact List.forall_mem_cons.2 ⟨FV.one (FV.ptr (by assumption)), List.forall_mem_cons.2 ⟨FV.one (FV.ptr (by assumption)), List.forall_mem_cons.2 ⟨FV.one (tip_Sgate_Out_fit eq0 rfl).1, List.forall_mem_cons.2 ⟨FV.one (row_Sgate_Out_fit eq1), List.forall_mem_cons.2 ⟨FV.one (FV.same (by assumption) rfl), List.forall_mem_cons.2 ⟨FV.one (FV.same (by assumption) rfl), fun _ hp => (List.not_mem_nil hp).elim⟩⟩⟩⟩⟩⟩
    · exact List.forall_mem_cons.2 ⟨(FO.same (show lk (St.o _) 3 = some _ from by assumption) rfl), List.forall_mem_cons.2 ⟨(tip_Sgate_Out_fit eq0 rfl).2, List.forall_mem_cons.2 ⟨(FO.cells (show lk (St.o _) 7000000000000 = some _ from by assumption) (FCs.cons ((tip_Sgate_Out_fit ew7000000000000_0 rfl).1) (FCs.cons ((map_Sgate_Key_i64_t_fit ew7000000000000_1 rfl).1) (FCs.nil)))), List.forall_mem_cons.2 ⟨(tip_Sgate_Out_fit ew7000000000000_0 rfl).2, List.forall_mem_cons.2 ⟨(map_Sgate_Key_i64_t_fit ew7000000000000_1 rfl).2, fun _ hp => (List.not_mem_nil hp).elim⟩⟩⟩⟩⟩
  · cases h2
theorem gate_Gate_Seen.l3.fitO (o : Out U) (y : (List Sgate_Out × List Sgate_Out × List (Sgate_Key × Int))) (h : gate_Gate_Seen.l3.re o = some y) : FitsO o (gate_Gate_Seen.l3.fin y) := by
  unfold gate_Gate_Seen.l3.re at h
  split at h
  · obtain ⟨q0, eq0, h1⟩ := Option.bind_eq_some_iff.1 h
    split at h1
    · obtain ⟨w7000000000000_0, ew7000000000000_0, h2⟩ := Option.bind_eq_some_iff.1 h1
      obtain ⟨w7000000000000_1, ew7000000000000_1, h3⟩ := Option.bind_eq_some_iff.1 h2
      obtain ⟨hap, h4⟩ := cond_none h3
      cases h4
      refine fitsO_exit (fits_ren [(1003005, q0.1), (700002000300000, w7000000000000_0.1), (700002000300001, w7000000000000_1.1)] ?_ ?_ (ren_apart hap) rfl)
      · exact List.forall_mem_cons.2 ⟨FV.one (FV.ptr (by assumption)), List.forall_mem_cons.2 ⟨FV.one (tip_Sgate_Out_fit eq0 rfl).1, fun _ hp => (List.not_mem_nil hp).elim⟩⟩
      · exact List.forall_mem_cons.2 ⟨(tip_Sgate_Out_fit eq0 rfl).2, List.forall_mem_cons.2 ⟨(FO.cells (show lk (St.o _) 7000000000000 = some _ from by assumption) (FCs.cons ((tip_Sgate_Out_fit ew7000000000000_0 rfl).1) (FCs.cons ((map_Sgate_Key_i64_t_fit ew7000000000000_1 rfl).1) (FCs.nil)))), List.forall_mem_cons.2 ⟨(tip_Sgate_Out_fit ew7000000000000_0 rfl).2, List.forall_mem_cons.2 ⟨(map_Sgate_Key_i64_t_fit ew7000000000000_1 rfl).2, fun _ hp => (List.not_mem_nil hp).elim⟩⟩⟩⟩
    · cases h1
  · cases h
theorem gate_Gate_Seen.l3.sound (k : Nat) : LSound (gate_Gate_Seen.E k) Try.f20.ntmps Try.f20 (loopAt Try.f20 3) (gate_Gate_Seen.l3.L k) :=
  loop_sound (gate_Gate_Seen.ok k) mixed rfl (by kernel_rfl) (allL_of (l := []) (by kernel_rfl) allL_nil) gate_Gate_Seen.l3.un gate_Gate_Seen.l3.mk gate_Gate_Seen.l3.fin gate_Gate_Seen.l3.re (gate_Gate_Seen.l3.once k) k gate_Gate_Seen.l3.fit gate_Gate_Seen.l3.fitO (gate_Gate_Seen.l3.eq k) gate_Gate_Seen.l3.finK gate_Gate_Seen.l3.finK_eq
theorem gate_Gate_Seen.eq (k : Nat) (x : (Sgate_Gate × Sapi_Label)) : runF (gate_Gate_Seen.E k) (codeOf Try.f20) (gate_Gate_Seen.mk x) gate_Gate_Seen.re = (gate_Gate_Seen.D k).f x := by kernel_rfl
theorem gate_Gate_Seen.fit (s : St U) (x : (Sgate_Gate × Sapi_Label)) (h : gate_Gate_Seen.un s = some x) : Fits s (gate_Gate_Seen.mk x) := by
  unfold gate_Gate_Seen.un at h
  split at h
  · obtain ⟨ex1, hex1, hh1⟩ := Option.bind_eq_some_iff.1 h
    obtain ⟨ex2, hex2, hh2⟩ := Option.bind_eq_some_iff.1 hh1
    obtain ⟨hap, hh0⟩ := cond_none hh2
    cases hh0
    refine fits_ren [(7000000000001, ex1.1), (7000000000002, ex2.1)] ?_ ?_ (ren_apart hap) rfl
    · exact List.forall_mem_cons.2 ⟨FV.one (FV.ptr (by assumption)), List.forall_mem_cons.2 ⟨FV.one (FV.same (by assumption) rfl), List.forall_mem_cons.2 ⟨FV.one (FV.ptr (by assumption)), fun _ hp => (List.not_mem_nil hp).elim⟩⟩⟩
    · exact List.forall_mem_cons.2 ⟨FO.cells (show lk (St.o _) 7000000000000 = some _ from by assumption) (FCs.cons ((tip_Sgate_Out_fit hex1 rfl).1) (FCs.cons ((map_Sgate_Key_i64_t_fit hex2 rfl).1) (FCs.nil))), List.forall_mem_cons.2 ⟨(tip_Sgate_Out_fit hex1 rfl).2, List.forall_mem_cons.2 ⟨(map_Sgate_Key_i64_t_fit hex2 rfl).2, fun _ hp => (List.not_mem_nil hp).elim⟩⟩⟩
  · cases h
theorem gate_Gate_Seen.fitR (s : St U) (y : (List Sgate_Out × Sgate_Gate)) (h : gate_Gate_Seen.re s = some y) : Fits s (gate_Gate_Seen.fin y) := by
  unfold gate_Gate_Seen.re at h
  split at h
  · obtain ⟨ex2, hex2, hh1⟩ := Option.bind_eq_some_iff.1 h
    obtain ⟨ex3, hex3, hh2⟩ := Option.bind_eq_some_iff.1 hh1
    obtain ⟨hap, hh0⟩ := cond_none hh2
    cases hh0
    refine fits_ren [(7000000000001, ex2.1), (7000000000002, ex3.1)] ?_ ?_ (ren_apart hap) rfl
    · exact List.forall_mem_cons.2 ⟨FV.one (FV.same (by assumption) rfl), List.forall_mem_cons.2 ⟨FV.one (FV.ptr (by assumption)), fun _ hp => (List.not_mem_nil hp).elim⟩⟩
    · exact List.forall_mem_cons.2 ⟨FO.cells (show lk (St.o _) 7000000000000 = some _ from by assumption) (FCs.cons ((tip_Sgate_Out_fit hex2 rfl).1) (FCs.cons ((map_Sgate_Key_i64_t_fit hex3 rfl).1) (FCs.nil))), List.forall_mem_cons.2 ⟨(tip_Sgate_Out_fit hex2 rfl).2, List.forall_mem_cons.2 ⟨(map_Sgate_Key_i64_t_fit hex3 rfl).2, fun _ hp => (List.not_mem_nil hp).elim⟩⟩⟩
  · cases h
theorem gate_Gate_Seen.sound (k : Nat) : Sound Try.prog DD 20 (gate_Gate_Seen.D k) :=
  fun_sound (E := gate_Gate_Seen.E k) (fn := Try.f20) (c := codeOf Try.f20) (gate_Gate_Seen.ok k) mixed rfl Try.func20 (by kernel_rfl) (by kernel_rfl) (allL_of (l := [loopAt Try.f20 3]) (by kernel_rfl) (allL_cons (key := 3) (by kernel_rfl) rfl (gate_Gate_Seen.l3.sound k) allL_nil)) (gate_Gate_Seen.D k) gate_Gate_Seen.mk gate_Gate_Seen.re (by kernel_rfl) (by kernel_rfl) gate_Gate_Seen.fit gate_Gate_Seen.fitR (gate_Gate_Seen.eq k)
/-! ### pyx/pyxref4.has: function 115 -/
noncomputable def pyxref4_has.f (k : Nat) (a0 : Int) (a1 : Int) : Option Bool := cond (decide (a1 ≥ 0)) (cond (decide (a1 < 64)) (cond (decide (IntKind.wrap .u64 (a1) < 0)) none (some ((Int.tmod (Int.fdiv a0 (2 ^ (min (Int.toNat (IntKind.wrap .u64 (a1))) 64))) 2) == 1))) (some false)) (some false)
noncomputable def pyxref4_has.un (s : St U) : Option (Int × Int) := match s.get 0, s.get 1 with | .flat (.int .u64 x1), .flat (.int .i64 x2) => some (x1, x2) | _, _ => none
noncomputable def pyxref4_has.mk (x : (Int × Int)) : St U := ⟨[(0, .flat (.int .u64 x.1)), (1, .flat (.int .i64 x.2))], []⟩
noncomputable def pyxref4_has.fin (y : Bool) : St U := ⟨[(0, .flat (.bool y))], []⟩
noncomputable def pyxref4_has.D (k : Nat) : FDen U := { X := (Int × Int), Y := Bool, nt := 19, gh := [], un := pyxref4_has.un, f := fun x => pyxref4_has.f k (x.1) (x.2), fin := pyxref4_has.fin, cl := true, clo := fun _ _ => rfl }
noncomputable def pyxref4_has.re (s : St U) : Option Bool := match s.get 0 with | .flat (.bool x1) => some x1 | _ => none
noncomputable def pyxref4_has.jl : List (Nat × JDen U) := []
noncomputable def pyxref4_has.fl (k : Nat) : List (Nat × FDen U) := []
noncomputable def pyxref4_has.ll (k : Nat) : List (Nat × LDen U) := []
noncomputable def pyxref4_has.E (k : Nat) : Env U := { P := Try.prog, D := DD, fd := lk (pyxref4_has.fl k), ld := lk (pyxref4_has.ll k), jd := lk pyxref4_has.jl, mode := lk [], elc := lk ec, mpc := lk mc, rts := Try.f115.resultTypes.toList, dyn := fun t => false, vecs := fun d => false, results := Try.f115.results.toList, gh := [], own := false, io := fun g i => false }
theorem pyxref4_has.ok (k : Nat) : EnvOk (pyxref4_has.E k) := envOk lawful (pyxref4_has.fl k) (pyxref4_has.ll k) pyxref4_has.jl _ _ _ _ _ _ _ _ _ _ (by
  intro p hp
  simp [pyxref4_has.fl] at hp) (by
  intro p hp
  simp [pyxref4_has.jl] at hp)
theorem pyxref4_has.eq (k : Nat) (x : (Int × Int)) : runF (pyxref4_has.E k) (codeOf Try.f115) (pyxref4_has.mk x) pyxref4_has.re = (pyxref4_has.D k).f x := by kernel_rfl
theorem pyxref4_has.fit (s : St U) (x : (Int × Int)) (h : pyxref4_has.un s = some x) : Fits s (pyxref4_has.mk x) := by
  unfold pyxref4_has.un at h
  split at h
  · cases h
    refine fits_ren [] ?_ ?_ ren_nil rfl
    · exact List.forall_mem_cons.2 ⟨FV.one (FV.same (by assumption) rfl), List.forall_mem_cons.2 ⟨FV.one (FV.same (by assumption) rfl), fun _ hp => (List.not_mem_nil hp).elim⟩⟩
    · exact fun _ hp => (List.not_mem_nil hp).elim
  · cases h
theorem pyxref4_has.fitR (s : St U) (y : Bool) (h : pyxref4_has.re s = some y) : Fits s (pyxref4_has.fin y) := by
  unfold pyxref4_has.re at h
  split at h
  · cases h
    refine fits_ren [] ?_ ?_ ren_nil rfl
    · exact List.forall_mem_cons.2 ⟨FV.one (FV.same (by assumption) rfl), fun _ hp => (List.not_mem_nil hp).elim⟩
    · exact fun _ hp => (List.not_mem_nil hp).elim
  · cases h
theorem pyxref4_has.sound (k : Nat) : Sound Try.prog DD 115 (pyxref4_has.D k) :=
  fun_sound (E := pyxref4_has.E k) (fn := Try.f115) (c := codeOf Try.f115) (pyxref4_has.ok k) mixed rfl Try.func115 (by kernel_rfl) (by kernel_rfl) (allL_of (l := []) (by kernel_rfl) allL_nil) (pyxref4_has.D k) pyxref4_has.mk pyxref4_has.re (by kernel_rfl) (by kernel_rfl) pyxref4_has.fit pyxref4_has.fitR (pyxref4_has.eq k)
/-! ### pyx/pyxref4.Below: function 65 -/
noncomputable def pyxref4_Below.l2.once (k : Nat) (x : (Int × Int × Int × Int × Int)) : Option ((Int × Int × Int × Int × Int) ⊕ ((Int × Int × Int × Int) ⊕ Bool)) := match x with | (x5, x1, x2, x3, x4) => cond (decide (x5 < 64)) ((((pyxref4_has.f k x1 x5).bind fun t6 => (cond (t6) ((pyxref4_has.f k x3 x5).bind fun t7 => (some (x5, !t7, x1, x2, x3, x4))) (some (x5, false, x1, x2, x3, x4)))) : Option (Int × Bool × Int × Int × Int × Int)).bind fun y14 => (cond (y14.2.1) (some (.inr (.inr false))) (some (.inl (IntKind.wrap .i64 (y14.1 + 1), y14.2.2.1, y14.2.2.2.1, y14.2.2.2.2.1, y14.2.2.2.2.2))))) (some (.inr (.inl (x1, x2, x3, x4))))
noncomputable def pyxref4_Below.f (k : Nat) (a0 : Sapi_Label) (a1 : Sapi_Label) : Option Bool := (iter (pyxref4_Below.l2.once k) k (0, a0.f_Set, a0.f_Level, a1.f_Set, a1.f_Level)).bind fun | .inl y20 => (some (decide (y20.2.1 ≤ y20.2.2.2))) | .inr y21 => (some y21)
noncomputable def pyxref4_Below.un (s : St U) : Option (Sapi_Label × Sapi_Label) := match s.get 0, s.get 1 with | .agg [.flat (.int .u64 x1), .flat (.int .i64 x2)], .agg [.flat (.int .u64 x3), .flat (.int .i64 x4)] => some ((⟨x1, x2⟩ : Sapi_Label), (⟨x3, x4⟩ : Sapi_Label)) | _, _ => none
noncomputable def pyxref4_Below.mk (x : (Sapi_Label × Sapi_Label)) : St U := ⟨[(0, .agg [.flat (.int .u64 x.1.f_Set), .flat (.int .i64 x.1.f_Level)]), (1, .agg [.flat (.int .u64 x.2.f_Set), .flat (.int .i64 x.2.f_Level)])], []⟩
noncomputable def pyxref4_Below.fin (y : Bool) : St U := ⟨[(0, .flat (.bool y))], []⟩
noncomputable def pyxref4_Below.D (k : Nat) : FDen U := { X := (Sapi_Label × Sapi_Label), Y := Bool, nt := 26, gh := [], un := pyxref4_Below.un, f := fun x => pyxref4_Below.f k (x.1) (x.2), fin := pyxref4_Below.fin, cl := true, clo := fun _ _ => rfl }
noncomputable def pyxref4_Below.re (s : St U) : Option Bool := match s.get 0 with | .flat (.bool x1) => some x1 | _ => none
noncomputable def pyxref4_Below.l2.mk (x : (Int × Int × Int × Int × Int)) : St U := match x with | (x5, x1, x2, x3, x4) => ⟨[(2, .ptr 2 0), (3, .ptr 3 0), (5, .flat (.int .i64 x5))], [(2, .lit [.flat (.int .u64 x1), .flat (.int .i64 x2)]), (3, .lit [.flat (.int .u64 x3), .flat (.int .i64 x4)])]⟩
noncomputable def pyxref4_Below.l2.un (s : St U) : Option (Int × Int × Int × Int × Int) := match s.get 2, s.get 3, s.get 5, lk s.o 2, lk s.o 3 with | .ptr 2 0, .ptr 3 0, .flat (.int .i64 x5), some (.lit [.flat (.int .u64 x1), .flat (.int .i64 x2)]), some (.lit [.flat (.int .u64 x3), .flat (.int .i64 x4)]) => some (x5, x1, x2, x3, x4) | _, _, _, _, _ => none
noncomputable def pyxref4_Below.l2.fin (y : (Int × Int × Int × Int) ⊕ Bool) : Out U := match y with | .inl (x15, x16, x17, x18) => .exit 0 ⟨[(2, .ptr 2 0), (3, .ptr 3 0)], [(2, .lit [.flat (.int .u64 x15), .flat (.int .i64 x16)]), (3, .lit [.flat (.int .u64 x17), .flat (.int .i64 x18)])]⟩ | .inr z => .ret (⟨[(0, .flat (.bool z))], []⟩)
noncomputable def pyxref4_Below.l2.finK {ρ : Type} (y : (Int × Int × Int × Int) ⊕ Bool) (K : Out U → Option ρ) : Option ρ := match y with | .inl (x15, x16, x17, x18) => K (.exit 0 ⟨[(2, .ptr 2 0), (3, .ptr 3 0)], [(2, .lit [.flat (.int .u64 x15), .flat (.int .i64 x16)]), (3, .lit [.flat (.int .u64 x17), .flat (.int .i64 x18)])]⟩) | .inr z => K (.ret (⟨[(0, .flat (.bool z))], []⟩))
theorem pyxref4_Below.l2.finK_eq {ρ : Type} (y : (Int × Int × Int × Int) ⊕ Bool) (K : Out U → Option ρ) : pyxref4_Below.l2.finK y K = K (pyxref4_Below.l2.fin y) := by
  unfold pyxref4_Below.l2.finK pyxref4_Below.l2.fin
  first | rfl | (split <;> rfl)
noncomputable def pyxref4_Below.l2.re : Out U → Option ((Int × Int × Int × Int) ⊕ Bool) | .exit 0 s => (match s.get 2, s.get 3, lk s.o 2, lk s.o 3 with | .ptr 2 0, .ptr 3 0, some (.lit [.flat (.int .u64 x15), .flat (.int .i64 x16)]), some (.lit [.flat (.int .u64 x17), .flat (.int .i64 x18)]) => some (.inl (x15, x16, x17, x18)) | _, _, _, _ => none) | .ret s => (match s.get 0 with | .flat (.bool x1) => some (.inr x1) | _ => none) | _ => none
noncomputable def pyxref4_Below.l2.L (k : Nat) : LDen U := { X := (Int × Int × Int × Int × Int), Y := (Int × Int × Int × Int) ⊕ Bool, un := pyxref4_Below.l2.un, f := iter (pyxref4_Below.l2.once k) k, fin := pyxref4_Below.l2.fin, finK := pyxref4_Below.l2.finK, finK_eq := pyxref4_Below.l2.finK_eq }
noncomputable def pyxref4_Below.j4000.fin (y : (Int × Bool × Int × Int × Int × Int)) : Out U := match y with | (x12, x13, x8, x9, x10, x11) => .norm ⟨[(2, .ptr 2 0), (3, .ptr 3 0), (5, .flat (.int .i64 x12)), (20, .flat (.bool x13))], [(2, .lit [.flat (.int .u64 x8), .flat (.int .i64 x9)]), (3, .lit [.flat (.int .u64 x10), .flat (.int .i64 x11)])]⟩
noncomputable def pyxref4_Below.j4000.finK {ρ : Type} (y : (Int × Bool × Int × Int × Int × Int)) (K : Out U → Option ρ) : Option ρ := match y with | (x12, x13, x8, x9, x10, x11) => K (.norm ⟨[(2, .ptr 2 0), (3, .ptr 3 0), (5, .flat (.int .i64 x12)), (20, .flat (.bool x13))], [(2, .lit [.flat (.int .u64 x8), .flat (.int .i64 x9)]), (3, .lit [.flat (.int .u64 x10), .flat (.int .i64 x11)])]⟩)
theorem pyxref4_Below.j4000.finK_eq {ρ : Type} (y : (Int × Bool × Int × Int × Int × Int)) (K : Out U → Option ρ) : pyxref4_Below.j4000.finK y K = K (pyxref4_Below.j4000.fin y) := by
  unfold pyxref4_Below.j4000.finK pyxref4_Below.j4000.fin
  first | rfl | (split <;> rfl)
noncomputable def pyxref4_Below.j4000.re : Out U → Option ((Int × Bool × Int × Int × Int × Int)) | .norm s => (match s.get 2, s.get 3, s.get 5, s.get 20, lk s.o 2, lk s.o 3 with | .ptr 2 0, .ptr 3 0, .flat (.int .i64 x12), .flat (.bool x13), some (.lit [.flat (.int .u64 x8), .flat (.int .i64 x9)]), some (.lit [.flat (.int .u64 x10), .flat (.int .i64 x11)]) => some (x12, x13, x8, x9, x10, x11) | _, _, _, _, _, _ => none) | _ => none
noncomputable def pyxref4_Below.j4000.J : JDen U := { Y := (Int × Bool × Int × Int × Int × Int), re := pyxref4_Below.j4000.re, fin := pyxref4_Below.j4000.fin, finK := pyxref4_Below.j4000.finK, finK_eq := pyxref4_Below.j4000.finK_eq }
theorem pyxref4_Below.j4000.fit (o : Out U) (y : (Int × Bool × Int × Int × Int × Int)) (h : pyxref4_Below.j4000.re o = some y) : FitsO o (pyxref4_Below.j4000.fin y) := by
  unfold pyxref4_Below.j4000.re at h
  split at h
  · split at h
    · cases h
      refine fitsO_norm (fits_ren [] ?_ ?_ ren_nil rfl)
      · exact List.forall_mem_cons.2 ⟨FV.one (FV.ptr (by assumption)), List.forall_mem_cons.2 ⟨FV.one (FV.ptr (by assumption)), List.forall_mem_cons.2 ⟨FV.one (FV.same (by assumption) rfl), List.forall_mem_cons.2 ⟨FV.one (FV.same (by assumption) rfl), fun _ hp => (List.not_mem_nil hp).elim⟩⟩⟩⟩
      · exact List.forall_mem_cons.2 ⟨(FO.same (show lk (St.o _) 2 = some _ from by assumption) rfl), List.forall_mem_cons.2 ⟨(FO.same (show lk (St.o _) 3 = some _ from by assumption) rfl), fun _ hp => (List.not_mem_nil hp).elim⟩⟩
    · cases h
  · cases h
noncomputable def pyxref4_Below.jl : List (Nat × JDen U) := [(4000, pyxref4_Below.j4000.J)]
noncomputable def pyxref4_Below.fl (k : Nat) : List (Nat × FDen U) := [(115, pyxref4_has.D k)]
noncomputable def pyxref4_Below.ll (k : Nat) : List (Nat × LDen U) := [(2, pyxref4_Below.l2.L k)]
noncomputable def pyxref4_Below.E (k : Nat) : Env U := { P := Try.prog, D := DD, fd := lk (pyxref4_Below.fl k), ld := lk (pyxref4_Below.ll k), jd := lk pyxref4_Below.jl, mode := lk [], elc := lk ec, mpc := lk mc, rts := Try.f65.resultTypes.toList, dyn := fun t => false, vecs := fun d => false, results := Try.f65.results.toList, gh := [], own := false, io := fun g i => false }
theorem pyxref4_Below.ok (k : Nat) : EnvOk (pyxref4_Below.E k) := envOk lawful (pyxref4_Below.fl k) (pyxref4_Below.ll k) pyxref4_Below.jl _ _ _ _ _ _ _ _ _ _ (by
  intro p hp
  simp only [pyxref4_Below.fl, List.mem_cons, List.not_mem_nil, or_false] at hp
  rcases hp with rfl
  · exact ⟨pyxref4_has.sound k, enter_of Try.func115 (by kernel_rfl) (by kernel_rfl)⟩) (by
  intro p hp
  simp only [pyxref4_Below.jl, List.mem_cons, List.not_mem_nil, or_false] at hp
  rcases hp with rfl
  · exact pyxref4_Below.j4000.fit)
theorem pyxref4_Below.l2.eq (k : Nat) (x : (Int × Int × Int × Int × Int)) : evC (pyxref4_Below.E k) (loopAt Try.f65 2) (pyxref4_Below.l2.mk x) (headK pyxref4_Below.l2.un pyxref4_Below.l2.re) = pyxref4_Below.l2.once k x := by kernel_rfl
theorem pyxref4_Below.l2.fit (s : St U) (x : (Int × Int × Int × Int × Int)) (h : pyxref4_Below.l2.un s = some x) : Fits s (pyxref4_Below.l2.mk x) := by
  unfold pyxref4_Below.l2.un at h
  split at h
  · cases h
    refine fits_ren [] ?_ ?_ ren_nil rfl
    · exact List.forall_mem_cons.2 ⟨FV.one (FV.ptr (by assumption)), List.forall_mem_cons.2 ⟨FV.one (FV.ptr (by assumption)), List.forall_mem_cons.2 ⟨FV.one (FV.same (by assumption) rfl), fun _ hp => (List.not_mem_nil hp).elim⟩⟩⟩
    · exact List.forall_mem_cons.2 ⟨(FO.same (show lk (St.o _) 2 = some _ from by assumption) rfl), List.forall_mem_cons.2 ⟨(FO.same (show lk (St.o _) 3 = some _ from by assumption) rfl), fun _ hp => (List.not_mem_nil hp).elim⟩⟩
  · cases h
theorem pyxref4_Below.l2.fitO (o : Out U) (y : (Int × Int × Int × Int) ⊕ Bool) (h : pyxref4_Below.l2.re o = some y) : FitsO o (pyxref4_Below.l2.fin y) := by
  unfold pyxref4_Below.l2.re at h
  split at h
  · split at h
    · cases h
      refine fitsO_exit (fits_ren [] ?_ ?_ ren_nil rfl)
      · exact List.forall_mem_cons.2 ⟨FV.one (FV.ptr (by assumption)), List.forall_mem_cons.2 ⟨FV.one (FV.ptr (by assumption)), fun _ hp => (List.not_mem_nil hp).elim⟩⟩
      · exact List.forall_mem_cons.2 ⟨(FO.same (show lk (St.o _) 2 = some _ from by assumption) rfl), List.forall_mem_cons.2 ⟨(FO.same (show lk (St.o _) 3 = some _ from by assumption) rfl), fun _ hp => (List.not_mem_nil hp).elim⟩⟩
    · cases h
  · split at h
    · cases h
      refine fitsO_ret (fits_ren [] ?_ ?_ ren_nil rfl)
      · exact List.forall_mem_cons.2 ⟨FV.one (FV.same (by assumption) rfl), fun _ hp => (List.not_mem_nil hp).elim⟩
      · exact fun _ hp => (List.not_mem_nil hp).elim
    · cases h
  · cases h
theorem pyxref4_Below.l2.sound (k : Nat) : LSound (pyxref4_Below.E k) Try.f65.ntmps Try.f65 (loopAt Try.f65 2) (pyxref4_Below.l2.L k) :=
  loop_sound (pyxref4_Below.ok k) mixed rfl (by kernel_rfl) (allL_of (l := []) (by kernel_rfl) allL_nil) pyxref4_Below.l2.un pyxref4_Below.l2.mk pyxref4_Below.l2.fin pyxref4_Below.l2.re (pyxref4_Below.l2.once k) k pyxref4_Below.l2.fit pyxref4_Below.l2.fitO (pyxref4_Below.l2.eq k) pyxref4_Below.l2.finK pyxref4_Below.l2.finK_eq
theorem pyxref4_Below.eq (k : Nat) (x : (Sapi_Label × Sapi_Label)) : runF (pyxref4_Below.E k) (codeOf Try.f65) (pyxref4_Below.mk x) pyxref4_Below.re = (pyxref4_Below.D k).f x := by kernel_rfl
theorem pyxref4_Below.fit (s : St U) (x : (Sapi_Label × Sapi_Label)) (h : pyxref4_Below.un s = some x) : Fits s (pyxref4_Below.mk x) := by
  unfold pyxref4_Below.un at h
  split at h
  · cases h
    refine fits_ren [] ?_ ?_ ren_nil rfl
    · exact List.forall_mem_cons.2 ⟨FV.one (FV.same (by assumption) rfl), List.forall_mem_cons.2 ⟨FV.one (FV.same (by assumption) rfl), fun _ hp => (List.not_mem_nil hp).elim⟩⟩
    · exact fun _ hp => (List.not_mem_nil hp).elim
  · cases h
theorem pyxref4_Below.fitR (s : St U) (y : Bool) (h : pyxref4_Below.re s = some y) : Fits s (pyxref4_Below.fin y) := by
  unfold pyxref4_Below.re at h
  split at h
  · cases h
    refine fits_ren [] ?_ ?_ ren_nil rfl
    · exact List.forall_mem_cons.2 ⟨FV.one (FV.same (by assumption) rfl), fun _ hp => (List.not_mem_nil hp).elim⟩
    · exact fun _ hp => (List.not_mem_nil hp).elim
  · cases h
theorem pyxref4_Below.sound (k : Nat) : Sound Try.prog DD 65 (pyxref4_Below.D k) :=
  fun_sound (E := pyxref4_Below.E k) (fn := Try.f65) (c := codeOf Try.f65) (pyxref4_Below.ok k) mixed rfl Try.func65 (by kernel_rfl) (by kernel_rfl) (allL_of (l := [loopAt Try.f65 2]) (by kernel_rfl) (allL_cons (key := 2) (by kernel_rfl) rfl (pyxref4_Below.l2.sound k) allL_nil)) (pyxref4_Below.D k) pyxref4_Below.mk pyxref4_Below.re (by kernel_rfl) (by kernel_rfl) pyxref4_Below.fit pyxref4_Below.fitR (pyxref4_Below.eq k)
/-! ### (*pyx/pyxref21.Gate).Seen: function 26 -/
noncomputable def pyxref21_Gate_Seen.l3.once (k : Nat) (x : (List Spyxref21_Let × Int × List Spyxref21_Let × Int × Int)) : Option ((List Spyxref21_Let × Int × List Spyxref21_Let × Int × Int) ⊕ ((List Spyxref21_Let × List Spyxref21_Let))) := match x with | (x4, x5, x1, x2, x3) => cond (decide (x5 < (List.length x1 : Int))) (((cond (inb x5 (List.length x1)) ((pyxref4_Below.f k (⟨((List.getD x1 (Int.toNat x5) Spyxref21_Let.zero).f_To).f_Set, ((List.getD x1 (Int.toNat x5) Spyxref21_Let.zero).f_To).f_Level⟩ : Sapi_Label) (⟨x2, x3⟩ : Sapi_Label)).bind fun t6 => (cond (t6) (cond (inb x5 (List.length x1)) (cond (okLen (List.length x4 + List.length [(⟨(⟨((List.getD x1 (Int.toNat x5) Spyxref21_Let.zero).f_K).f_Group, ((List.getD x1 (Int.toNat x5) Spyxref21_Let.zero).f_K).f_Line, ((List.getD x1 (Int.toNat x5) Spyxref21_Let.zero).f_K).f_Period, ((List.getD x1 (Int.toNat x5) Spyxref21_Let.zero).f_K).f_Version⟩ : Spyxref21_Key), (List.getD x1 (Int.toNat x5) Spyxref21_Let.zero).f_Rule, (⟨((List.getD x1 (Int.toNat x5) Spyxref21_Let.zero).f_Value).f_Neg, ((((List.getD x1 (Int.toNat x5) Spyxref21_Let.zero).f_Value).f_C).1, (((List.getD x1 (Int.toNat x5) Spyxref21_Let.zero).f_Value).f_C).2), ((List.getD x1 (Int.toNat x5) Spyxref21_Let.zero).f_Value).f_Scale⟩ : Sapi_Dec), (⟨((List.getD x1 (Int.toNat x5) Spyxref21_Let.zero).f_To).f_Set, ((List.getD x1 (Int.toNat x5) Spyxref21_Let.zero).f_To).f_Level⟩ : Sapi_Label)⟩ : Spyxref21_Let)]) 88) (some (x4 ++ [(⟨(⟨((List.getD x1 (Int.toNat x5) Spyxref21_Let.zero).f_K).f_Group, ((List.getD x1 (Int.toNat x5) Spyxref21_Let.zero).f_K).f_Line, ((List.getD x1 (Int.toNat x5) Spyxref21_Let.zero).f_K).f_Period, ((List.getD x1 (Int.toNat x5) Spyxref21_Let.zero).f_K).f_Version⟩ : Spyxref21_Key), (List.getD x1 (Int.toNat x5) Spyxref21_Let.zero).f_Rule, (⟨((List.getD x1 (Int.toNat x5) Spyxref21_Let.zero).f_Value).f_Neg, ((((List.getD x1 (Int.toNat x5) Spyxref21_Let.zero).f_Value).f_C).1, (((List.getD x1 (Int.toNat x5) Spyxref21_Let.zero).f_Value).f_C).2), ((List.getD x1 (Int.toNat x5) Spyxref21_Let.zero).f_Value).f_Scale⟩ : Sapi_Dec), (⟨((List.getD x1 (Int.toNat x5) Spyxref21_Let.zero).f_To).f_Set, ((List.getD x1 (Int.toNat x5) Spyxref21_Let.zero).f_To).f_Level⟩ : Sapi_Label)⟩ : Spyxref21_Let)], x5, x1, x2, x3)) none) none) (some (x4, x5, x1, x2, x3)))) none) : Option (List Spyxref21_Let × Int × List Spyxref21_Let × Int × Int)).bind fun y12 => (some (.inl (y12.1, IntKind.wrap .i64 (y12.2.1 + 1), y12.2.2.1, y12.2.2.2.1, y12.2.2.2.2)))) (some (.inr (x4, x1)))
noncomputable def pyxref21_Gate_Seen.f (k : Nat) (a0 : Spyxref21_Gate) (a1 : Sapi_Label) : Option (List Spyxref21_Let × Spyxref21_Gate) := (iter (pyxref21_Gate_Seen.l3.once k) k (([] : List Spyxref21_Let), 0, a0.f_L, a1.f_Set, a1.f_Level)).bind fun y15 => (some (y15.1, (⟨y15.2⟩ : Spyxref21_Gate)))
noncomputable def pyxref21_Gate_Seen.un (s : St U) : Option (Spyxref21_Gate × Sapi_Label) := match s.get 0, lk s.o 7000000000000, s.get 1, s.get 1000000000000000 with | .ptr 7000000000000 0, some (.lit [x2]), .agg [.flat (.int .u64 x3), .flat (.int .i64 x4)], .ptr 7000000000000 0 => (tip_Spyxref21_Let s.o 11 x2).bind fun ex1 => (some ((⟨ex1.2⟩ : Spyxref21_Gate), (⟨x3, x4⟩ : Sapi_Label))) | _, _, _, _ => none
noncomputable def pyxref21_Gate_Seen.mk (x : (Spyxref21_Gate × Sapi_Label)) : St U := ⟨[(0, .ptr 7000000000000 0), (1, .agg [.flat (.int .u64 x.2.f_Set), .flat (.int .i64 x.2.f_Level)]), (1000000000000000, .ptr 7000000000000 0)], [(7000000000000, .lit [.tip 7000000000001 C.Spyxref21_Let x.1.f_L]), (7000000000001, .tip 11)]⟩
noncomputable def pyxref21_Gate_Seen.fin (y : (List Spyxref21_Let × Spyxref21_Gate)) : St U := ⟨[(0, .row C.Spyxref21_Let y.1), (1000000000000000, .ptr 7000000000000 0)], [(7000000000000, .lit [.tip 7000000000001 C.Spyxref21_Let y.2.f_L]), (7000000000001, .tip 11)]⟩
noncomputable def pyxref21_Gate_Seen.D (k : Nat) : FDen U := { X := (Spyxref21_Gate × Sapi_Label), Y := (List Spyxref21_Let × Spyxref21_Gate), nt := 37, gh := [0], un := pyxref21_Gate_Seen.un, f := fun x => pyxref21_Gate_Seen.f k (x.1) (x.2), fin := pyxref21_Gate_Seen.fin, cl := false, clo := fun h => by cases h }
noncomputable def pyxref21_Gate_Seen.re (s : St U) : Option (List Spyxref21_Let × Spyxref21_Gate) := match s.get 0, s.get 1000000000000000, lk s.o 7000000000000 with | .row C.Spyxref21_Let x1, .ptr 7000000000000 0, some (.lit [x3]) => (tip_Spyxref21_Let s.o 11 x3).bind fun ex2 => (some (x1, (⟨ex2.2⟩ : Spyxref21_Gate))) | _, _, _ => none
noncomputable def pyxref21_Gate_Seen.l3.mk (x : (List Spyxref21_Let × Int × List Spyxref21_Let × Int × Int)) : St U := match x with | (x4, x5, x1, x2, x3) => ⟨[(0, .ptr 7000000000000 0), (3, .ptr 3 0), (1000000000000000, .ptr 7000000000000 0), (5, .tip 1003005 C.Spyxref21_Let x4), (6, .flat (.int .i64 x5))], [(7000000000000, .lit [.tip 700002000300000 C.Spyxref21_Let x1]), (700002000300000, .tip 11), (3, .lit [.flat (.int .u64 x2), .flat (.int .i64 x3)]), (1003005, .tip 11)]⟩
noncomputable def pyxref21_Gate_Seen.l3.un (s : St U) : Option (List Spyxref21_Let × Int × List Spyxref21_Let × Int × Int) := (tip_Spyxref21_Let s.o 11 (s.get 5)).bind fun q0 => (match s.get 0, s.get 3, s.get 1000000000000000, s.get 6, lk s.o 7000000000000, lk s.o 3 with | .ptr 7000000000000 0, .ptr 3 0, .ptr 7000000000000 0, .flat (.int .i64 x5), some (.lit [u7000000000000_0]), some (.lit [.flat (.int .u64 x2), .flat (.int .i64 x3)]) => (tip_Spyxref21_Let s.o 11 u7000000000000_0).bind fun w7000000000000_0 => (cond (apart [q0.1, w7000000000000_0.1]) (some (q0.2, x5, w7000000000000_0.2, x2, x3)) none) | _, _, _, _, _, _ => none)
noncomputable def pyxref21_Gate_Seen.l3.fin (y : (List Spyxref21_Let × List Spyxref21_Let)) : Out U := match y with | (x13, x14) => .exit 0 ⟨[(1000000000000000, .ptr 7000000000000 0), (5, .tip 1003005 C.Spyxref21_Let x13)], [(1003005, .tip 11), (7000000000000, .lit [.tip 700002000300000 C.Spyxref21_Let x14]), (700002000300000, .tip 11)]⟩
noncomputable def pyxref21_Gate_Seen.l3.finK {ρ : Type} (y : (List Spyxref21_Let × List Spyxref21_Let)) (K : Out U → Option ρ) : Option ρ := match y with | (x13, x14) => K (.exit 0 ⟨[(1000000000000000, .ptr 7000000000000 0), (5, .tip 1003005 C.Spyxref21_Let x13)], [(1003005, .tip 11), (7000000000000, .lit [.tip 700002000300000 C.Spyxref21_Let x14]), (700002000300000, .tip 11)]⟩)
theorem pyxref21_Gate_Seen.l3.finK_eq {ρ : Type} (y : (List Spyxref21_Let × List Spyxref21_Let)) (K : Out U → Option ρ) : pyxref21_Gate_Seen.l3.finK y K = K (pyxref21_Gate_Seen.l3.fin y) := by
  unfold pyxref21_Gate_Seen.l3.finK pyxref21_Gate_Seen.l3.fin
  first | rfl | (split <;> rfl)
noncomputable def pyxref21_Gate_Seen.l3.re : Out U → Option ((List Spyxref21_Let × List Spyxref21_Let)) | .exit 0 s => ((tip_Spyxref21_Let s.o 11 (s.get 5)).bind fun q0 => (match s.get 1000000000000000, lk s.o 7000000000000 with | .ptr 7000000000000 0, some (.lit [u7000000000000_0]) => (tip_Spyxref21_Let s.o 11 u7000000000000_0).bind fun w7000000000000_0 => (cond (apart [q0.1, w7000000000000_0.1]) (some (q0.2, w7000000000000_0.2)) none) | _, _ => none)) | _ => none
noncomputable def pyxref21_Gate_Seen.l3.L (k : Nat) : LDen U := { X := (List Spyxref21_Let × Int × List Spyxref21_Let × Int × Int), Y := (List Spyxref21_Let × List Spyxref21_Let), un := pyxref21_Gate_Seen.l3.un, f := iter (pyxref21_Gate_Seen.l3.once k) k, fin := pyxref21_Gate_Seen.l3.fin, finK := pyxref21_Gate_Seen.l3.finK, finK_eq := pyxref21_Gate_Seen.l3.finK_eq }
noncomputable def pyxref21_Gate_Seen.j5001.fin (y : (List Spyxref21_Let × Int × List Spyxref21_Let × Int × Int)) : Out U := match y with | (x10, x11, x7, x8, x9) => .norm ⟨[(0, .ptr 7000000000000 0), (3, .ptr 3 0), (1000000000000000, .ptr 7000000000000 0), (5, .tip 1006001005 C.Spyxref21_Let x10), (6, .flat (.int .i64 x11))], [(7000000000000, .lit [.tip 700102500100000 C.Spyxref21_Let x7]), (700102500100000, .tip 11), (3, .lit [.flat (.int .u64 x8), .flat (.int .i64 x9)]), (1006001005, .tip 11)]⟩
noncomputable def pyxref21_Gate_Seen.j5001.finK {ρ : Type} (y : (List Spyxref21_Let × Int × List Spyxref21_Let × Int × Int)) (K : Out U → Option ρ) : Option ρ := match y with | (x10, x11, x7, x8, x9) => K (.norm ⟨[(0, .ptr 7000000000000 0), (3, .ptr 3 0), (1000000000000000, .ptr 7000000000000 0), (5, .tip 1006001005 C.Spyxref21_Let x10), (6, .flat (.int .i64 x11))], [(7000000000000, .lit [.tip 700102500100000 C.Spyxref21_Let x7]), (700102500100000, .tip 11), (3, .lit [.flat (.int .u64 x8), .flat (.int .i64 x9)]), (1006001005, .tip 11)]⟩)
theorem pyxref21_Gate_Seen.j5001.finK_eq {ρ : Type} (y : (List Spyxref21_Let × Int × List Spyxref21_Let × Int × Int)) (K : Out U → Option ρ) : pyxref21_Gate_Seen.j5001.finK y K = K (pyxref21_Gate_Seen.j5001.fin y) := by
  unfold pyxref21_Gate_Seen.j5001.finK pyxref21_Gate_Seen.j5001.fin
  first | rfl | (split <;> rfl)
noncomputable def pyxref21_Gate_Seen.j5001.re : Out U → Option ((List Spyxref21_Let × Int × List Spyxref21_Let × Int × Int)) | .norm s => ((tip_Spyxref21_Let s.o 11 (s.get 5)).bind fun q0 => (match s.get 0, s.get 3, s.get 1000000000000000, s.get 6, lk s.o 7000000000000, lk s.o 3 with | .ptr 7000000000000 0, .ptr 3 0, .ptr 7000000000000 0, .flat (.int .i64 x11), some (.lit [u7000000000000_0]), some (.lit [.flat (.int .u64 x8), .flat (.int .i64 x9)]) => (tip_Spyxref21_Let s.o 11 u7000000000000_0).bind fun w7000000000000_0 => (cond (apart [q0.1, w7000000000000_0.1]) (some (q0.2, x11, w7000000000000_0.2, x8, x9)) none) | _, _, _, _, _, _ => none)) | _ => none
noncomputable def pyxref21_Gate_Seen.j5001.J : JDen U := { Y := (List Spyxref21_Let × Int × List Spyxref21_Let × Int × Int), re := pyxref21_Gate_Seen.j5001.re, fin := pyxref21_Gate_Seen.j5001.fin, finK := pyxref21_Gate_Seen.j5001.finK, finK_eq := pyxref21_Gate_Seen.j5001.finK_eq }
theorem pyxref21_Gate_Seen.j5001.fit (o : Out U) (y : (List Spyxref21_Let × Int × List Spyxref21_Let × Int × Int)) (h : pyxref21_Gate_Seen.j5001.re o = some y) : FitsO o (pyxref21_Gate_Seen.j5001.fin y) := by
  unfold pyxref21_Gate_Seen.j5001.re at h
  split at h
  · obtain ⟨q0, eq0, h1⟩ := Option.bind_eq_some_iff.1 h
    split at h1
    · obtain ⟨w7000000000000_0, ew7000000000000_0, h2⟩ := Option.bind_eq_some_iff.1 h1
      obtain ⟨hap, h3⟩ := cond_none h2
      cases h3
      refine fitsO_norm (fits_ren [(1006001005, q0.1), (700102500100000, w7000000000000_0.1)] ?_ ?_ (ren_apart hap) rfl)
      · exact List.forall_mem_cons.2 ⟨FV.one (FV.ptr (by assumption)), List.forall_mem_cons.2 ⟨FV.one (FV.ptr (by assumption)), List.forall_mem_cons.2 ⟨FV.one (FV.ptr (by assumption)), List.forall_mem_cons.2 ⟨FV.one (tip_Spyxref21_Let_fit eq0 rfl).1, List.forall_mem_cons.2 ⟨FV.one (FV.same (by assumption) rfl), fun _ hp => (List.not_mem_nil hp).elim⟩⟩⟩⟩⟩
      · exact List.forall_mem_cons.2 ⟨(FO.cells (show lk (St.o _) 7000000000000 = some _ from by assumption) (FCs.cons ((tip_Spyxref21_Let_fit ew7000000000000_0 rfl).1) (FCs.nil))), List.forall_mem_cons.2 ⟨(tip_Spyxref21_Let_fit ew7000000000000_0 rfl).2, List.forall_mem_cons.2 ⟨(FO.same (show lk (St.o _) 3 = some _ from by assumption) rfl), List.forall_mem_cons.2 ⟨(tip_Spyxref21_Let_fit eq0 rfl).2, fun _ hp => (List.not_mem_nil hp).elim⟩⟩⟩⟩
    · cases h1
  · cases h
noncomputable def pyxref21_Gate_Seen.jl : List (Nat × JDen U) := [(5001, pyxref21_Gate_Seen.j5001.J)]
noncomputable def pyxref21_Gate_Seen.fl (k : Nat) : List (Nat × FDen U) := [(65, pyxref4_Below.D k)]
noncomputable def pyxref21_Gate_Seen.ll (k : Nat) : List (Nat × LDen U) := [(3, pyxref21_Gate_Seen.l3.L k)]
noncomputable def pyxref21_Gate_Seen.E (k : Nat) : Env U := { P := Try.prog, D := DD, fd := lk (pyxref21_Gate_Seen.fl k), ld := lk (pyxref21_Gate_Seen.ll k), jd := lk pyxref21_Gate_Seen.jl, mode := lk [], elc := lk ec, mpc := lk mc, rts := Try.f26.resultTypes.toList, dyn := fun t => false, vecs := fun d => false, results := Try.f26.results.toList, gh := [0], own := false, io := fun g i => false }
theorem pyxref21_Gate_Seen.ok (k : Nat) : EnvOk (pyxref21_Gate_Seen.E k) := envOk lawful (pyxref21_Gate_Seen.fl k) (pyxref21_Gate_Seen.ll k) pyxref21_Gate_Seen.jl _ _ _ _ _ _ _ _ _ _ (by
  intro p hp
  simp only [pyxref21_Gate_Seen.fl, List.mem_cons, List.not_mem_nil, or_false] at hp
  rcases hp with rfl
  · exact ⟨pyxref4_Below.sound k, enter_of Try.func65 (by kernel_rfl) (by kernel_rfl)⟩) (by
  intro p hp
  simp only [pyxref21_Gate_Seen.jl, List.mem_cons, List.not_mem_nil, or_false] at hp
  rcases hp with rfl
  · exact pyxref21_Gate_Seen.j5001.fit)
theorem pyxref21_Gate_Seen.l3.eq (k : Nat) (x : (List Spyxref21_Let × Int × List Spyxref21_Let × Int × Int)) : evC (pyxref21_Gate_Seen.E k) (loopAt Try.f26 3) (pyxref21_Gate_Seen.l3.mk x) (headK pyxref21_Gate_Seen.l3.un pyxref21_Gate_Seen.l3.re) = pyxref21_Gate_Seen.l3.once k x := by kernel_rfl
theorem pyxref21_Gate_Seen.l3.fit (s : St U) (x : (List Spyxref21_Let × Int × List Spyxref21_Let × Int × Int)) (h : pyxref21_Gate_Seen.l3.un s = some x) : Fits s (pyxref21_Gate_Seen.l3.mk x) := by
  unfold pyxref21_Gate_Seen.l3.un at h
  obtain ⟨q0, eq0, h1⟩ := Option.bind_eq_some_iff.1 h
  split at h1
  · obtain ⟨w7000000000000_0, ew7000000000000_0, h2⟩ := Option.bind_eq_some_iff.1 h1
    obtain ⟨hap, h3⟩ := cond_none h2
    cases h3
    refine fits_ren [(1003005, q0.1), (700002000300000, w7000000000000_0.1)] ?_ ?_ (ren_apart hap) rfl
    · exact List.forall_mem_cons.2 ⟨FV.one (FV.ptr (by assumption)), List.forall_mem_cons.2 ⟨FV.one (FV.ptr (by assumption)), List.forall_mem_cons.2 ⟨FV.one (FV.ptr (by assumption)), List.forall_mem_cons.2 ⟨FV.one (tip_Spyxref21_Let_fit eq0 rfl).1, List.forall_mem_cons.2 ⟨FV.one (FV.same (by assumption) rfl), fun _ hp => (List.not_mem_nil hp).elim⟩⟩⟩⟩⟩
    · exact List.forall_mem_cons.2 ⟨(FO.cells (show lk (St.o _) 7000000000000 = some _ from by assumption) (FCs.cons ((tip_Spyxref21_Let_fit ew7000000000000_0 rfl).1) (FCs.nil))), List.forall_mem_cons.2 ⟨(tip_Spyxref21_Let_fit ew7000000000000_0 rfl).2, List.forall_mem_cons.2 ⟨(FO.same (show lk (St.o _) 3 = some _ from by assumption) rfl), List.forall_mem_cons.2 ⟨(tip_Spyxref21_Let_fit eq0 rfl).2, fun _ hp => (List.not_mem_nil hp).elim⟩⟩⟩⟩
  · cases h1
theorem pyxref21_Gate_Seen.l3.fitO (o : Out U) (y : (List Spyxref21_Let × List Spyxref21_Let)) (h : pyxref21_Gate_Seen.l3.re o = some y) : FitsO o (pyxref21_Gate_Seen.l3.fin y) := by
  unfold pyxref21_Gate_Seen.l3.re at h
  split at h
  · obtain ⟨q0, eq0, h1⟩ := Option.bind_eq_some_iff.1 h
    split at h1
    · obtain ⟨w7000000000000_0, ew7000000000000_0, h2⟩ := Option.bind_eq_some_iff.1 h1
      obtain ⟨hap, h3⟩ := cond_none h2
      cases h3
      refine fitsO_exit (fits_ren [(1003005, q0.1), (700002000300000, w7000000000000_0.1)] ?_ ?_ (ren_apart hap) rfl)
      · exact List.forall_mem_cons.2 ⟨FV.one (FV.ptr (by assumption)), List.forall_mem_cons.2 ⟨FV.one (tip_Spyxref21_Let_fit eq0 rfl).1, fun _ hp => (List.not_mem_nil hp).elim⟩⟩
      · exact List.forall_mem_cons.2 ⟨(tip_Spyxref21_Let_fit eq0 rfl).2, List.forall_mem_cons.2 ⟨(FO.cells (show lk (St.o _) 7000000000000 = some _ from by assumption) (FCs.cons ((tip_Spyxref21_Let_fit ew7000000000000_0 rfl).1) (FCs.nil))), List.forall_mem_cons.2 ⟨(tip_Spyxref21_Let_fit ew7000000000000_0 rfl).2, fun _ hp => (List.not_mem_nil hp).elim⟩⟩⟩
    · cases h1
  · cases h
theorem pyxref21_Gate_Seen.l3.sound (k : Nat) : LSound (pyxref21_Gate_Seen.E k) Try.f26.ntmps Try.f26 (loopAt Try.f26 3) (pyxref21_Gate_Seen.l3.L k) :=
  loop_sound (pyxref21_Gate_Seen.ok k) mixed rfl (by kernel_rfl) (allL_of (l := []) (by kernel_rfl) allL_nil) pyxref21_Gate_Seen.l3.un pyxref21_Gate_Seen.l3.mk pyxref21_Gate_Seen.l3.fin pyxref21_Gate_Seen.l3.re (pyxref21_Gate_Seen.l3.once k) k pyxref21_Gate_Seen.l3.fit pyxref21_Gate_Seen.l3.fitO (pyxref21_Gate_Seen.l3.eq k) pyxref21_Gate_Seen.l3.finK pyxref21_Gate_Seen.l3.finK_eq
theorem pyxref21_Gate_Seen.eq (k : Nat) (x : (Spyxref21_Gate × Sapi_Label)) : runF (pyxref21_Gate_Seen.E k) (codeOf Try.f26) (pyxref21_Gate_Seen.mk x) pyxref21_Gate_Seen.re = (pyxref21_Gate_Seen.D k).f x := by kernel_rfl
theorem pyxref21_Gate_Seen.fit (s : St U) (x : (Spyxref21_Gate × Sapi_Label)) (h : pyxref21_Gate_Seen.un s = some x) : Fits s (pyxref21_Gate_Seen.mk x) := by
  unfold pyxref21_Gate_Seen.un at h
  split at h
  · obtain ⟨ex1, hex1, hh1⟩ := Option.bind_eq_some_iff.1 h
    cases hh1
    refine fits_ren [(7000000000001, ex1.1)] ?_ ?_ ren_one rfl
    · exact List.forall_mem_cons.2 ⟨FV.one (FV.ptr (by assumption)), List.forall_mem_cons.2 ⟨FV.one (FV.same (by assumption) rfl), List.forall_mem_cons.2 ⟨FV.one (FV.ptr (by assumption)), fun _ hp => (List.not_mem_nil hp).elim⟩⟩⟩
    · exact List.forall_mem_cons.2 ⟨FO.cells (show lk (St.o _) 7000000000000 = some _ from by assumption) (FCs.cons ((tip_Spyxref21_Let_fit hex1 rfl).1) (FCs.nil)), List.forall_mem_cons.2 ⟨(tip_Spyxref21_Let_fit hex1 rfl).2, fun _ hp => (List.not_mem_nil hp).elim⟩⟩
  · cases h
theorem pyxref21_Gate_Seen.fitR (s : St U) (y : (List Spyxref21_Let × Spyxref21_Gate)) (h : pyxref21_Gate_Seen.re s = some y) : Fits s (pyxref21_Gate_Seen.fin y) := by
  unfold pyxref21_Gate_Seen.re at h
  split at h
  · obtain ⟨ex2, hex2, hh1⟩ := Option.bind_eq_some_iff.1 h
    cases hh1
    refine fits_ren [(7000000000001, ex2.1)] ?_ ?_ ren_one rfl
    · exact List.forall_mem_cons.2 ⟨FV.one (FV.same (by assumption) rfl), List.forall_mem_cons.2 ⟨FV.one (FV.ptr (by assumption)), fun _ hp => (List.not_mem_nil hp).elim⟩⟩
    · exact List.forall_mem_cons.2 ⟨FO.cells (show lk (St.o _) 7000000000000 = some _ from by assumption) (FCs.cons ((tip_Spyxref21_Let_fit hex2 rfl).1) (FCs.nil)), List.forall_mem_cons.2 ⟨(tip_Spyxref21_Let_fit hex2 rfl).2, fun _ hp => (List.not_mem_nil hp).elim⟩⟩
  · cases h
theorem pyxref21_Gate_Seen.sound (k : Nat) : Sound Try.prog DD 26 (pyxref21_Gate_Seen.D k) :=
  fun_sound (E := pyxref21_Gate_Seen.E k) (fn := Try.f26) (c := codeOf Try.f26) (pyxref21_Gate_Seen.ok k) mixed rfl Try.func26 (by kernel_rfl) (by kernel_rfl) (allL_of (l := [loopAt Try.f26 3]) (by kernel_rfl) (allL_cons (key := 3) (by kernel_rfl) rfl (pyxref21_Gate_Seen.l3.sound k) allL_nil)) (pyxref21_Gate_Seen.D k) pyxref21_Gate_Seen.mk pyxref21_Gate_Seen.re (by kernel_rfl) (by kernel_rfl) pyxref21_Gate_Seen.fit pyxref21_Gate_Seen.fitR (pyxref21_Gate_Seen.eq k)
/-! ### pyx/pyxlaw25.GateTells: function 4 -/
noncomputable def pyxlaw25_GateTells.l6.once (k : Nat) (x : (Int × Int × List Spyxlaw25_Raw × Int × Int × List Sgate_Out × List (Sgate_Key × Int) × List Spyxref21_Let)) : Option ((Int × Int × List Spyxlaw25_Raw × Int × Int × List Sgate_Out × List (Sgate_Key × Int) × List Spyxref21_Let) ⊕ ((Int × Int × List Sgate_Out × List (Sgate_Key × Int) × List Spyxref21_Let) ⊕ Bool)) := match x with | (x11, x12, x16, x17, x18, x13, x14, x15) => cond (decide (x18 < x17)) (cond (inb x18 (List.length x16)) ((pyxhand_Dec.f k ((List.getD x16 (Int.toNat x18) Spyxlaw25_Raw.zero).f_N) ((List.getD x16 (Int.toNat x18) Spyxlaw25_Raw.zero).f_Scale) ((List.getD x16 (Int.toNat x18) Spyxlaw25_Raw.zero).f_Bend)).bind fun t19 => ((pyxlaw25_rule.f k (⟨(List.getD x16 (Int.toNat x18) Spyxlaw25_Raw.zero).f_Group, (List.getD x16 (Int.toNat x18) Spyxlaw25_Raw.zero).f_Line, (List.getD x16 (Int.toNat x18) Spyxlaw25_Raw.zero).f_Period, (List.getD x16 (Int.toNat x18) Spyxlaw25_Raw.zero).f_Version, (List.getD x16 (Int.toNat x18) Spyxlaw25_Raw.zero).f_Unit, (List.getD x16 (Int.toNat x18) Spyxlaw25_Raw.zero).f_To, (List.getD x16 (Int.toNat x18) Spyxlaw25_Raw.zero).f_N, (List.getD x16 (Int.toNat x18) Spyxlaw25_Raw.zero).f_Scale, (List.getD x16 (Int.toNat x18) Spyxlaw25_Raw.zero).f_Bend⟩ : Spyxlaw25_Raw)).bind fun t20 => ((pyxlaw25_key.f k (⟨(List.getD x16 (Int.toNat x18) Spyxlaw25_Raw.zero).f_Group, (List.getD x16 (Int.toNat x18) Spyxlaw25_Raw.zero).f_Line, (List.getD x16 (Int.toNat x18) Spyxlaw25_Raw.zero).f_Period, (List.getD x16 (Int.toNat x18) Spyxlaw25_Raw.zero).f_Version, (List.getD x16 (Int.toNat x18) Spyxlaw25_Raw.zero).f_Unit, (List.getD x16 (Int.toNat x18) Spyxlaw25_Raw.zero).f_To, (List.getD x16 (Int.toNat x18) Spyxlaw25_Raw.zero).f_N, (List.getD x16 (Int.toNat x18) Spyxlaw25_Raw.zero).f_Scale, (List.getD x16 (Int.toNat x18) Spyxlaw25_Raw.zero).f_Bend⟩ : Spyxlaw25_Raw)).bind fun t21 => ((gate_Gate_Release.f k (⟨x13, x14⟩ : Sgate_Gate) (⟨t20.f_Tag, t20.f_Role, t20.f_Verb, t20.f_Ent, t20.f_Group, t20.f_Line, (⟨t20.f_Unit.f_Neg, (t20.f_Unit.f_C.1, t20.f_Unit.f_C.2), t20.f_Unit.f_Scale⟩ : Sapi_Dec), (⟨t20.f_To.f_Set, t20.f_To.f_Level⟩ : Sapi_Label)⟩ : Sapi_Rule) x18 (⟨t21.f_Group, t21.f_Line, t21.f_Period, t21.f_Version⟩ : Sgate_Key) (⟨t19.f_Neg, (t19.f_C.1, t19.f_C.2), t19.f_Scale⟩ : Sapi_Dec)).bind fun t22 => ((pyxlaw25_rule.f k (⟨(List.getD x16 (Int.toNat x18) Spyxlaw25_Raw.zero).f_Group, (List.getD x16 (Int.toNat x18) Spyxlaw25_Raw.zero).f_Line, (List.getD x16 (Int.toNat x18) Spyxlaw25_Raw.zero).f_Period, (List.getD x16 (Int.toNat x18) Spyxlaw25_Raw.zero).f_Version, (List.getD x16 (Int.toNat x18) Spyxlaw25_Raw.zero).f_Unit, (List.getD x16 (Int.toNat x18) Spyxlaw25_Raw.zero).f_To, (List.getD x16 (Int.toNat x18) Spyxlaw25_Raw.zero).f_N, (List.getD x16 (Int.toNat x18) Spyxlaw25_Raw.zero).f_Scale, (List.getD x16 (Int.toNat x18) Spyxlaw25_Raw.zero).f_Bend⟩ : Spyxlaw25_Raw)).bind fun t23 => ((pyxlaw25_key.f k (⟨(List.getD x16 (Int.toNat x18) Spyxlaw25_Raw.zero).f_Group, (List.getD x16 (Int.toNat x18) Spyxlaw25_Raw.zero).f_Line, (List.getD x16 (Int.toNat x18) Spyxlaw25_Raw.zero).f_Period, (List.getD x16 (Int.toNat x18) Spyxlaw25_Raw.zero).f_Version, (List.getD x16 (Int.toNat x18) Spyxlaw25_Raw.zero).f_Unit, (List.getD x16 (Int.toNat x18) Spyxlaw25_Raw.zero).f_To, (List.getD x16 (Int.toNat x18) Spyxlaw25_Raw.zero).f_N, (List.getD x16 (Int.toNat x18) Spyxlaw25_Raw.zero).f_Scale, (List.getD x16 (Int.toNat x18) Spyxlaw25_Raw.zero).f_Bend⟩ : Spyxlaw25_Raw)).bind fun t24 => ((pyxref21_Gate_Release.f k (⟨x15⟩ : Spyxref21_Gate) (⟨t23.f_Tag, t23.f_Role, t23.f_Verb, t23.f_Ent, t23.f_Group, t23.f_Line, (⟨t23.f_Unit.f_Neg, (t23.f_Unit.f_C.1, t23.f_Unit.f_C.2), t23.f_Unit.f_Scale⟩ : Sapi_Dec), (⟨t23.f_To.f_Set, t23.f_To.f_Level⟩ : Sapi_Label)⟩ : Sapi_Rule) x18 (⟨t24.f_Group, t24.f_Line, t24.f_Period, t24.f_Version⟩ : Spyxref21_Key) (⟨t19.f_Neg, (t19.f_C.1, t19.f_C.2), t19.f_Scale⟩ : Sapi_Dec)).bind fun t25 => (((cond (!((t22.1.f_Neg == t25.1.f_Neg) && ((t22.1.f_C.1 == t25.1.f_C.1) && ((t22.1.f_C.2 == t25.1.f_C.2) && (t22.1.f_Scale == t25.1.f_Scale))))) (some (x11, x12, x16, x17, x18, true, t22.2.2.2.f_l, t22.2.2.2.f_at, t25.2.2.2.f_L)) (cond (!(t22.2.1 == t25.2.1)) (some (x11, x12, x16, x17, x18, true, t22.2.2.2.f_l, t22.2.2.2.f_at, t25.2.2.2.f_L)) (some (x11, x12, x16, x17, x18, t22.2.2.1 != t25.2.2.1, t22.2.2.2.f_l, t22.2.2.2.f_at, t25.2.2.2.f_L)))) : Option (Int × Int × List Spyxlaw25_Raw × Int × Int × Bool × List Sgate_Out × List (Sgate_Key × Int) × List Spyxref21_Let)).bind fun y35 => (cond (y35.2.2.2.2.2.1) (some (.inr (.inr false))) (some (.inl (y35.1, y35.2.1, y35.2.2.1, y35.2.2.2.1, IntKind.wrap .i64 (y35.2.2.2.2.1 + 1), y35.2.2.2.2.2.2.1, y35.2.2.2.2.2.2.2.1, y35.2.2.2.2.2.2.2.2)))))))))))) none) (some (.inr (.inl (x11, x12, x13, x14, x15))))
noncomputable def pyxlaw25_GateTells.l21.once (k : Nat) (x : (List Sgate_Out × List Sgate_Out × List Spyxref21_Let × Int × Int × List Spyxref21_Let)) : Option ((List Sgate_Out × List Sgate_Out × List Spyxref21_Let × Int × Int × List Spyxref21_Let) ⊕ ((List Sgate_Out × List Spyxref21_Let) ⊕ Bool)) := match x with | (x55, x56, x57, x58, x59, x54) => cond (decide (x59 < x58)) (((cond (inb x59 (List.length x55)) (cond (inb x59 (List.length x54)) (cond (!(((((List.getD x55 (Int.toNat x59) Sgate_Out.zero).f_K).f_Group) == (((List.getD x54 (Int.toNat x59) Spyxref21_Let.zero).f_K).f_Group)) && (((((List.getD x55 (Int.toNat x59) Sgate_Out.zero).f_K).f_Line) == (((List.getD x54 (Int.toNat x59) Spyxref21_Let.zero).f_K).f_Line)) && (((((List.getD x55 (Int.toNat x59) Sgate_Out.zero).f_K).f_Period) == (((List.getD x54 (Int.toNat x59) Spyxref21_Let.zero).f_K).f_Period)) && ((((List.getD x55 (Int.toNat x59) Sgate_Out.zero).f_K).f_Version) == (((List.getD x54 (Int.toNat x59) Spyxref21_Let.zero).f_K).f_Version)))))) (some (x55, x56, x57, x58, x59, true, x54)) (cond (inb x59 (List.length x55)) (cond (inb x59 (List.length x54)) (cond (((List.getD x55 (Int.toNat x59) Sgate_Out.zero).f_Rule) != ((List.getD x54 (Int.toNat x59) Spyxref21_Let.zero).f_Rule)) (some (x55, x56, x57, x58, x59, true, x54)) (cond (inb x59 (List.length x55)) (cond (inb x59 (List.length x54)) (cond (!(((((List.getD x55 (Int.toNat x59) Sgate_Out.zero).f_Value).f_Neg) == (((List.getD x54 (Int.toNat x59) Spyxref21_Let.zero).f_Value).f_Neg)) && ((((((List.getD x55 (Int.toNat x59) Sgate_Out.zero).f_Value).f_C).1) == ((((List.getD x54 (Int.toNat x59) Spyxref21_Let.zero).f_Value).f_C).1)) && ((((((List.getD x55 (Int.toNat x59) Sgate_Out.zero).f_Value).f_C).2) == ((((List.getD x54 (Int.toNat x59) Spyxref21_Let.zero).f_Value).f_C).2)) && ((((List.getD x55 (Int.toNat x59) Sgate_Out.zero).f_Value).f_Scale) == (((List.getD x54 (Int.toNat x59) Spyxref21_Let.zero).f_Value).f_Scale)))))) (some (x55, x56, x57, x58, x59, true, x54)) (cond (inb x59 (List.length x55)) (cond (inb x59 (List.length x54)) (some (x55, x56, x57, x58, x59, !(((((List.getD x55 (Int.toNat x59) Sgate_Out.zero).f_To).f_Set) == (((List.getD x54 (Int.toNat x59) Spyxref21_Let.zero).f_To).f_Set)) && ((((List.getD x55 (Int.toNat x59) Sgate_Out.zero).f_To).f_Level) == (((List.getD x54 (Int.toNat x59) Spyxref21_Let.zero).f_To).f_Level))), x54)) none) none)) none) none)) none) none)) none) none) : Option (List Sgate_Out × List Sgate_Out × List Spyxref21_Let × Int × Int × Bool × List Spyxref21_Let)).bind fun y67 => (cond (y67.2.2.2.2.2.1) (some (.inr (.inr false))) (some (.inl (y67.1, y67.2.1, y67.2.2.1, y67.2.2.2.1, IntKind.wrap .i64 (y67.2.2.2.2.1 + 1), y67.2.2.2.2.2.2))))) (some (.inr (.inl (x56, x57))))
noncomputable def pyxlaw25_GateTells.l27.once (k : Nat) (x : (List Sgate_Out × List Spyxref21_Let × Int × Int)) : Option ((List Sgate_Out × List Spyxref21_Let × Int × Int) ⊕ (Unit ⊕ Bool)) := match x with | (x72, x73, x74, x75) => cond (decide (x75 < x74)) (((cond (inb x75 (List.length x72)) (cond (inb x75 (List.length x73)) (cond (!(((((List.getD x72 (Int.toNat x75) Sgate_Out.zero).f_K).f_Group) == (((List.getD x73 (Int.toNat x75) Spyxref21_Let.zero).f_K).f_Group)) && (((((List.getD x72 (Int.toNat x75) Sgate_Out.zero).f_K).f_Line) == (((List.getD x73 (Int.toNat x75) Spyxref21_Let.zero).f_K).f_Line)) && (((((List.getD x72 (Int.toNat x75) Sgate_Out.zero).f_K).f_Period) == (((List.getD x73 (Int.toNat x75) Spyxref21_Let.zero).f_K).f_Period)) && ((((List.getD x72 (Int.toNat x75) Sgate_Out.zero).f_K).f_Version) == (((List.getD x73 (Int.toNat x75) Spyxref21_Let.zero).f_K).f_Version)))))) (some (x72, x73, x74, x75, true)) (cond (inb x75 (List.length x72)) (cond (inb x75 (List.length x73)) (some (x72, x73, x74, x75, !(((((List.getD x72 (Int.toNat x75) Sgate_Out.zero).f_Value).f_Neg) == (((List.getD x73 (Int.toNat x75) Spyxref21_Let.zero).f_Value).f_Neg)) && ((((((List.getD x72 (Int.toNat x75) Sgate_Out.zero).f_Value).f_C).1) == ((((List.getD x73 (Int.toNat x75) Spyxref21_Let.zero).f_Value).f_C).1)) && ((((((List.getD x72 (Int.toNat x75) Sgate_Out.zero).f_Value).f_C).2) == ((((List.getD x73 (Int.toNat x75) Spyxref21_Let.zero).f_Value).f_C).2)) && ((((List.getD x72 (Int.toNat x75) Sgate_Out.zero).f_Value).f_Scale) == (((List.getD x73 (Int.toNat x75) Spyxref21_Let.zero).f_Value).f_Scale))))))) none) none)) none) none) : Option (List Sgate_Out × List Spyxref21_Let × Int × Int × Bool)).bind fun y81 => (cond (y81.2.2.2.2) (some (.inr (.inr false))) (some (.inl (y81.1, y81.2.1, y81.2.2.1, IntKind.wrap .i64 (y81.2.2.2.1 + 1)))))) (some (.inr (.inl ())))
noncomputable def pyxlaw25_GateTells.f (k : Nat) (a0 : List Spyxlaw25_Raw) (a1 : Int) (a2 : Int) : Option Bool := (gate_New.f k).bind fun t1 => ((((pyxlaw25_known.f k).bind fun t2 => (cond (!t2) (some (a0, a1, a2, true, t1.f_l, t1.f_at, ([] : List Spyxref21_Let))) (some (a0, a1, a2, false, t1.f_l, t1.f_at, ([] : List Spyxref21_Let))))) : Option (List Spyxlaw25_Raw × Int × Int × Bool × List Sgate_Out × List (Sgate_Key × Int) × List Spyxref21_Let)).bind fun y10 => (cond (y10.2.2.2.1) (some false) ((iter (pyxlaw25_GateTells.l6.once k) k (y10.2.1, y10.2.2.1, y10.1, (List.length y10.1 : Int), 0, y10.2.2.2.2.1, y10.2.2.2.2.2.1, y10.2.2.2.2.2.2)).bind fun | .inl y42 => ((pyxhand_Pick.f k y42.1 4).bind fun t43 => ((pyxhand_Pick.f k y42.2.1 4).bind fun t44 => ((gate_Gate_Log.f k (⟨y42.2.2.1, y42.2.2.2.1⟩ : Sgate_Gate)).bind fun t45 => ((gate_Gate_Seen.f k (⟨t45.2.f_l, t45.2.f_at⟩ : Sgate_Gate) (⟨IntKind.wrap .u64 (t43), t44⟩ : Sapi_Label)).bind fun t46 => ((pyxref21_Gate_Seen.f k (⟨y42.2.2.2.2⟩ : Spyxref21_Gate) (⟨IntKind.wrap .u64 (t43), t44⟩ : Sapi_Label)).bind fun t47 => (((cond ((List.length t45.1 : Int) != (List.length t47.2.f_L : Int)) (some (t45.1, t46.1, t47.1, true, t47.2.f_L)) (some (t45.1, t46.1, t47.1, (List.length t46.1 : Int) != (List.length t47.1 : Int), t47.2.f_L))) : Option (List Sgate_Out × List Sgate_Out × List Spyxref21_Let × Bool × List Spyxref21_Let)).bind fun y53 => (cond (y53.2.2.2.1) (some false) ((iter (pyxlaw25_GateTells.l21.once k) k (y53.1, y53.2.1, y53.2.2.1, (List.length y53.1 : Int), 0, y53.2.2.2.2)).bind fun | .inl y71 => ((iter (pyxlaw25_GateTells.l27.once k) k (y71.1, y71.2, (List.length y71.1 : Int), 0)).bind fun | .inl y83 => (some true) | .inr y84 => (some y84)) | .inr y85 => (some y85))))))))) | .inr y86 => (some y86))))
noncomputable def pyxlaw25_GateTells.un (s : St U) : Option (List Spyxlaw25_Raw × Int × Int) := match s.get 0, s.get 1, s.get 2 with | .row C.Spyxlaw25_Raw x1, .flat (.int .i64 x2), .flat (.int .i64 x3) => some (x1, x2, x3) | _, _, _ => none
noncomputable def pyxlaw25_GateTells.mk (x : (List Spyxlaw25_Raw × Int × Int)) : St U := ⟨[(0, .row C.Spyxlaw25_Raw x.1), (1, .flat (.int .i64 x.2.1)), (2, .flat (.int .i64 x.2.2))], []⟩
noncomputable def pyxlaw25_GateTells.fin (y : Bool) : St U := ⟨[(0, .flat (.bool y))], []⟩
noncomputable def pyxlaw25_GateTells.D (k : Nat) : FDen U := { X := (List Spyxlaw25_Raw × Int × Int), Y := Bool, nt := 212, gh := [], un := pyxlaw25_GateTells.un, f := fun x => pyxlaw25_GateTells.f k (x.1) (x.2.1) (x.2.2), fin := pyxlaw25_GateTells.fin, cl := true, clo := fun _ _ => rfl }
noncomputable def pyxlaw25_GateTells.re (s : St U) : Option Bool := match s.get 0 with | .flat (.bool x1) => some x1 | _ => none
noncomputable def pyxlaw25_GateTells.l6.mk (x : (Int × Int × List Spyxlaw25_Raw × Int × Int × List Sgate_Out × List (Sgate_Key × Int) × List Spyxref21_Let)) : St U := match x with | (x11, x12, x16, x17, x18, x13, x14, x15) => ⟨[(7, .ptr 250000000000003 0), (8, .ptr 26 0), (1, .flat (.int .i64 x11)), (2, .flat (.int .i64 x12)), (33, .row C.Spyxlaw25_Raw x16), (34, .flat (.int .i64 x17)), (35, .flat (.int .i64 x18))], [(250000000000003, .lit [.tip 25000002000600300 C.Sgate_Out x13, .mp 25000002000600301]), (25000002000600300, .tip 11), (25000002000600301, .map true true false C.Sgate_Key C.i64 x14), (26, .lit [.tip 2000602600 C.Spyxref21_Let x15]), (2000602600, .tip 11)]⟩
noncomputable def pyxlaw25_GateTells.l6.un (s : St U) : Option (Int × Int × List Spyxlaw25_Raw × Int × Int × List Sgate_Out × List (Sgate_Key × Int) × List Spyxref21_Let) := (row_Spyxlaw25_Raw (s.get 33)).bind fun q0 => (match s.get 7, s.get 8, s.get 1, s.get 2, s.get 34, s.get 35, lk s.o 250000000000003, lk s.o 26 with | .ptr 250000000000003 0, .ptr 26 0, .flat (.int .i64 x11), .flat (.int .i64 x12), .flat (.int .i64 x17), .flat (.int .i64 x18), some (.lit [u250000000000003_0, u250000000000003_1]), some (.lit [u26_0]) => (tip_Sgate_Out s.o 11 u250000000000003_0).bind fun w250000000000003_0 => ((map_Sgate_Key_i64_t s.o u250000000000003_1).bind fun w250000000000003_1 => ((tip_Spyxref21_Let s.o 11 u26_0).bind fun w26_0 => (cond (apart [w250000000000003_0.1, w250000000000003_1.1, w26_0.1]) (some (x11, x12, q0, x17, x18, w250000000000003_0.2, w250000000000003_1.2, w26_0.2)) none))) | _, _, _, _, _, _, _, _ => none)
noncomputable def pyxlaw25_GateTells.l6.fin (y : (Int × Int × List Sgate_Out × List (Sgate_Key × Int) × List Spyxref21_Let) ⊕ Bool) : Out U := match y with | .inl (x36, x37, x38, x39, x40) => .exit 0 ⟨[(7, .ptr 250000000000003 0), (8, .ptr 26 0), (1, .flat (.int .i64 x36)), (2, .flat (.int .i64 x37))], [(250000000000003, .lit [.tip 25000002000600300 C.Sgate_Out x38, .mp 25000002000600301]), (25000002000600300, .tip 11), (25000002000600301, .map true true false C.Sgate_Key C.i64 x39), (26, .lit [.tip 2000602600 C.Spyxref21_Let x40]), (2000602600, .tip 11)]⟩ | .inr z => .ret (⟨[(0, .flat (.bool z))], []⟩)
noncomputable def pyxlaw25_GateTells.l6.finK {ρ : Type} (y : (Int × Int × List Sgate_Out × List (Sgate_Key × Int) × List Spyxref21_Let) ⊕ Bool) (K : Out U → Option ρ) : Option ρ := match y with | .inl (x36, x37, x38, x39, x40) => K (.exit 0 ⟨[(7, .ptr 250000000000003 0), (8, .ptr 26 0), (1, .flat (.int .i64 x36)), (2, .flat (.int .i64 x37))], [(250000000000003, .lit [.tip 25000002000600300 C.Sgate_Out x38, .mp 25000002000600301]), (25000002000600300, .tip 11), (25000002000600301, .map true true false C.Sgate_Key C.i64 x39), (26, .lit [.tip 2000602600 C.Spyxref21_Let x40]), (2000602600, .tip 11)]⟩) | .inr z => K (.ret (⟨[(0, .flat (.bool z))], []⟩))
theorem pyxlaw25_GateTells.l6.finK_eq {ρ : Type} (y : (Int × Int × List Sgate_Out × List (Sgate_Key × Int) × List Spyxref21_Let) ⊕ Bool) (K : Out U → Option ρ) : pyxlaw25_GateTells.l6.finK y K = K (pyxlaw25_GateTells.l6.fin y) := by
  unfold pyxlaw25_GateTells.l6.finK pyxlaw25_GateTells.l6.fin
  first | rfl | (split <;> rfl)
noncomputable def pyxlaw25_GateTells.l6.re : Out U → Option ((Int × Int × List Sgate_Out × List (Sgate_Key × Int) × List Spyxref21_Let) ⊕ Bool) | .exit 0 s => (match s.get 7, s.get 8, s.get 1, s.get 2, lk s.o 250000000000003, lk s.o 26 with | .ptr 250000000000003 0, .ptr 26 0, .flat (.int .i64 x36), .flat (.int .i64 x37), some (.lit [u250000000000003_0, u250000000000003_1]), some (.lit [u26_0]) => (tip_Sgate_Out s.o 11 u250000000000003_0).bind fun w250000000000003_0 => ((map_Sgate_Key_i64_t s.o u250000000000003_1).bind fun w250000000000003_1 => ((tip_Spyxref21_Let s.o 11 u26_0).bind fun w26_0 => (cond (apart [w250000000000003_0.1, w250000000000003_1.1, w26_0.1]) (some (.inl (x36, x37, w250000000000003_0.2, w250000000000003_1.2, w26_0.2))) none))) | _, _, _, _, _, _ => none) | .ret s => (match s.get 0 with | .flat (.bool x1) => some (.inr x1) | _ => none) | _ => none
noncomputable def pyxlaw25_GateTells.l6.L (k : Nat) : LDen U := { X := (Int × Int × List Spyxlaw25_Raw × Int × Int × List Sgate_Out × List (Sgate_Key × Int) × List Spyxref21_Let), Y := (Int × Int × List Sgate_Out × List (Sgate_Key × Int) × List Spyxref21_Let) ⊕ Bool, un := pyxlaw25_GateTells.l6.un, f := iter (pyxlaw25_GateTells.l6.once k) k, fin := pyxlaw25_GateTells.l6.fin, finK := pyxlaw25_GateTells.l6.finK, finK_eq := pyxlaw25_GateTells.l6.finK_eq }
noncomputable def pyxlaw25_GateTells.l21.mk (x : (List Sgate_Out × List Sgate_Out × List Spyxref21_Let × Int × Int × List Spyxref21_Let)) : St U := match x with | (x55, x56, x57, x58, x59, x54) => ⟨[(8, .ptr 26 0), (19, .row C.Sgate_Out x55), (20, .row C.Sgate_Out x56), (21, .row C.Spyxref21_Let x57), (115, .flat (.int .i64 x58)), (116, .flat (.int .i64 x59))], [(26, .lit [.tip 2002102600 C.Spyxref21_Let x54]), (2002102600, .tip 11)]⟩
noncomputable def pyxlaw25_GateTells.l21.un (s : St U) : Option (List Sgate_Out × List Sgate_Out × List Spyxref21_Let × Int × Int × List Spyxref21_Let) := (row_Sgate_Out (s.get 19)).bind fun q0 => ((row_Sgate_Out (s.get 20)).bind fun q1 => ((row_Spyxref21_Let (s.get 21)).bind fun q2 => (match s.get 8, s.get 115, s.get 116, lk s.o 26 with | .ptr 26 0, .flat (.int .i64 x58), .flat (.int .i64 x59), some (.lit [u26_0]) => (tip_Spyxref21_Let s.o 11 u26_0).bind fun w26_0 => (some (q0, q1, q2, x58, x59, w26_0.2)) | _, _, _, _ => none)))
noncomputable def pyxlaw25_GateTells.l21.fin (y : (List Sgate_Out × List Spyxref21_Let) ⊕ Bool) : Out U := match y with | .inl (x68, x69) => .exit 2 ⟨[(20, .row C.Sgate_Out x68), (21, .row C.Spyxref21_Let x69)], []⟩ | .inr z => .ret (⟨[(0, .flat (.bool z))], []⟩)
noncomputable def pyxlaw25_GateTells.l21.finK {ρ : Type} (y : (List Sgate_Out × List Spyxref21_Let) ⊕ Bool) (K : Out U → Option ρ) : Option ρ := match y with | .inl (x68, x69) => K (.exit 2 ⟨[(20, .row C.Sgate_Out x68), (21, .row C.Spyxref21_Let x69)], []⟩) | .inr z => K (.ret (⟨[(0, .flat (.bool z))], []⟩))
theorem pyxlaw25_GateTells.l21.finK_eq {ρ : Type} (y : (List Sgate_Out × List Spyxref21_Let) ⊕ Bool) (K : Out U → Option ρ) : pyxlaw25_GateTells.l21.finK y K = K (pyxlaw25_GateTells.l21.fin y) := by
  unfold pyxlaw25_GateTells.l21.finK pyxlaw25_GateTells.l21.fin
  first | rfl | (split <;> rfl)
noncomputable def pyxlaw25_GateTells.l21.re : Out U → Option ((List Sgate_Out × List Spyxref21_Let) ⊕ Bool) | .exit 2 s => ((row_Sgate_Out (s.get 20)).bind fun q0 => ((row_Spyxref21_Let (s.get 21)).bind fun q1 => (some (.inl (q0, q1))))) | .ret s => (match s.get 0 with | .flat (.bool x1) => some (.inr x1) | _ => none) | _ => none
noncomputable def pyxlaw25_GateTells.l21.L (k : Nat) : LDen U := { X := (List Sgate_Out × List Sgate_Out × List Spyxref21_Let × Int × Int × List Spyxref21_Let), Y := (List Sgate_Out × List Spyxref21_Let) ⊕ Bool, un := pyxlaw25_GateTells.l21.un, f := iter (pyxlaw25_GateTells.l21.once k) k, fin := pyxlaw25_GateTells.l21.fin, finK := pyxlaw25_GateTells.l21.finK, finK_eq := pyxlaw25_GateTells.l21.finK_eq }
noncomputable def pyxlaw25_GateTells.l27.mk (x : (List Sgate_Out × List Spyxref21_Let × Int × Int)) : St U := match x with | (x72, x73, x74, x75) => ⟨[(20, .row C.Sgate_Out x72), (21, .row C.Spyxref21_Let x73), (183, .flat (.int .i64 x74)), (184, .flat (.int .i64 x75))], []⟩
noncomputable def pyxlaw25_GateTells.l27.un (s : St U) : Option (List Sgate_Out × List Spyxref21_Let × Int × Int) := (row_Sgate_Out (s.get 20)).bind fun q0 => ((row_Spyxref21_Let (s.get 21)).bind fun q1 => (match s.get 183, s.get 184 with | .flat (.int .i64 x74), .flat (.int .i64 x75) => some (q0, q1, x74, x75) | _, _ => none))
noncomputable def pyxlaw25_GateTells.l27.fin (y : Unit ⊕ Bool) : Out U := match y with | .inl () => .exit 4 ⟨[], []⟩ | .inr z => .ret (⟨[(0, .flat (.bool z))], []⟩)
noncomputable def pyxlaw25_GateTells.l27.finK {ρ : Type} (y : Unit ⊕ Bool) (K : Out U → Option ρ) : Option ρ := match y with | .inl () => K (.exit 4 ⟨[], []⟩) | .inr z => K (.ret (⟨[(0, .flat (.bool z))], []⟩))
theorem pyxlaw25_GateTells.l27.finK_eq {ρ : Type} (y : Unit ⊕ Bool) (K : Out U → Option ρ) : pyxlaw25_GateTells.l27.finK y K = K (pyxlaw25_GateTells.l27.fin y) := by
  unfold pyxlaw25_GateTells.l27.finK pyxlaw25_GateTells.l27.fin
  first | rfl | (split <;> rfl)
noncomputable def pyxlaw25_GateTells.l27.re : Out U → Option (Unit ⊕ Bool) | .exit 4 s => (some (.inl ())) | .ret s => (match s.get 0 with | .flat (.bool x1) => some (.inr x1) | _ => none) | _ => none
noncomputable def pyxlaw25_GateTells.l27.L (k : Nat) : LDen U := { X := (List Sgate_Out × List Spyxref21_Let × Int × Int), Y := Unit ⊕ Bool, un := pyxlaw25_GateTells.l27.un, f := iter (pyxlaw25_GateTells.l27.once k) k, fin := pyxlaw25_GateTells.l27.fin, finK := pyxlaw25_GateTells.l27.finK, finK_eq := pyxlaw25_GateTells.l27.finK_eq }
noncomputable def pyxlaw25_GateTells.j3000.fin (y : (List Spyxlaw25_Raw × Int × Int × Bool × List Sgate_Out × List (Sgate_Key × Int) × List Spyxref21_Let)) : Out U := match y with | (x3, x4, x5, x9, x6, x7, x8) => .norm ⟨[(7, .ptr 250000000000003 0), (8, .ptr 26 0), (0, .row C.Spyxlaw25_Raw x3), (1, .flat (.int .i64 x4)), (2, .flat (.int .i64 x5)), (32, .flat (.bool x9))], [(250000000000003, .lit [.tip 25000102300000300 C.Sgate_Out x6, .mp 25000102300000301]), (25000102300000300, .tip 11), (25000102300000301, .map true true false C.Sgate_Key C.i64 x7), (26, .lit [.tip 102300002600 C.Spyxref21_Let x8]), (102300002600, .tip 11)]⟩
noncomputable def pyxlaw25_GateTells.j3000.finK {ρ : Type} (y : (List Spyxlaw25_Raw × Int × Int × Bool × List Sgate_Out × List (Sgate_Key × Int) × List Spyxref21_Let)) (K : Out U → Option ρ) : Option ρ := match y with | (x3, x4, x5, x9, x6, x7, x8) => K (.norm ⟨[(7, .ptr 250000000000003 0), (8, .ptr 26 0), (0, .row C.Spyxlaw25_Raw x3), (1, .flat (.int .i64 x4)), (2, .flat (.int .i64 x5)), (32, .flat (.bool x9))], [(250000000000003, .lit [.tip 25000102300000300 C.Sgate_Out x6, .mp 25000102300000301]), (25000102300000300, .tip 11), (25000102300000301, .map true true false C.Sgate_Key C.i64 x7), (26, .lit [.tip 102300002600 C.Spyxref21_Let x8]), (102300002600, .tip 11)]⟩)
theorem pyxlaw25_GateTells.j3000.finK_eq {ρ : Type} (y : (List Spyxlaw25_Raw × Int × Int × Bool × List Sgate_Out × List (Sgate_Key × Int) × List Spyxref21_Let)) (K : Out U → Option ρ) : pyxlaw25_GateTells.j3000.finK y K = K (pyxlaw25_GateTells.j3000.fin y) := by
  unfold pyxlaw25_GateTells.j3000.finK pyxlaw25_GateTells.j3000.fin
  first | rfl | (split <;> rfl)
noncomputable def pyxlaw25_GateTells.j3000.re : Out U → Option ((List Spyxlaw25_Raw × Int × Int × Bool × List Sgate_Out × List (Sgate_Key × Int) × List Spyxref21_Let)) | .norm s => ((row_Spyxlaw25_Raw (s.get 0)).bind fun q0 => (match s.get 7, s.get 8, s.get 1, s.get 2, s.get 32, lk s.o 250000000000003, lk s.o 26 with | .ptr 250000000000003 0, .ptr 26 0, .flat (.int .i64 x4), .flat (.int .i64 x5), .flat (.bool x9), some (.lit [u250000000000003_0, u250000000000003_1]), some (.lit [u26_0]) => (tip_Sgate_Out s.o 11 u250000000000003_0).bind fun w250000000000003_0 => ((map_Sgate_Key_i64_t s.o u250000000000003_1).bind fun w250000000000003_1 => ((tip_Spyxref21_Let s.o 11 u26_0).bind fun w26_0 => (cond (apart [w250000000000003_0.1, w250000000000003_1.1, w26_0.1]) (some (q0, x4, x5, x9, w250000000000003_0.2, w250000000000003_1.2, w26_0.2)) none))) | _, _, _, _, _, _, _ => none)) | _ => none
noncomputable def pyxlaw25_GateTells.j3000.J : JDen U := { Y := (List Spyxlaw25_Raw × Int × Int × Bool × List Sgate_Out × List (Sgate_Key × Int) × List Spyxref21_Let), re := pyxlaw25_GateTells.j3000.re, fin := pyxlaw25_GateTells.j3000.fin, finK := pyxlaw25_GateTells.j3000.finK, finK_eq := pyxlaw25_GateTells.j3000.finK_eq }
theorem pyxlaw25_GateTells.j3000.fit (o : Out U) (y : (List Spyxlaw25_Raw × Int × Int × Bool × List Sgate_Out × List (Sgate_Key × Int) × List Spyxref21_Let)) (h : pyxlaw25_GateTells.j3000.re o = some y) : FitsO o (pyxlaw25_GateTells.j3000.fin y) := by
  unfold pyxlaw25_GateTells.j3000.re at h
  split at h
  · obtain ⟨q0, eq0, h1⟩ := Option.bind_eq_some_iff.1 h
    split at h1
    · obtain ⟨w250000000000003_0, ew250000000000003_0, h2⟩ := Option.bind_eq_some_iff.1 h1
      obtain ⟨w250000000000003_1, ew250000000000003_1, h3⟩ := Option.bind_eq_some_iff.1 h2
      obtain ⟨w26_0, ew26_0, h4⟩ := Option.bind_eq_some_iff.1 h3
      obtain ⟨hap, h5⟩ := cond_none h4
      cases h5
      refine fitsO_norm (fits_ren [(25000102300000300, w250000000000003_0.1), (25000102300000301, w250000000000003_1.1), (102300002600, w26_0.1)] ?_ ?_ (ren_apart hap) rfl)
      · exact List.forall_mem_cons.2 ⟨FV.one (FV.ptr (by assumption)), List.forall_mem_cons.2 ⟨FV.one (FV.ptr (by assumption)), List.forall_mem_cons.2 ⟨FV.one (row_Spyxlaw25_Raw_fit eq0), List.forall_mem_cons.2 ⟨FV.one (FV.same (by assumption) rfl), List.forall_mem_cons.2 ⟨FV.one (FV.same (by assumption) rfl), List.forall_mem_cons.2 ⟨FV.one (FV.same (by assumption) rfl), fun _ hp => (List.not_mem_nil hp).elim⟩⟩⟩⟩⟩⟩
      · exact List.forall_mem_cons.2 ⟨(FO.cells (show lk (St.o _) 250000000000003 = some _ from by assumption) (FCs.cons ((tip_Sgate_Out_fit ew250000000000003_0 rfl).1) (FCs.cons ((map_Sgate_Key_i64_t_fit ew250000000000003_1 rfl).1) (FCs.nil)))), List.forall_mem_cons.2 ⟨(tip_Sgate_Out_fit ew250000000000003_0 rfl).2, List.forall_mem_cons.2 ⟨(map_Sgate_Key_i64_t_fit ew250000000000003_1 rfl).2, List.forall_mem_cons.2 ⟨(FO.cells (show lk (St.o _) 26 = some _ from by assumption) (FCs.cons ((tip_Spyxref21_Let_fit ew26_0 rfl).1) (FCs.nil))), List.forall_mem_cons.2 ⟨(tip_Spyxref21_Let_fit ew26_0 rfl).2, fun _ hp => (List.not_mem_nil hp).elim⟩⟩⟩⟩⟩
    · cases h1
  · cases h
noncomputable def pyxlaw25_GateTells.j11000.fin (y : (Int × Int × List Spyxlaw25_Raw × Int × Int × Bool × List Sgate_Out × List (Sgate_Key × Int) × List Spyxref21_Let)) : Out U := match y with | (x26, x27, x31, x32, x33, x34, x28, x29, x30) => .norm ⟨[(7, .ptr 250000000000003 0), (8, .ptr 26 0), (1, .flat (.int .i64 x26)), (2, .flat (.int .i64 x27)), (33, .row C.Spyxlaw25_Raw x31), (34, .flat (.int .i64 x32)), (35, .flat (.int .i64 x33)), (83, .flat (.bool x34))], [(250000000000003, .lit [.tip 25000103100000300 C.Sgate_Out x28, .mp 25000103100000301]), (25000103100000300, .tip 11), (25000103100000301, .map true true false C.Sgate_Key C.i64 x29), (26, .lit [.tip 103100002600 C.Spyxref21_Let x30]), (103100002600, .tip 11)]⟩
noncomputable def pyxlaw25_GateTells.j11000.finK {ρ : Type} (y : (Int × Int × List Spyxlaw25_Raw × Int × Int × Bool × List Sgate_Out × List (Sgate_Key × Int) × List Spyxref21_Let)) (K : Out U → Option ρ) : Option ρ := match y with | (x26, x27, x31, x32, x33, x34, x28, x29, x30) => K (.norm ⟨[(7, .ptr 250000000000003 0), (8, .ptr 26 0), (1, .flat (.int .i64 x26)), (2, .flat (.int .i64 x27)), (33, .row C.Spyxlaw25_Raw x31), (34, .flat (.int .i64 x32)), (35, .flat (.int .i64 x33)), (83, .flat (.bool x34))], [(250000000000003, .lit [.tip 25000103100000300 C.Sgate_Out x28, .mp 25000103100000301]), (25000103100000300, .tip 11), (25000103100000301, .map true true false C.Sgate_Key C.i64 x29), (26, .lit [.tip 103100002600 C.Spyxref21_Let x30]), (103100002600, .tip 11)]⟩)
theorem pyxlaw25_GateTells.j11000.finK_eq {ρ : Type} (y : (Int × Int × List Spyxlaw25_Raw × Int × Int × Bool × List Sgate_Out × List (Sgate_Key × Int) × List Spyxref21_Let)) (K : Out U → Option ρ) : pyxlaw25_GateTells.j11000.finK y K = K (pyxlaw25_GateTells.j11000.fin y) := by
  unfold pyxlaw25_GateTells.j11000.finK pyxlaw25_GateTells.j11000.fin
  first | rfl | (split <;> rfl)
noncomputable def pyxlaw25_GateTells.j11000.re : Out U → Option ((Int × Int × List Spyxlaw25_Raw × Int × Int × Bool × List Sgate_Out × List (Sgate_Key × Int) × List Spyxref21_Let)) | .norm s => ((row_Spyxlaw25_Raw (s.get 33)).bind fun q0 => (match s.get 7, s.get 8, s.get 1, s.get 2, s.get 34, s.get 35, s.get 83, lk s.o 250000000000003, lk s.o 26 with | .ptr 250000000000003 0, .ptr 26 0, .flat (.int .i64 x26), .flat (.int .i64 x27), .flat (.int .i64 x32), .flat (.int .i64 x33), .flat (.bool x34), some (.lit [u250000000000003_0, u250000000000003_1]), some (.lit [u26_0]) => (tip_Sgate_Out s.o 11 u250000000000003_0).bind fun w250000000000003_0 => ((map_Sgate_Key_i64_t s.o u250000000000003_1).bind fun w250000000000003_1 => ((tip_Spyxref21_Let s.o 11 u26_0).bind fun w26_0 => (cond (apart [w250000000000003_0.1, w250000000000003_1.1, w26_0.1]) (some (x26, x27, q0, x32, x33, x34, w250000000000003_0.2, w250000000000003_1.2, w26_0.2)) none))) | _, _, _, _, _, _, _, _, _ => none)) | _ => none
noncomputable def pyxlaw25_GateTells.j11000.J : JDen U := { Y := (Int × Int × List Spyxlaw25_Raw × Int × Int × Bool × List Sgate_Out × List (Sgate_Key × Int) × List Spyxref21_Let), re := pyxlaw25_GateTells.j11000.re, fin := pyxlaw25_GateTells.j11000.fin, finK := pyxlaw25_GateTells.j11000.finK, finK_eq := pyxlaw25_GateTells.j11000.finK_eq }
theorem pyxlaw25_GateTells.j11000.fit (o : Out U) (y : (Int × Int × List Spyxlaw25_Raw × Int × Int × Bool × List Sgate_Out × List (Sgate_Key × Int) × List Spyxref21_Let)) (h : pyxlaw25_GateTells.j11000.re o = some y) : FitsO o (pyxlaw25_GateTells.j11000.fin y) := by
  unfold pyxlaw25_GateTells.j11000.re at h
  split at h
  · obtain ⟨q0, eq0, h1⟩ := Option.bind_eq_some_iff.1 h
    split at h1
    · obtain ⟨w250000000000003_0, ew250000000000003_0, h2⟩ := Option.bind_eq_some_iff.1 h1
      obtain ⟨w250000000000003_1, ew250000000000003_1, h3⟩ := Option.bind_eq_some_iff.1 h2
      obtain ⟨w26_0, ew26_0, h4⟩ := Option.bind_eq_some_iff.1 h3
      obtain ⟨hap, h5⟩ := cond_none h4
      cases h5
      refine fitsO_norm (fits_ren [(25000103100000300, w250000000000003_0.1), (25000103100000301, w250000000000003_1.1), (103100002600, w26_0.1)] ?_ ?_ (ren_apart hap) rfl)
      · exact List.forall_mem_cons.2 ⟨FV.one (FV.ptr (by assumption)), List.forall_mem_cons.2 ⟨FV.one (FV.ptr (by assumption)), List.forall_mem_cons.2 ⟨FV.one (FV.same (by assumption) rfl), List.forall_mem_cons.2 ⟨FV.one (FV.same (by assumption) rfl), List.forall_mem_cons.2 ⟨FV.one (row_Spyxlaw25_Raw_fit eq0), List.forall_mem_cons.2 ⟨FV.one (FV.same (by assumption) rfl), List.forall_mem_cons.2 ⟨FV.one (FV.same (by assumption) rfl), List.forall_mem_cons.2 ⟨FV.one (FV.same (by assumption) rfl), fun _ hp => (List.not_mem_nil hp).elim⟩⟩⟩⟩⟩⟩⟩⟩
      · exact List.forall_mem_cons.2 ⟨(FO.cells (show lk (St.o _) 250000000000003 = some _ from by assumption) (FCs.cons ((tip_Sgate_Out_fit ew250000000000003_0 rfl).1) (FCs.cons ((map_Sgate_Key_i64_t_fit ew250000000000003_1 rfl).1) (FCs.nil)))), List.forall_mem_cons.2 ⟨(tip_Sgate_Out_fit ew250000000000003_0 rfl).2, List.forall_mem_cons.2 ⟨(map_Sgate_Key_i64_t_fit ew250000000000003_1 rfl).2, List.forall_mem_cons.2 ⟨(FO.cells (show lk (St.o _) 26 = some _ from by assumption) (FCs.cons ((tip_Spyxref21_Let_fit ew26_0 rfl).1) (FCs.nil))), List.forall_mem_cons.2 ⟨(tip_Spyxref21_Let_fit ew26_0 rfl).2, fun _ hp => (List.not_mem_nil hp).elim⟩⟩⟩⟩⟩
    · cases h1
  · cases h
noncomputable def pyxlaw25_GateTells.j18000.fin (y : (List Sgate_Out × List Sgate_Out × List Spyxref21_Let × Bool × List Spyxref21_Let)) : Out U := match y with | (x49, x50, x51, x52, x48) => .norm ⟨[(8, .ptr 26 0), (19, .row C.Sgate_Out x49), (20, .row C.Sgate_Out x50), (21, .row C.Spyxref21_Let x51), (113, .flat (.bool x52))], [(26, .lit [.tip 103800002600 C.Spyxref21_Let x48]), (103800002600, .tip 11)]⟩
noncomputable def pyxlaw25_GateTells.j18000.finK {ρ : Type} (y : (List Sgate_Out × List Sgate_Out × List Spyxref21_Let × Bool × List Spyxref21_Let)) (K : Out U → Option ρ) : Option ρ := match y with | (x49, x50, x51, x52, x48) => K (.norm ⟨[(8, .ptr 26 0), (19, .row C.Sgate_Out x49), (20, .row C.Sgate_Out x50), (21, .row C.Spyxref21_Let x51), (113, .flat (.bool x52))], [(26, .lit [.tip 103800002600 C.Spyxref21_Let x48]), (103800002600, .tip 11)]⟩)
theorem pyxlaw25_GateTells.j18000.finK_eq {ρ : Type} (y : (List Sgate_Out × List Sgate_Out × List Spyxref21_Let × Bool × List Spyxref21_Let)) (K : Out U → Option ρ) : pyxlaw25_GateTells.j18000.finK y K = K (pyxlaw25_GateTells.j18000.fin y) := by
  unfold pyxlaw25_GateTells.j18000.finK pyxlaw25_GateTells.j18000.fin
  first | rfl | (split <;> rfl)
noncomputable def pyxlaw25_GateTells.j18000.re : Out U → Option ((List Sgate_Out × List Sgate_Out × List Spyxref21_Let × Bool × List Spyxref21_Let)) | .norm s => ((row_Sgate_Out (s.get 19)).bind fun q0 => ((row_Sgate_Out (s.get 20)).bind fun q1 => ((row_Spyxref21_Let (s.get 21)).bind fun q2 => (match s.get 8, s.get 113, lk s.o 26 with | .ptr 26 0, .flat (.bool x52), some (.lit [u26_0]) => (tip_Spyxref21_Let s.o 11 u26_0).bind fun w26_0 => (some (q0, q1, q2, x52, w26_0.2)) | _, _, _ => none)))) | _ => none
noncomputable def pyxlaw25_GateTells.j18000.J : JDen U := { Y := (List Sgate_Out × List Sgate_Out × List Spyxref21_Let × Bool × List Spyxref21_Let), re := pyxlaw25_GateTells.j18000.re, fin := pyxlaw25_GateTells.j18000.fin, finK := pyxlaw25_GateTells.j18000.finK, finK_eq := pyxlaw25_GateTells.j18000.finK_eq }
theorem pyxlaw25_GateTells.j18000.fit (o : Out U) (y : (List Sgate_Out × List Sgate_Out × List Spyxref21_Let × Bool × List Spyxref21_Let)) (h : pyxlaw25_GateTells.j18000.re o = some y) : FitsO o (pyxlaw25_GateTells.j18000.fin y) := by
  unfold pyxlaw25_GateTells.j18000.re at h
  split at h
  · obtain ⟨q0, eq0, h1⟩ := Option.bind_eq_some_iff.1 h
    obtain ⟨q1, eq1, h2⟩ := Option.bind_eq_some_iff.1 h1
    obtain ⟨q2, eq2, h3⟩ := Option.bind_eq_some_iff.1 h2
    split at h3
    · obtain ⟨w26_0, ew26_0, h4⟩ := Option.bind_eq_some_iff.1 h3
      cases h4
      refine fitsO_norm (fits_ren [(103800002600, w26_0.1)] ?_ ?_ ren_one rfl)
      · exact List.forall_mem_cons.2 ⟨FV.one (FV.ptr (by assumption)), List.forall_mem_cons.2 ⟨FV.one (row_Sgate_Out_fit eq0), List.forall_mem_cons.2 ⟨FV.one (row_Sgate_Out_fit eq1), List.forall_mem_cons.2 ⟨FV.one (row_Spyxref21_Let_fit eq2), List.forall_mem_cons.2 ⟨FV.one (FV.same (by assumption) rfl), fun _ hp => (List.not_mem_nil hp).elim⟩⟩⟩⟩⟩
      · exact List.forall_mem_cons.2 ⟨(FO.cells (show lk (St.o _) 26 = some _ from by assumption) (FCs.cons ((tip_Spyxref21_Let_fit ew26_0 rfl).1) (FCs.nil))), List.forall_mem_cons.2 ⟨(tip_Spyxref21_Let_fit ew26_0 rfl).2, fun _ hp => (List.not_mem_nil hp).elim⟩⟩
    · cases h3
  · cases h
noncomputable def pyxlaw25_GateTells.j23000.fin (y : (List Sgate_Out × List Sgate_Out × List Spyxref21_Let × Int × Int × Bool × List Spyxref21_Let)) : Out U := match y with | (x61, x62, x63, x64, x65, x66, x60) => .norm ⟨[(8, .ptr 26 0), (19, .row C.Sgate_Out x61), (20, .row C.Sgate_Out x62), (21, .row C.Spyxref21_Let x63), (115, .flat (.int .i64 x64)), (116, .flat (.int .i64 x65)), (180, .flat (.bool x66))], [(26, .lit [.tip 104300002600 C.Spyxref21_Let x60]), (104300002600, .tip 11)]⟩
noncomputable def pyxlaw25_GateTells.j23000.finK {ρ : Type} (y : (List Sgate_Out × List Sgate_Out × List Spyxref21_Let × Int × Int × Bool × List Spyxref21_Let)) (K : Out U → Option ρ) : Option ρ := match y with | (x61, x62, x63, x64, x65, x66, x60) => K (.norm ⟨[(8, .ptr 26 0), (19, .row C.Sgate_Out x61), (20, .row C.Sgate_Out x62), (21, .row C.Spyxref21_Let x63), (115, .flat (.int .i64 x64)), (116, .flat (.int .i64 x65)), (180, .flat (.bool x66))], [(26, .lit [.tip 104300002600 C.Spyxref21_Let x60]), (104300002600, .tip 11)]⟩)
theorem pyxlaw25_GateTells.j23000.finK_eq {ρ : Type} (y : (List Sgate_Out × List Sgate_Out × List Spyxref21_Let × Int × Int × Bool × List Spyxref21_Let)) (K : Out U → Option ρ) : pyxlaw25_GateTells.j23000.finK y K = K (pyxlaw25_GateTells.j23000.fin y) := by
  unfold pyxlaw25_GateTells.j23000.finK pyxlaw25_GateTells.j23000.fin
  first | rfl | (split <;> rfl)
noncomputable def pyxlaw25_GateTells.j23000.re : Out U → Option ((List Sgate_Out × List Sgate_Out × List Spyxref21_Let × Int × Int × Bool × List Spyxref21_Let)) | .norm s => ((row_Sgate_Out (s.get 19)).bind fun q0 => ((row_Sgate_Out (s.get 20)).bind fun q1 => ((row_Spyxref21_Let (s.get 21)).bind fun q2 => (match s.get 8, s.get 115, s.get 116, s.get 180, lk s.o 26 with | .ptr 26 0, .flat (.int .i64 x64), .flat (.int .i64 x65), .flat (.bool x66), some (.lit [u26_0]) => (tip_Spyxref21_Let s.o 11 u26_0).bind fun w26_0 => (some (q0, q1, q2, x64, x65, x66, w26_0.2)) | _, _, _, _, _ => none)))) | _ => none
noncomputable def pyxlaw25_GateTells.j23000.J : JDen U := { Y := (List Sgate_Out × List Sgate_Out × List Spyxref21_Let × Int × Int × Bool × List Spyxref21_Let), re := pyxlaw25_GateTells.j23000.re, fin := pyxlaw25_GateTells.j23000.fin, finK := pyxlaw25_GateTells.j23000.finK, finK_eq := pyxlaw25_GateTells.j23000.finK_eq }
theorem pyxlaw25_GateTells.j23000.fit (o : Out U) (y : (List Sgate_Out × List Sgate_Out × List Spyxref21_Let × Int × Int × Bool × List Spyxref21_Let)) (h : pyxlaw25_GateTells.j23000.re o = some y) : FitsO o (pyxlaw25_GateTells.j23000.fin y) := by
  unfold pyxlaw25_GateTells.j23000.re at h
  split at h
  · obtain ⟨q0, eq0, h1⟩ := Option.bind_eq_some_iff.1 h
    obtain ⟨q1, eq1, h2⟩ := Option.bind_eq_some_iff.1 h1
    obtain ⟨q2, eq2, h3⟩ := Option.bind_eq_some_iff.1 h2
    split at h3
    · obtain ⟨w26_0, ew26_0, h4⟩ := Option.bind_eq_some_iff.1 h3
      cases h4
      refine fitsO_norm (fits_ren [(104300002600, w26_0.1)] ?_ ?_ ren_one rfl)
      · exact List.forall_mem_cons.2 ⟨FV.one (FV.ptr (by assumption)), List.forall_mem_cons.2 ⟨FV.one (row_Sgate_Out_fit eq0), List.forall_mem_cons.2 ⟨FV.one (row_Sgate_Out_fit eq1), List.forall_mem_cons.2 ⟨FV.one (row_Spyxref21_Let_fit eq2), List.forall_mem_cons.2 ⟨FV.one (FV.same (by assumption) rfl), List.forall_mem_cons.2 ⟨FV.one (FV.same (by assumption) rfl), List.forall_mem_cons.2 ⟨FV.one (FV.same (by assumption) rfl), fun _ hp => (List.not_mem_nil hp).elim⟩⟩⟩⟩⟩⟩⟩
      · exact List.forall_mem_cons.2 ⟨(FO.cells (show lk (St.o _) 26 = some _ from by assumption) (FCs.cons ((tip_Spyxref21_Let_fit ew26_0 rfl).1) (FCs.nil))), List.forall_mem_cons.2 ⟨(tip_Spyxref21_Let_fit ew26_0 rfl).2, fun _ hp => (List.not_mem_nil hp).elim⟩⟩
    · cases h3
  · cases h
noncomputable def pyxlaw25_GateTells.j29000.fin (y : (List Sgate_Out × List Spyxref21_Let × Int × Int × Bool)) : Out U := match y with | (x76, x77, x78, x79, x80) => .norm ⟨[(20, .row C.Sgate_Out x76), (21, .row C.Spyxref21_Let x77), (183, .flat (.int .i64 x78)), (184, .flat (.int .i64 x79)), (210, .flat (.bool x80))], []⟩
noncomputable def pyxlaw25_GateTells.j29000.finK {ρ : Type} (y : (List Sgate_Out × List Spyxref21_Let × Int × Int × Bool)) (K : Out U → Option ρ) : Option ρ := match y with | (x76, x77, x78, x79, x80) => K (.norm ⟨[(20, .row C.Sgate_Out x76), (21, .row C.Spyxref21_Let x77), (183, .flat (.int .i64 x78)), (184, .flat (.int .i64 x79)), (210, .flat (.bool x80))], []⟩)
theorem pyxlaw25_GateTells.j29000.finK_eq {ρ : Type} (y : (List Sgate_Out × List Spyxref21_Let × Int × Int × Bool)) (K : Out U → Option ρ) : pyxlaw25_GateTells.j29000.finK y K = K (pyxlaw25_GateTells.j29000.fin y) := by
  unfold pyxlaw25_GateTells.j29000.finK pyxlaw25_GateTells.j29000.fin
  first | rfl | (split <;> rfl)
noncomputable def pyxlaw25_GateTells.j29000.re : Out U → Option ((List Sgate_Out × List Spyxref21_Let × Int × Int × Bool)) | .norm s => ((row_Sgate_Out (s.get 20)).bind fun q0 => ((row_Spyxref21_Let (s.get 21)).bind fun q1 => (match s.get 183, s.get 184, s.get 210 with | .flat (.int .i64 x78), .flat (.int .i64 x79), .flat (.bool x80) => some (q0, q1, x78, x79, x80) | _, _, _ => none))) | _ => none
noncomputable def pyxlaw25_GateTells.j29000.J : JDen U := { Y := (List Sgate_Out × List Spyxref21_Let × Int × Int × Bool), re := pyxlaw25_GateTells.j29000.re, fin := pyxlaw25_GateTells.j29000.fin, finK := pyxlaw25_GateTells.j29000.finK, finK_eq := pyxlaw25_GateTells.j29000.finK_eq }
theorem pyxlaw25_GateTells.j29000.fit (o : Out U) (y : (List Sgate_Out × List Spyxref21_Let × Int × Int × Bool)) (h : pyxlaw25_GateTells.j29000.re o = some y) : FitsO o (pyxlaw25_GateTells.j29000.fin y) := by
  unfold pyxlaw25_GateTells.j29000.re at h
  split at h
  · obtain ⟨q0, eq0, h1⟩ := Option.bind_eq_some_iff.1 h
    obtain ⟨q1, eq1, h2⟩ := Option.bind_eq_some_iff.1 h1
    split at h2
    · cases h2
      refine fitsO_norm (fits_ren [] ?_ ?_ ren_nil rfl)
      · exact List.forall_mem_cons.2 ⟨FV.one (row_Sgate_Out_fit eq0), List.forall_mem_cons.2 ⟨FV.one (row_Spyxref21_Let_fit eq1), List.forall_mem_cons.2 ⟨FV.one (FV.same (by assumption) rfl), List.forall_mem_cons.2 ⟨FV.one (FV.same (by assumption) rfl), List.forall_mem_cons.2 ⟨FV.one (FV.same (by assumption) rfl), fun _ hp => (List.not_mem_nil hp).elim⟩⟩⟩⟩⟩
      · exact fun _ hp => (List.not_mem_nil hp).elim
    · cases h2
  · cases h
noncomputable def pyxlaw25_GateTells.jl : List (Nat × JDen U) := [(3000, pyxlaw25_GateTells.j3000.J), (11000, pyxlaw25_GateTells.j11000.J), (18000, pyxlaw25_GateTells.j18000.J), (23000, pyxlaw25_GateTells.j23000.J), (29000, pyxlaw25_GateTells.j29000.J)]
noncomputable def pyxlaw25_GateTells.fl (k : Nat) : List (Nat × FDen U) := [(15, gate_New.D k), (16, pyxlaw25_known.D k), (21, pyxhand_Dec.D k), (22, pyxlaw25_rule.D k), (23, pyxlaw25_key.D k), (18, gate_Gate_Release.D k), (24, pyxref21_Gate_Release.D k), (25, pyxhand_Pick.D k), (19, gate_Gate_Log.D k), (20, gate_Gate_Seen.D k), (26, pyxref21_Gate_Seen.D k)]
noncomputable def pyxlaw25_GateTells.ll (k : Nat) : List (Nat × LDen U) := [(6, pyxlaw25_GateTells.l6.L k), (21, pyxlaw25_GateTells.l21.L k), (27, pyxlaw25_GateTells.l27.L k)]
noncomputable def pyxlaw25_GateTells.E (k : Nat) : Env U := { P := Try.prog, D := DD, fd := lk (pyxlaw25_GateTells.fl k), ld := lk (pyxlaw25_GateTells.ll k), jd := lk pyxlaw25_GateTells.jl, mode := lk [], elc := lk ec, mpc := lk mc, rts := Try.f4.resultTypes.toList, dyn := fun t => false, vecs := fun d => false, results := Try.f4.results.toList, gh := [], own := false, io := fun g i => false }
theorem pyxlaw25_GateTells.ok (k : Nat) : EnvOk (pyxlaw25_GateTells.E k) := envOk lawful (pyxlaw25_GateTells.fl k) (pyxlaw25_GateTells.ll k) pyxlaw25_GateTells.jl _ _ _ _ _ _ _ _ _ _ (by
  intro p hp
  simp only [pyxlaw25_GateTells.fl, List.mem_cons, List.not_mem_nil, or_false] at hp
  rcases hp with rfl | rfl | rfl | rfl | rfl | rfl | rfl | rfl | rfl | rfl | rfl
  · exact ⟨gate_New.sound k, enter_of Try.func15 (by kernel_rfl) (by kernel_rfl)⟩
  · exact ⟨pyxlaw25_known.sound k, enter_of Try.func16 (by kernel_rfl) (by kernel_rfl)⟩
  · exact ⟨pyxhand_Dec.sound k, enter_of Try.func21 (by kernel_rfl) (by kernel_rfl)⟩
  · exact ⟨pyxlaw25_rule.sound k, enter_of Try.func22 (by kernel_rfl) (by kernel_rfl)⟩
  · exact ⟨pyxlaw25_key.sound k, enter_of Try.func23 (by kernel_rfl) (by kernel_rfl)⟩
  · exact ⟨gate_Gate_Release.sound k, enter_of Try.func18 (by kernel_rfl) (by kernel_rfl)⟩
  · exact ⟨pyxref21_Gate_Release.sound k, enter_of Try.func24 (by kernel_rfl) (by kernel_rfl)⟩
  · exact ⟨pyxhand_Pick.sound k, enter_of Try.func25 (by kernel_rfl) (by kernel_rfl)⟩
  · exact ⟨gate_Gate_Log.sound k, enter_of Try.func19 (by kernel_rfl) (by kernel_rfl)⟩
  · exact ⟨gate_Gate_Seen.sound k, enter_of Try.func20 (by kernel_rfl) (by kernel_rfl)⟩
  · exact ⟨pyxref21_Gate_Seen.sound k, enter_of Try.func26 (by kernel_rfl) (by kernel_rfl)⟩) (by
  intro p hp
  simp only [pyxlaw25_GateTells.jl, List.mem_cons, List.not_mem_nil, or_false] at hp
  rcases hp with rfl | rfl | rfl | rfl | rfl
  · exact pyxlaw25_GateTells.j3000.fit
  · exact pyxlaw25_GateTells.j11000.fit
  · exact pyxlaw25_GateTells.j18000.fit
  · exact pyxlaw25_GateTells.j23000.fit
  · exact pyxlaw25_GateTells.j29000.fit)
theorem pyxlaw25_GateTells.l6.eq (k : Nat) (x : (Int × Int × List Spyxlaw25_Raw × Int × Int × List Sgate_Out × List (Sgate_Key × Int) × List Spyxref21_Let)) : evC (pyxlaw25_GateTells.E k) (loopAt Try.f4 6) (pyxlaw25_GateTells.l6.mk x) (headK pyxlaw25_GateTells.l6.un pyxlaw25_GateTells.l6.re) = pyxlaw25_GateTells.l6.once k x := by kernel_rfl
theorem pyxlaw25_GateTells.l6.fit (s : St U) (x : (Int × Int × List Spyxlaw25_Raw × Int × Int × List Sgate_Out × List (Sgate_Key × Int) × List Spyxref21_Let)) (h : pyxlaw25_GateTells.l6.un s = some x) : Fits s (pyxlaw25_GateTells.l6.mk x) := by
  unfold pyxlaw25_GateTells.l6.un at h
  obtain ⟨q0, eq0, h1⟩ := Option.bind_eq_some_iff.1 h
  split at h1
  · obtain ⟨w250000000000003_0, ew250000000000003_0, h2⟩ := Option.bind_eq_some_iff.1 h1
    obtain ⟨w250000000000003_1, ew250000000000003_1, h3⟩ := Option.bind_eq_some_iff.1 h2
    obtain ⟨w26_0, ew26_0, h4⟩ := Option.bind_eq_some_iff.1 h3
    obtain ⟨hap, h5⟩ := cond_none h4
    cases h5
    refine fits_ren [(25000002000600300, w250000000000003_0.1), (25000002000600301, w250000000000003_1.1), (2000602600, w26_0.1)] ?_ ?_ (ren_apart hap) rfl
    · exact List.forall_mem_cons.2 ⟨FV.one (FV.ptr (by assumption)), List.forall_mem_cons.2 ⟨FV.one (FV.ptr (by assumption)), List.forall_mem_cons.2 ⟨FV.one (FV.same (by assumption) rfl), List.forall_mem_cons.2 ⟨FV.one (FV.same (by assumption) rfl), List.forall_mem_cons.2 ⟨FV.one (row_Spyxlaw25_Raw_fit eq0), List.forall_mem_cons.2 ⟨FV.one (FV.same (by assumption) rfl), List.forall_mem_cons.2 ⟨FV.one (FV.same (by assumption) rfl), fun _ hp => (List.not_mem_nil hp).elim⟩⟩⟩⟩⟩⟩⟩
    · exact List.forall_mem_cons.2 ⟨(FO.cells (show lk (St.o _) 250000000000003 = some _ from by assumption) (FCs.cons ((tip_Sgate_Out_fit ew250000000000003_0 rfl).1) (FCs.cons ((map_Sgate_Key_i64_t_fit ew250000000000003_1 rfl).1) (FCs.nil)))), List.forall_mem_cons.2 ⟨(tip_Sgate_Out_fit ew250000000000003_0 rfl).2, List.forall_mem_cons.2 ⟨(map_Sgate_Key_i64_t_fit ew250000000000003_1 rfl).2, List.forall_mem_cons.2 ⟨(FO.cells (show lk (St.o _) 26 = some _ from by assumption) (FCs.cons ((tip_Spyxref21_Let_fit ew26_0 rfl).1) (FCs.nil))), List.forall_mem_cons.2 ⟨(tip_Spyxref21_Let_fit ew26_0 rfl).2, fun _ hp => (List.not_mem_nil hp).elim⟩⟩⟩⟩⟩
  · cases h1
theorem pyxlaw25_GateTells.l6.fitO (o : Out U) (y : (Int × Int × List Sgate_Out × List (Sgate_Key × Int) × List Spyxref21_Let) ⊕ Bool) (h : pyxlaw25_GateTells.l6.re o = some y) : FitsO o (pyxlaw25_GateTells.l6.fin y) := by
  unfold pyxlaw25_GateTells.l6.re at h
  split at h
  · split at h
    · obtain ⟨w250000000000003_0, ew250000000000003_0, h1⟩ := Option.bind_eq_some_iff.1 h
      obtain ⟨w250000000000003_1, ew250000000000003_1, h2⟩ := Option.bind_eq_some_iff.1 h1
      obtain ⟨w26_0, ew26_0, h3⟩ := Option.bind_eq_some_iff.1 h2
      obtain ⟨hap, h4⟩ := cond_none h3
      cases h4
      refine fitsO_exit (fits_ren [(25000002000600300, w250000000000003_0.1), (25000002000600301, w250000000000003_1.1), (2000602600, w26_0.1)] ?_ ?_ (ren_apart hap) rfl)
      · exact List.forall_mem_cons.2 ⟨FV.one (FV.ptr (by assumption)), List.forall_mem_cons.2 ⟨FV.one (FV.ptr (by assumption)), List.forall_mem_cons.2 ⟨FV.one (FV.same (by assumption) rfl), List.forall_mem_cons.2 ⟨FV.one (FV.same (by assumption) rfl), fun _ hp => (List.not_mem_nil hp).elim⟩⟩⟩⟩
      · exact List.forall_mem_cons.2 ⟨(FO.cells (show lk (St.o _) 250000000000003 = some _ from by assumption) (FCs.cons ((tip_Sgate_Out_fit ew250000000000003_0 rfl).1) (FCs.cons ((map_Sgate_Key_i64_t_fit ew250000000000003_1 rfl).1) (FCs.nil)))), List.forall_mem_cons.2 ⟨(tip_Sgate_Out_fit ew250000000000003_0 rfl).2, List.forall_mem_cons.2 ⟨(map_Sgate_Key_i64_t_fit ew250000000000003_1 rfl).2, List.forall_mem_cons.2 ⟨(FO.cells (show lk (St.o _) 26 = some _ from by assumption) (FCs.cons ((tip_Spyxref21_Let_fit ew26_0 rfl).1) (FCs.nil))), List.forall_mem_cons.2 ⟨(tip_Spyxref21_Let_fit ew26_0 rfl).2, fun _ hp => (List.not_mem_nil hp).elim⟩⟩⟩⟩⟩
    · cases h
  · split at h
    · cases h
      refine fitsO_ret (fits_ren [] ?_ ?_ ren_nil rfl)
      · exact List.forall_mem_cons.2 ⟨FV.one (FV.same (by assumption) rfl), fun _ hp => (List.not_mem_nil hp).elim⟩
      · exact fun _ hp => (List.not_mem_nil hp).elim
    · cases h
  · cases h
theorem pyxlaw25_GateTells.l6.sound (k : Nat) : LSound (pyxlaw25_GateTells.E k) Try.f4.ntmps Try.f4 (loopAt Try.f4 6) (pyxlaw25_GateTells.l6.L k) :=
  loop_sound (pyxlaw25_GateTells.ok k) mixed rfl (by kernel_rfl) (allL_of (l := []) (by kernel_rfl) allL_nil) pyxlaw25_GateTells.l6.un pyxlaw25_GateTells.l6.mk pyxlaw25_GateTells.l6.fin pyxlaw25_GateTells.l6.re (pyxlaw25_GateTells.l6.once k) k pyxlaw25_GateTells.l6.fit pyxlaw25_GateTells.l6.fitO (pyxlaw25_GateTells.l6.eq k) pyxlaw25_GateTells.l6.finK pyxlaw25_GateTells.l6.finK_eq
theorem pyxlaw25_GateTells.l21.eq (k : Nat) (x : (List Sgate_Out × List Sgate_Out × List Spyxref21_Let × Int × Int × List Spyxref21_Let)) : evC (pyxlaw25_GateTells.E k) (loopAt Try.f4 21) (pyxlaw25_GateTells.l21.mk x) (headK pyxlaw25_GateTells.l21.un pyxlaw25_GateTells.l21.re) = pyxlaw25_GateTells.l21.once k x := by kernel_rfl
theorem pyxlaw25_GateTells.l21.fit (s : St U) (x : (List Sgate_Out × List Sgate_Out × List Spyxref21_Let × Int × Int × List Spyxref21_Let)) (h : pyxlaw25_GateTells.l21.un s = some x) : Fits s (pyxlaw25_GateTells.l21.mk x) := by
  unfold pyxlaw25_GateTells.l21.un at h
  obtain ⟨q0, eq0, h1⟩ := Option.bind_eq_some_iff.1 h
  obtain ⟨q1, eq1, h2⟩ := Option.bind_eq_some_iff.1 h1
  obtain ⟨q2, eq2, h3⟩ := Option.bind_eq_some_iff.1 h2
  split at h3
  · obtain ⟨w26_0, ew26_0, h4⟩ := Option.bind_eq_some_iff.1 h3
    cases h4
    refine fits_ren [(2002102600, w26_0.1)] ?_ ?_ ren_one rfl
    · exact List.forall_mem_cons.2 ⟨FV.one (FV.ptr (by assumption)), List.forall_mem_cons.2 ⟨FV.one (row_Sgate_Out_fit eq0), List.forall_mem_cons.2 ⟨FV.one (row_Sgate_Out_fit eq1), List.forall_mem_cons.2 ⟨FV.one (row_Spyxref21_Let_fit eq2), List.forall_mem_cons.2 ⟨FV.one (FV.same (by assumption) rfl), List.forall_mem_cons.2 ⟨FV.one (FV.same (by assumption) rfl), fun _ hp => (List.not_mem_nil hp).elim⟩⟩⟩⟩⟩⟩
    · exact List.forall_mem_cons.2 ⟨(FO.cells (show lk (St.o _) 26 = some _ from by assumption) (FCs.cons ((tip_Spyxref21_Let_fit ew26_0 rfl).1) (FCs.nil))), List.forall_mem_cons.2 ⟨(tip_Spyxref21_Let_fit ew26_0 rfl).2, fun _ hp => (List.not_mem_nil hp).elim⟩⟩
  · cases h3
theorem pyxlaw25_GateTells.l21.fitO (o : Out U) (y : (List Sgate_Out × List Spyxref21_Let) ⊕ Bool) (h : pyxlaw25_GateTells.l21.re o = some y) : FitsO o (pyxlaw25_GateTells.l21.fin y) := by
  unfold pyxlaw25_GateTells.l21.re at h
  split at h
  · obtain ⟨q0, eq0, h1⟩ := Option.bind_eq_some_iff.1 h
    obtain ⟨q1, eq1, h2⟩ := Option.bind_eq_some_iff.1 h1
    cases h2
    refine fitsO_exit (fits_ren [] ?_ ?_ ren_nil rfl)
    · exact List.forall_mem_cons.2 ⟨FV.one (row_Sgate_Out_fit eq0), List.forall_mem_cons.2 ⟨FV.one (row_Spyxref21_Let_fit eq1), fun _ hp => (List.not_mem_nil hp).elim⟩⟩
    · exact fun _ hp => (List.not_mem_nil hp).elim
  · split at h
    · cases h
      refine fitsO_ret (fits_ren [] ?_ ?_ ren_nil rfl)
      · exact List.forall_mem_cons.2 ⟨FV.one (FV.same (by assumption) rfl), fun _ hp => (List.not_mem_nil hp).elim⟩
      · exact fun _ hp => (List.not_mem_nil hp).elim
    · cases h
  · cases h
theorem pyxlaw25_GateTells.l21.sound (k : Nat) : LSound (pyxlaw25_GateTells.E k) Try.f4.ntmps Try.f4 (loopAt Try.f4 21) (pyxlaw25_GateTells.l21.L k) :=
  loop_sound (pyxlaw25_GateTells.ok k) mixed rfl (by kernel_rfl) (allL_of (l := []) (by kernel_rfl) allL_nil) pyxlaw25_GateTells.l21.un pyxlaw25_GateTells.l21.mk pyxlaw25_GateTells.l21.fin pyxlaw25_GateTells.l21.re (pyxlaw25_GateTells.l21.once k) k pyxlaw25_GateTells.l21.fit pyxlaw25_GateTells.l21.fitO (pyxlaw25_GateTells.l21.eq k) pyxlaw25_GateTells.l21.finK pyxlaw25_GateTells.l21.finK_eq
theorem pyxlaw25_GateTells.l27.eq (k : Nat) (x : (List Sgate_Out × List Spyxref21_Let × Int × Int)) : evC (pyxlaw25_GateTells.E k) (loopAt Try.f4 27) (pyxlaw25_GateTells.l27.mk x) (headK pyxlaw25_GateTells.l27.un pyxlaw25_GateTells.l27.re) = pyxlaw25_GateTells.l27.once k x := by kernel_rfl
theorem pyxlaw25_GateTells.l27.fit (s : St U) (x : (List Sgate_Out × List Spyxref21_Let × Int × Int)) (h : pyxlaw25_GateTells.l27.un s = some x) : Fits s (pyxlaw25_GateTells.l27.mk x) := by
  unfold pyxlaw25_GateTells.l27.un at h
  obtain ⟨q0, eq0, h1⟩ := Option.bind_eq_some_iff.1 h
  obtain ⟨q1, eq1, h2⟩ := Option.bind_eq_some_iff.1 h1
  split at h2
  · cases h2
    refine fits_ren [] ?_ ?_ ren_nil rfl
    · exact List.forall_mem_cons.2 ⟨FV.one (row_Sgate_Out_fit eq0), List.forall_mem_cons.2 ⟨FV.one (row_Spyxref21_Let_fit eq1), List.forall_mem_cons.2 ⟨FV.one (FV.same (by assumption) rfl), List.forall_mem_cons.2 ⟨FV.one (FV.same (by assumption) rfl), fun _ hp => (List.not_mem_nil hp).elim⟩⟩⟩⟩
    · exact fun _ hp => (List.not_mem_nil hp).elim
  · cases h2
theorem pyxlaw25_GateTells.l27.fitO (o : Out U) (y : Unit ⊕ Bool) (h : pyxlaw25_GateTells.l27.re o = some y) : FitsO o (pyxlaw25_GateTells.l27.fin y) := by
  unfold pyxlaw25_GateTells.l27.re at h
  split at h
  · cases h
    refine fitsO_exit (fits_ren [] ?_ ?_ ren_nil rfl)
    · exact fun _ hp => (List.not_mem_nil hp).elim
    · exact fun _ hp => (List.not_mem_nil hp).elim
  · split at h
    · cases h
      refine fitsO_ret (fits_ren [] ?_ ?_ ren_nil rfl)
      · exact List.forall_mem_cons.2 ⟨FV.one (FV.same (by assumption) rfl), fun _ hp => (List.not_mem_nil hp).elim⟩
      · exact fun _ hp => (List.not_mem_nil hp).elim
    · cases h
  · cases h
theorem pyxlaw25_GateTells.l27.sound (k : Nat) : LSound (pyxlaw25_GateTells.E k) Try.f4.ntmps Try.f4 (loopAt Try.f4 27) (pyxlaw25_GateTells.l27.L k) :=
  loop_sound (pyxlaw25_GateTells.ok k) mixed rfl (by kernel_rfl) (allL_of (l := []) (by kernel_rfl) allL_nil) pyxlaw25_GateTells.l27.un pyxlaw25_GateTells.l27.mk pyxlaw25_GateTells.l27.fin pyxlaw25_GateTells.l27.re (pyxlaw25_GateTells.l27.once k) k pyxlaw25_GateTells.l27.fit pyxlaw25_GateTells.l27.fitO (pyxlaw25_GateTells.l27.eq k) pyxlaw25_GateTells.l27.finK pyxlaw25_GateTells.l27.finK_eq
theorem pyxlaw25_GateTells.eq (k : Nat) (x : (List Spyxlaw25_Raw × Int × Int)) : runF (pyxlaw25_GateTells.E k) (codeOf Try.f4) (pyxlaw25_GateTells.mk x) pyxlaw25_GateTells.re = (pyxlaw25_GateTells.D k).f x := by kernel_rfl
theorem pyxlaw25_GateTells.fit (s : St U) (x : (List Spyxlaw25_Raw × Int × Int)) (h : pyxlaw25_GateTells.un s = some x) : Fits s (pyxlaw25_GateTells.mk x) := by
  unfold pyxlaw25_GateTells.un at h
  split at h
  · cases h
    refine fits_ren [] ?_ ?_ ren_nil rfl
    · exact List.forall_mem_cons.2 ⟨FV.one (FV.same (by assumption) rfl), List.forall_mem_cons.2 ⟨FV.one (FV.same (by assumption) rfl), List.forall_mem_cons.2 ⟨FV.one (FV.same (by assumption) rfl), fun _ hp => (List.not_mem_nil hp).elim⟩⟩⟩
    · exact fun _ hp => (List.not_mem_nil hp).elim
  · cases h
theorem pyxlaw25_GateTells.fitR (s : St U) (y : Bool) (h : pyxlaw25_GateTells.re s = some y) : Fits s (pyxlaw25_GateTells.fin y) := by
  unfold pyxlaw25_GateTells.re at h
  split at h
  · cases h
    refine fits_ren [] ?_ ?_ ren_nil rfl
    · exact List.forall_mem_cons.2 ⟨FV.one (FV.same (by assumption) rfl), fun _ hp => (List.not_mem_nil hp).elim⟩
    · exact fun _ hp => (List.not_mem_nil hp).elim
  · cases h
theorem pyxlaw25_GateTells.sound (k : Nat) : Sound Try.prog DD 4 (pyxlaw25_GateTells.D k) :=
  fun_sound (E := pyxlaw25_GateTells.E k) (fn := Try.f4) (c := codeOf Try.f4) (pyxlaw25_GateTells.ok k) mixed rfl Try.func4 (by kernel_rfl) (by kernel_rfl) (allL_of (l := [loopAt Try.f4 6, loopAt Try.f4 21, loopAt Try.f4 27]) (by kernel_rfl) (allL_cons (key := 6) (by kernel_rfl) rfl (pyxlaw25_GateTells.l6.sound k) (allL_cons (key := 21) (by kernel_rfl) rfl (pyxlaw25_GateTells.l21.sound k) (allL_cons (key := 27) (by kernel_rfl) rfl (pyxlaw25_GateTells.l27.sound k) allL_nil)))) (pyxlaw25_GateTells.D k) pyxlaw25_GateTells.mk pyxlaw25_GateTells.re (by kernel_rfl) (by kernel_rfl) pyxlaw25_GateTells.fit pyxlaw25_GateTells.fitR (pyxlaw25_GateTells.eq k)
end
end Go.Proofs.Ytlaogfkgkpgofaa
