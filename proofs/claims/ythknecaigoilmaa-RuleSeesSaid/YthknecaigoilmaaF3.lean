import Derived.Test.YthknecaigoilmaaF2
/-! Functions, told; their equations with the evaluator; that they are sound. Written by gen.py. -/
namespace Go.Proofs.Ythknecaigoilmaa
open Go Go.Ev
noncomputable section
set_option linter.unusedVariables false
set_option linter.unusedSimpArgs false
set_option maxRecDepth 100000
/-! ### pyx/rule.Right: function 53 -/
noncomputable def rule_Right.l4.once (k : Nat) (x : (List Sapi_Ent × Int × Int × List Sapi_Ent × List Int × List Sapi_Who × List Int × List Sapi_Rule)) : Option ((List Sapi_Ent × Int × Int × List Sapi_Ent × List Int × List Sapi_Who × List Int × List Sapi_Rule) ⊕ ((List Sapi_Ent × List Int × List Sapi_Who × List Int × List Sapi_Rule) ⊕ Bool)) := match x with | (x16, x17, x18, x11, x12, x13, x14, x15) => cond (decide (x18 < x17)) (cond (inb x18 (List.length x16)) ((rule_rightEnt.f k (⟨(List.getD x16 (Int.toNat x18) Sapi_Ent.zero).f_Level, (List.getD x16 (Int.toNat x18) Sapi_Ent.zero).f_Scale, (List.getD x16 (Int.toNat x18) Sapi_Ent.zero).f_Parent, (List.getD x16 (Int.toNat x18) Sapi_Ent.zero).f_Share⟩ : Sapi_Ent) x18).bind fun t19 => (cond (!t19) (some (.inr (.inr false))) (some (.inl (x16, x17, IntKind.wrap .i64 (x18 + 1), x11, x12, x13, x14, x15))))) none) (some (.inr (.inl (x11, x12, x13, x14, x15))))
noncomputable def rule_Right.f (k : Nat) (a0 : Sapi_Policy) : Option Bool := (((rule_within.f k (List.length a0.f_Ents : Int) 1 8).bind fun t1 => (cond (!t1) (some (true, a0.f_Ents, a0.f_Groups, a0.f_Who, a0.f_Up, a0.f_Rules)) (cond (decide ((List.length a0.f_Groups : Int) > 4)) (some (true, a0.f_Ents, a0.f_Groups, a0.f_Who, a0.f_Up, a0.f_Rules)) ((rule_within.f k (List.length a0.f_Who : Int) 1 8).bind fun t8 => (cond (!t8) (some (true, a0.f_Ents, a0.f_Groups, a0.f_Who, a0.f_Up, a0.f_Rules)) ((role_Right.f k a0.f_Up).bind fun t9 => (cond (!t9) (some (true, a0.f_Ents, a0.f_Groups, a0.f_Who, a0.f_Up, a0.f_Rules)) (some (decide ((List.length a0.f_Rules : Int) > 32), a0.f_Ents, a0.f_Groups, a0.f_Who, a0.f_Up, a0.f_Rules))))))))) : Option (Bool × List Sapi_Ent × List Int × List Sapi_Who × List Int × List Sapi_Rule)).bind fun y10 => (cond (y10.1) (some false) ((iter (rule_Right.l4.once k) k (y10.2.1, (List.length y10.2.1 : Int), 0, y10.2.1, y10.2.2.1, y10.2.2.2.1, y10.2.2.2.2.1, y10.2.2.2.2.2)).bind fun | .inl y26 => ((slices_ContainsFunc__uint64_uint64_c87.f k y26.2.1 (⟨y26.1, y26.2.1, y26.2.2.1, y26.2.2.2.1, y26.2.2.2.2⟩ : Sapi_Policy)).bind fun t27 => ((slices_ContainsFunc_api_Who_c89.f k y26.2.2.1 ()).bind fun t28 => ((slices_ContainsFunc_api_Rule_c91.f k y26.2.2.2.2 (⟨y26.1, y26.2.1, y26.2.2.1, y26.2.2.2.1, y26.2.2.2.2⟩ : Sapi_Policy)).bind fun t29 => (cond (!t27) (cond (!t28) (some (!t29)) (some false)) (some false))))) | .inr y30 => (some y30)))
noncomputable def rule_Right.i : Lay U Sapi_Policy := (pcOne 0 (tAt (vCd cd_Sapi_Policy))).lay (fun _ => by kernel_rfl)
noncomputable def rule_Right.r : Lay U Bool := (pcOne 0 (tAt vBool)).lay (fun _ => by kernel_rfl)
noncomputable def rule_Right.D (k : Nat) : FDen U := fdn rule_Right.i rule_Right.r Try.f53.ntmps [] true (fun x => rule_Right.f k (x)) (fun _ _ => rfl)
noncomputable def rule_Right.l4.i : Lay U (List Sapi_Ent × Int × Int × List Sapi_Ent × List Int × List Sapi_Who × List Int × List Sapi_Rule) := (lay [(1, sPtr 1 0), (39, sAt (vRow DD C.Sapi_Ent)), (40, sAt (vInt .i64)), (41, sAt (vInt .i64))] [bLit 1 [(vRow DD C.Sapi_Ent), (vRow DD C.u64), (vRow DD C.Sapi_Who), (vRow DD C.i64), (vRow DD C.Sapi_Rule)]] (fun _ => by kernel_rfl))
noncomputable def rule_Right.l4.o : OLay U ((List Sapi_Ent × List Int × List Sapi_Who × List Int × List Sapi_Rule) ⊕ Bool) := oOr (oExit 0 (lay [(1, sPtr 1 0)] [bLit 1 [(vRow DD C.Sapi_Ent), (vRow DD C.u64), (vRow DD C.Sapi_Who), (vRow DD C.i64), (vRow DD C.Sapi_Rule)]] (fun _ => by kernel_rfl))) (oRet rule_Right.r)
noncomputable def rule_Right.j1000 : Jk U := ⟨(Bool × List Sapi_Ent × List Int × List Sapi_Who × List Int × List Sapi_Rule), oNorm (lay [(1, sPtr 1 0), (37, sAt vBool)] [bLit 1 [(vRow DD C.Sapi_Ent), (vRow DD C.u64), (vRow DD C.Sapi_Who), (vRow DD C.i64), (vRow DD C.Sapi_Rule)]] (fun _ => by kernel_rfl))⟩
noncomputable def rule_Right.E (k : Nat) : Env U := mkE Try.f53 [rule_within.pk k, role_Right.pk k, rule_rightEnt.pk k, slices_ContainsFunc__uint64_uint64_c87.pk k, slices_ContainsFunc_api_Who_c89.pk k, slices_ContainsFunc_api_Rule_c91.pk k] [(1000, rule_Right.j1000)] [(4, ldn rule_Right.l4.i rule_Right.l4.o (iter (rule_Right.l4.once k) k))] [] n0 n0 [] false n00 nl0
theorem rule_Right.l4.eq (k : Nat) (x : (List Sapi_Ent × Int × Int × List Sapi_Ent × List Int × List Sapi_Who × List Int × List Sapi_Rule)) : evC (rule_Right.E k) (loopAt Try.f53 4) (rule_Right.l4.i.put x) (headK rule_Right.l4.i.un rule_Right.l4.o.re) = rule_Right.l4.once k x := by kernel_rfl
theorem rule_Right.l4.sound (k : Nat) : LSound (rule_Right.E k) Try.f53.ntmps Try.f53 (loopAt Try.f53 4) (ldn rule_Right.l4.i rule_Right.l4.o (iter (rule_Right.l4.once k) k)) :=
  loopP (mkE_ok _ _ _ _ _ _ _ _ _ _ _) mixed rfl (by kernel_rfl) (allL_of (l := []) (by kernel_rfl) allL_nil) rule_Right.l4.i rule_Right.l4.o (rule_Right.l4.once k) k (rule_Right.l4.eq k)
theorem rule_Right.eq (k : Nat) (x : Sapi_Policy) : runF (rule_Right.E k) (codeOf Try.f53) (rule_Right.i.put x) rule_Right.r.un = rule_Right.f k (x) := by kernel_rfl
theorem rule_Right.sound (k : Nat) : Sound Try.prog DD 53 (rule_Right.D k) :=
  funP (E := rule_Right.E k) (fn := Try.f53) (c := codeOf Try.f53) (mkE_ok _ _ _ _ _ _ _ _ _ _ _) mixed rfl Try.func53 (by kernel_rfl) (by kernel_rfl) (allL_of (l := [loopAt Try.f53 4]) (by kernel_rfl) (allL_cons (key := 4) (by kernel_rfl) rfl (rule_Right.l4.sound k) allL_nil)) rule_Right.i rule_Right.r [] true (fun x => rule_Right.f k (x)) (fun _ _ => rfl) (by kernel_rfl) (rule_Right.eq k)
noncomputable def rule_Right.pk (k : Nat) : Pk Try.prog DD := ⟨53, rule_Right.D k, rule_Right.sound k, enter_of Try.func53 (by kernel_rfl) (by kernel_rfl)⟩
/-! ### pyx/label.Members: function 46 -/
noncomputable def label_Members.l3.once (k : Nat) (x : (List Int × Int × Int × Int)) : Option ((List Int × Int × Int × Int) ⊕ (List Int)) := match x with | (x3, x4, x1, x2) => cond (decide (x4 < 8)) ((label_bit.f k x4).bind fun t5 => (cond (decide ((bits .and .u64 x1 t5) > 0)) (cond (okLen (List.length x3 + List.length [x4]) 8) (some (.inl (x3 ++ [x4], IntKind.wrap .i64 (x4 + 1), x1, x2))) none) (some (.inl (x3, IntKind.wrap .i64 (x4 + 1), x1, x2))))) (some (.inr x3))
noncomputable def label_Members.f (k : Nat) (a0 : Sapi_Label) : Option (List Int) := (iter (label_Members.l3.once k) k (([] : List Int), 0, a0.f_Set, a0.f_Level)).bind fun y7 => (some y7)
noncomputable def label_Members.i : Lay U Sapi_Label := (pcOne 0 (tAt (vCd cd_Sapi_Label))).lay (fun _ => by kernel_rfl)
noncomputable def label_Members.r : Lay U (List Int) := (pcOne 0 (tAt (vRow DD C.i64))).lay (fun _ => by kernel_rfl)
noncomputable def label_Members.D (k : Nat) : FDen U := fdn label_Members.i label_Members.r Try.f46.ntmps [] true (fun x => label_Members.f k (x)) (fun _ _ => rfl)
noncomputable def label_Members.l3.i : Lay U (List Int × Int × Int × Int) := (lay [(1, sPtr 1 0), (3, sAt (vTip DD 1003003 C.i64 1)), (5, sAt (vInt .i64))] [bLit 1 [(vInt .u64), (vInt .i64)]] (fun _ => by kernel_rfl))
noncomputable def label_Members.l3.o : OLay U (List Int) := oExit 0 (lay [(3, sAt (vTip DD 1003003 C.i64 1))] [] (fun _ => by kernel_rfl))
noncomputable def label_Members.E (k : Nat) : Env U := mkE Try.f46 [label_bit.pk k] [] [(3, ldn label_Members.l3.i label_Members.l3.o (iter (label_Members.l3.once k) k))] [] n0 n0 [] false n00 nl0
theorem label_Members.l3.eq (k : Nat) (x : (List Int × Int × Int × Int)) : evC (label_Members.E k) (loopAt Try.f46 3) (label_Members.l3.i.put x) (headK label_Members.l3.i.un label_Members.l3.o.re) = label_Members.l3.once k x := by kernel_rfl
theorem label_Members.l3.sound (k : Nat) : LSound (label_Members.E k) Try.f46.ntmps Try.f46 (loopAt Try.f46 3) (ldn label_Members.l3.i label_Members.l3.o (iter (label_Members.l3.once k) k)) :=
  loopP (mkE_ok _ _ _ _ _ _ _ _ _ _ _) mixed rfl (by kernel_rfl) (allL_of (l := []) (by kernel_rfl) allL_nil) label_Members.l3.i label_Members.l3.o (label_Members.l3.once k) k (label_Members.l3.eq k)
theorem label_Members.eq (k : Nat) (x : Sapi_Label) : runF (label_Members.E k) (codeOf Try.f46) (label_Members.i.put x) label_Members.r.un = label_Members.f k (x) := by kernel_rfl
theorem label_Members.sound (k : Nat) : Sound Try.prog DD 46 (label_Members.D k) :=
  funP (E := label_Members.E k) (fn := Try.f46) (c := codeOf Try.f46) (mkE_ok _ _ _ _ _ _ _ _ _ _ _) mixed rfl Try.func46 (by kernel_rfl) (by kernel_rfl) (allL_of (l := [loopAt Try.f46 3]) (by kernel_rfl) (allL_cons (key := 3) (by kernel_rfl) rfl (label_Members.l3.sound k) allL_nil)) label_Members.i label_Members.r [] true (fun x => label_Members.f k (x)) (fun _ _ => rfl) (by kernel_rfl) (label_Members.eq k)
noncomputable def label_Members.pk (k : Nat) : Pk Try.prog DD := ⟨46, label_Members.D k, label_Members.sound k, enter_of Try.func46 (by kernel_rfl) (by kernel_rfl)⟩
/-! ### pyx/label.Of: function 82 -/
noncomputable def label_Of.f (k : Nat) (a0 : Int) (a1 : Int) : Option Sapi_Label := ((cond (decide (a0 ≥ 0)) (some (a0, decide (a0 < 8), 0, 0, 0, (if (if 3 < a1 then 3 else a1) > 0 then (if 3 < a1 then 3 else a1) else 0))) (some (a0, false, 0, 0, 0, (if (if 3 < a1 then 3 else a1) > 0 then (if 3 < a1 then 3 else a1) else 0)))) : Option (Int × Bool × Int × Int × Int × Int)).bind fun y7 => (cond (y7.2.1) ((label_bit.f k y7.1).bind fun t8 => (some (⟨t8, y7.2.2.2.2.2⟩ : Sapi_Label))) (some (⟨y7.2.2.2.2.1, y7.2.2.2.2.2⟩ : Sapi_Label)))
noncomputable def label_Of.i : Lay U (Int × Int) := (pcAnd (pcOne 0 (tAt (vInt .i64))) (pcOne 1 (tAt (vInt .i64)))).lay (fun _ => by kernel_rfl)
noncomputable def label_Of.r : Lay U Sapi_Label := (pcOne 0 (tAt (vCd cd_Sapi_Label))).lay (fun _ => by kernel_rfl)
noncomputable def label_Of.D (k : Nat) : FDen U := fdn label_Of.i label_Of.r Try.f82.ntmps [] true (fun x => label_Of.f k (x.1) (x.2)) (fun _ _ => rfl)
noncomputable def label_Of.j2000 : Jk U := ⟨(Int × Bool × Int × Int × Int × Int), oNorm (lay [(4, sPtr 4 0), (5, sPtr 5 0), (0, sAt (vInt .i64)), (15, sAt vBool)] [bLit 4 [(vInt .u64), (vInt .i64)], bLit 5 [(vInt .u64), (vInt .i64)]] (fun _ => by kernel_rfl))⟩
noncomputable def label_Of.E (k : Nat) : Env U := mkE Try.f82 [label_bit.pk k] [(2000, label_Of.j2000)] [] [] n0 n0 [] false n00 nl0
theorem label_Of.eq (k : Nat) (x : (Int × Int)) : runF (label_Of.E k) (codeOf Try.f82) (label_Of.i.put x) label_Of.r.un = label_Of.f k (x.1) (x.2) := by kernel_rfl
theorem label_Of.sound (k : Nat) : Sound Try.prog DD 82 (label_Of.D k) :=
  funP (E := label_Of.E k) (fn := Try.f82) (c := codeOf Try.f82) (mkE_ok _ _ _ _ _ _ _ _ _ _ _) mixed rfl Try.func82 (by kernel_rfl) (by kernel_rfl) (allL_of (l := []) (by kernel_rfl) allL_nil) label_Of.i label_Of.r [] true (fun x => label_Of.f k (x.1) (x.2)) (fun _ _ => rfl) (by kernel_rfl) (label_Of.eq k)
noncomputable def label_Of.pk (k : Nat) : Pk Try.prog DD := ⟨82, label_Of.D k, label_Of.sound k, enter_of Try.func82 (by kernel_rfl) (by kernel_rfl)⟩
/-! ### pyx/rule.Label: function 48 -/
noncomputable def rule_Label.f (k : Nat) (a0 : Sapi_Policy) (a1 : Int) : Option Sapi_Label := (((rule_Right.f k (⟨a0.f_Ents, a0.f_Groups, a0.f_Who, a0.f_Up, a0.f_Rules⟩ : Sapi_Policy)).bind fun t1 => (cond (!t1) (some (a1, true, a0.f_Ents, a0.f_Groups, a0.f_Who, a0.f_Up, a0.f_Rules, 0, 0)) ((rule_within.f k a1 0 (IntKind.wrap .i64 ((List.length a0.f_Ents : Int) - 1))).bind fun t11 => (some (a1, !t11, a0.f_Ents, a0.f_Groups, a0.f_Who, a0.f_Up, a0.f_Rules, 0, 0))))) : Option (Int × Bool × List Sapi_Ent × List Int × List Sapi_Who × List Int × List Sapi_Rule × Int × Int)).bind fun y12 => (cond (y12.2.1) (some (⟨0, 0⟩ : Sapi_Label)) (cond (inb y12.1 (List.length y12.2.2.1)) ((label_Of.f k y12.1 ((List.getD y12.2.2.1 (Int.toNat y12.1) Sapi_Ent.zero).f_Level)).bind fun t13 => (some (⟨t13.f_Set, t13.f_Level⟩ : Sapi_Label))) none))
noncomputable def rule_Label.i : Lay U (Sapi_Policy × Int) := (pcAnd (pcOne 0 (tAt (vCd cd_Sapi_Policy))) (pcOne 1 (tAt (vInt .i64)))).lay (fun _ => by kernel_rfl)
noncomputable def rule_Label.r : Lay U Sapi_Label := (pcOne 0 (tAt (vCd cd_Sapi_Label))).lay (fun _ => by kernel_rfl)
noncomputable def rule_Label.D (k : Nat) : FDen U := fdn rule_Label.i rule_Label.r Try.f48.ntmps [] true (fun x => rule_Label.f k (x.1) (x.2)) (fun _ _ => rfl)
noncomputable def rule_Label.j1000 : Jk U := ⟨(Int × Bool × List Sapi_Ent × List Int × List Sapi_Who × List Int × List Sapi_Rule × Int × Int), oNorm (lay [(2, sPtr 2 0), (4, sPtr 4 0), (1, sAt (vInt .i64)), (16, sAt vBool)] [bLit 2 [(vRow DD C.Sapi_Ent), (vRow DD C.u64), (vRow DD C.Sapi_Who), (vRow DD C.i64), (vRow DD C.Sapi_Rule)], bLit 4 [(vInt .u64), (vInt .i64)]] (fun _ => by kernel_rfl))⟩
noncomputable def rule_Label.E (k : Nat) : Env U := mkE Try.f48 [rule_Right.pk k, rule_within.pk k, label_Of.pk k] [(1000, rule_Label.j1000)] [] [] n0 n0 [] false n00 nl0
theorem rule_Label.eq (k : Nat) (x : (Sapi_Policy × Int)) : runF (rule_Label.E k) (codeOf Try.f48) (rule_Label.i.put x) rule_Label.r.un = rule_Label.f k (x.1) (x.2) := by kernel_rfl
theorem rule_Label.sound (k : Nat) : Sound Try.prog DD 48 (rule_Label.D k) :=
  funP (E := rule_Label.E k) (fn := Try.f48) (c := codeOf Try.f48) (mkE_ok _ _ _ _ _ _ _ _ _ _ _) mixed rfl Try.func48 (by kernel_rfl) (by kernel_rfl) (allL_of (l := []) (by kernel_rfl) allL_nil) rule_Label.i rule_Label.r [] true (fun x => rule_Label.f k (x.1) (x.2)) (fun _ _ => rfl) (by kernel_rfl) (rule_Label.eq k)
noncomputable def rule_Label.pk (k : Nat) : Pk Try.prog DD := ⟨48, rule_Label.D k, rule_Label.sound k, enter_of Try.func48 (by kernel_rfl) (by kernel_rfl)⟩
/-! ### pyx/label.Join: function 49 -/
noncomputable def label_Join.f (k : Nat) (a0 : Sapi_Label) (a1 : Sapi_Label) : Option Sapi_Label := some (⟨bits .or .u64 a0.f_Set a1.f_Set, (if a1.f_Level > a0.f_Level then a1.f_Level else a0.f_Level)⟩ : Sapi_Label)
noncomputable def label_Join.i : Lay U (Sapi_Label × Sapi_Label) := (pcAnd (pcOne 0 (tAt (vCd cd_Sapi_Label))) (pcOne 1 (tAt (vCd cd_Sapi_Label)))).lay (fun _ => by kernel_rfl)
noncomputable def label_Join.r : Lay U Sapi_Label := (pcOne 0 (tAt (vCd cd_Sapi_Label))).lay (fun _ => by kernel_rfl)
noncomputable def label_Join.D (k : Nat) : FDen U := fdn label_Join.i label_Join.r Try.f49.ntmps [] true (fun x => label_Join.f k (x.1) (x.2)) (fun _ _ => rfl)
noncomputable def label_Join.E (k : Nat) : Env U := mkE Try.f49 [] [] [] [] n0 n0 [] false n00 nl0
theorem label_Join.eq (k : Nat) (x : (Sapi_Label × Sapi_Label)) : runF (label_Join.E k) (codeOf Try.f49) (label_Join.i.put x) label_Join.r.un = label_Join.f k (x.1) (x.2) := by kernel_rfl
theorem label_Join.sound (k : Nat) : Sound Try.prog DD 49 (label_Join.D k) :=
  funP (E := label_Join.E k) (fn := Try.f49) (c := codeOf Try.f49) (mkE_ok _ _ _ _ _ _ _ _ _ _ _) mixed rfl Try.func49 (by kernel_rfl) (by kernel_rfl) (allL_of (l := []) (by kernel_rfl) allL_nil) label_Join.i label_Join.r [] true (fun x => label_Join.f k (x.1) (x.2)) (fun _ _ => rfl) (by kernel_rfl) (label_Join.eq k)
noncomputable def label_Join.pk (k : Nat) : Pk Try.prog DD := ⟨49, label_Join.D k, label_Join.sound k, enter_of Try.func49 (by kernel_rfl) (by kernel_rfl)⟩
/-! ### pyx/rule.Group: function 45 -/
noncomputable def rule_Group.l5.once (k : Nat) (x : (List Int × Int × Int × List Sapi_Ent × List Int × List Sapi_Who × List Int × List Sapi_Rule × Int × Int × Int × Int)) : Option ((List Int × Int × Int × List Sapi_Ent × List Int × List Sapi_Who × List Int × List Sapi_Rule × Int × Int × Int × Int) ⊕ ((Int × Int × Int × Int))) := match x with | (x25, x26, x27, x16, x17, x18, x19, x20, x21, x22, x23, x24) => cond (decide (x27 < x26)) (cond (inb x27 (List.length x25)) ((rule_Label.f k (⟨x16, x17, x18, x19, x20⟩ : Sapi_Policy) (List.getD x25 (Int.toNat x27) 0)).bind fun t28 => ((label_Join.f k (⟨x23, x24⟩ : Sapi_Label) (⟨t28.f_Set, t28.f_Level⟩ : Sapi_Label)).bind fun t29 => (some (.inl (x25, x26, IntKind.wrap .i64 (x27 + 1), x16, x17, x18, x19, x20, x21, x22, t29.f_Set, t29.f_Level))))) none) (some (.inr (x21, x22, x23, x24)))
noncomputable def rule_Group.f (k : Nat) (a0 : Sapi_Policy) (a1 : Int) : Option Sapi_Label := (((rule_Right.f k (⟨a0.f_Ents, a0.f_Groups, a0.f_Who, a0.f_Up, a0.f_Rules⟩ : Sapi_Policy)).bind fun t1 => (cond (!t1) (some (a1, true, a0.f_Ents, a0.f_Groups, a0.f_Who, a0.f_Up, a0.f_Rules, 0, 0, 0, 0)) ((rule_within.f k a1 0 (IntKind.wrap .i64 ((List.length a0.f_Groups : Int) - 1))).bind fun t13 => (some (a1, !t13, a0.f_Ents, a0.f_Groups, a0.f_Who, a0.f_Up, a0.f_Rules, 0, 0, 0, 0))))) : Option (Int × Bool × List Sapi_Ent × List Int × List Sapi_Who × List Int × List Sapi_Rule × Int × Int × Int × Int)).bind fun y14 => (cond (y14.2.1) (some (⟨y14.2.2.2.2.2.2.2.2.2.1, y14.2.2.2.2.2.2.2.2.2.2⟩ : Sapi_Label)) (cond (inb y14.1 (List.length y14.2.2.2.1)) ((label_Members.f k (⟨List.getD y14.2.2.2.1 (Int.toNat y14.1) 0, 0⟩ : Sapi_Label)).bind fun t15 => ((iter (rule_Group.l5.once k) k (t15, (List.length t15 : Int), 0, y14.2.2.1, y14.2.2.2.1, y14.2.2.2.2.1, y14.2.2.2.2.2.1, y14.2.2.2.2.2.2.1, y14.2.2.2.2.2.2.2.1, y14.2.2.2.2.2.2.2.2.1, y14.2.2.2.2.2.2.2.2.2.1, y14.2.2.2.2.2.2.2.2.2.2)).bind fun y34 => (some (⟨y34.2.2.1, y34.2.2.2⟩ : Sapi_Label)))) none))
noncomputable def rule_Group.i : Lay U (Sapi_Policy × Int) := (pcAnd (pcOne 0 (tAt (vCd cd_Sapi_Policy))) (pcOne 1 (tAt (vInt .i64)))).lay (fun _ => by kernel_rfl)
noncomputable def rule_Group.r : Lay U Sapi_Label := (pcOne 0 (tAt (vCd cd_Sapi_Label))).lay (fun _ => by kernel_rfl)
noncomputable def rule_Group.D (k : Nat) : FDen U := fdn rule_Group.i rule_Group.r Try.f45.ntmps [] true (fun x => rule_Group.f k (x.1) (x.2)) (fun _ _ => rfl)
noncomputable def rule_Group.l5.i : Lay U (List Int × Int × Int × List Sapi_Ent × List Int × List Sapi_Who × List Int × List Sapi_Rule × Int × Int × Int × Int) := (lay [(2, sPtr 2 0), (4, sPtr 4 0), (5, sPtr 5 0), (27, sAt (vRow DD C.i64)), (28, sAt (vInt .i64)), (29, sAt (vInt .i64))] [bLit 2 [(vRow DD C.Sapi_Ent), (vRow DD C.u64), (vRow DD C.Sapi_Who), (vRow DD C.i64), (vRow DD C.Sapi_Rule)], bLit 4 [(vInt .u64), (vInt .i64)], bLit 5 [(vInt .u64), (vInt .i64)]] (fun _ => by kernel_rfl))
noncomputable def rule_Group.l5.o : OLay U ((Int × Int × Int × Int)) := oExit 0 (lay [(4, sPtr 4 0), (5, sPtr 5 0)] [bLit 4 [(vInt .u64), (vInt .i64)], bLit 5 [(vInt .u64), (vInt .i64)]] (fun _ => by kernel_rfl))
noncomputable def rule_Group.j2000 : Jk U := ⟨(Int × Bool × List Sapi_Ent × List Int × List Sapi_Who × List Int × List Sapi_Rule × Int × Int × Int × Int), oNorm (lay [(2, sPtr 2 0), (4, sPtr 4 0), (5, sPtr 5 0), (1, sAt (vInt .i64)), (19, sAt vBool)] [bLit 2 [(vRow DD C.Sapi_Ent), (vRow DD C.u64), (vRow DD C.Sapi_Who), (vRow DD C.i64), (vRow DD C.Sapi_Rule)], bLit 4 [(vInt .u64), (vInt .i64)], bLit 5 [(vInt .u64), (vInt .i64)]] (fun _ => by kernel_rfl))⟩
noncomputable def rule_Group.E (k : Nat) : Env U := mkE Try.f45 [rule_Right.pk k, rule_within.pk k, label_Members.pk k, rule_Label.pk k, label_Join.pk k] [(2000, rule_Group.j2000)] [(5, ldn rule_Group.l5.i rule_Group.l5.o (iter (rule_Group.l5.once k) k))] [] n0 n0 [] false n00 nl0
theorem rule_Group.l5.eq (k : Nat) (x : (List Int × Int × Int × List Sapi_Ent × List Int × List Sapi_Who × List Int × List Sapi_Rule × Int × Int × Int × Int)) : evC (rule_Group.E k) (loopAt Try.f45 5) (rule_Group.l5.i.put x) (headK rule_Group.l5.i.un rule_Group.l5.o.re) = rule_Group.l5.once k x := by kernel_rfl
theorem rule_Group.l5.sound (k : Nat) : LSound (rule_Group.E k) Try.f45.ntmps Try.f45 (loopAt Try.f45 5) (ldn rule_Group.l5.i rule_Group.l5.o (iter (rule_Group.l5.once k) k)) :=
  loopP (mkE_ok _ _ _ _ _ _ _ _ _ _ _) mixed rfl (by kernel_rfl) (allL_of (l := []) (by kernel_rfl) allL_nil) rule_Group.l5.i rule_Group.l5.o (rule_Group.l5.once k) k (rule_Group.l5.eq k)
theorem rule_Group.eq (k : Nat) (x : (Sapi_Policy × Int)) : runF (rule_Group.E k) (codeOf Try.f45) (rule_Group.i.put x) rule_Group.r.un = rule_Group.f k (x.1) (x.2) := by kernel_rfl
theorem rule_Group.sound (k : Nat) : Sound Try.prog DD 45 (rule_Group.D k) :=
  funP (E := rule_Group.E k) (fn := Try.f45) (c := codeOf Try.f45) (mkE_ok _ _ _ _ _ _ _ _ _ _ _) mixed rfl Try.func45 (by kernel_rfl) (by kernel_rfl) (allL_of (l := [loopAt Try.f45 5]) (by kernel_rfl) (allL_cons (key := 5) (by kernel_rfl) rfl (rule_Group.l5.sound k) allL_nil)) rule_Group.i rule_Group.r [] true (fun x => rule_Group.f k (x.1) (x.2)) (fun _ _ => rfl) (by kernel_rfl) (rule_Group.eq k)
noncomputable def rule_Group.pk (k : Nat) : Pk Try.prog DD := ⟨45, rule_Group.D k, rule_Group.sound k, enter_of Try.func45 (by kernel_rfl) (by kernel_rfl)⟩
/-! ### pyx/label.Below: function 81 -/
noncomputable def label_Below.f (k : Nat) (a0 : Sapi_Label) (a1 : Sapi_Label) : Option Bool := cond ((bits .andNot .u64 a0.f_Set a1.f_Set) == 0) (some (decide (a0.f_Level ≤ a1.f_Level))) (some false)
noncomputable def label_Below.i : Lay U (Sapi_Label × Sapi_Label) := (pcAnd (pcOne 0 (tAt (vCd cd_Sapi_Label))) (pcOne 1 (tAt (vCd cd_Sapi_Label)))).lay (fun _ => by kernel_rfl)
noncomputable def label_Below.r : Lay U Bool := (pcOne 0 (tAt vBool)).lay (fun _ => by kernel_rfl)
noncomputable def label_Below.D (k : Nat) : FDen U := fdn label_Below.i label_Below.r Try.f81.ntmps [] true (fun x => label_Below.f k (x.1) (x.2)) (fun _ _ => rfl)
noncomputable def label_Below.E (k : Nat) : Env U := mkE Try.f81 [] [] [] [] n0 n0 [] false n00 nl0
theorem label_Below.eq (k : Nat) (x : (Sapi_Label × Sapi_Label)) : runF (label_Below.E k) (codeOf Try.f81) (label_Below.i.put x) label_Below.r.un = label_Below.f k (x.1) (x.2) := by kernel_rfl
theorem label_Below.sound (k : Nat) : Sound Try.prog DD 81 (label_Below.D k) :=
  funP (E := label_Below.E k) (fn := Try.f81) (c := codeOf Try.f81) (mkE_ok _ _ _ _ _ _ _ _ _ _ _) mixed rfl Try.func81 (by kernel_rfl) (by kernel_rfl) (allL_of (l := []) (by kernel_rfl) allL_nil) label_Below.i label_Below.r [] true (fun x => label_Below.f k (x.1) (x.2)) (fun _ _ => rfl) (by kernel_rfl) (label_Below.eq k)
noncomputable def label_Below.pk (k : Nat) : Pk Try.prog DD := ⟨81, label_Below.D k, label_Below.sound k, enter_of Try.func81 (by kernel_rfl) (by kernel_rfl)⟩
/-! ### pyx/rule.Sees: function 47 -/
noncomputable def rule_Sees.f (k : Nat) (a0 : Sapi_Policy) (a1 : Int) (a2 : Sapi_Label) : Option Bool := (rule_Right.f k (⟨a0.f_Ents, a0.f_Groups, a0.f_Who, a0.f_Up, a0.f_Rules⟩ : Sapi_Policy)).bind fun t1 => (cond (t1) ((rule_within.f k a1 0 (IntKind.wrap .i64 ((List.length a0.f_Who : Int) - 1))).bind fun t2 => (cond (t2) (cond (inb a1 (List.length a0.f_Who)) ((label_Below.f k (⟨a2.f_Set, a2.f_Level⟩ : Sapi_Label) (⟨((List.getD a0.f_Who (Int.toNat a1) Sapi_Who.zero).f_Clear).f_Set, ((List.getD a0.f_Who (Int.toNat a1) Sapi_Who.zero).f_Clear).f_Level⟩ : Sapi_Label)).bind fun t3 => (some t3)) none) (some false))) (some false))
noncomputable def rule_Sees.i : Lay U (Sapi_Policy × Int × Sapi_Label) := (pcAnd (pcOne 0 (tAt (vCd cd_Sapi_Policy))) (pcAnd (pcOne 1 (tAt (vInt .i64))) (pcOne 2 (tAt (vCd cd_Sapi_Label))))).lay (fun _ => by kernel_rfl)
noncomputable def rule_Sees.r : Lay U Bool := (pcOne 0 (tAt vBool)).lay (fun _ => by kernel_rfl)
noncomputable def rule_Sees.D (k : Nat) : FDen U := fdn rule_Sees.i rule_Sees.r Try.f47.ntmps [] true (fun x => rule_Sees.f k (x.1) (x.2.1) (x.2.2)) (fun _ _ => rfl)
noncomputable def rule_Sees.E (k : Nat) : Env U := mkE Try.f47 [rule_Right.pk k, rule_within.pk k, label_Below.pk k] [] [] [] n0 n0 [] false n00 nl0
theorem rule_Sees.eq (k : Nat) (x : (Sapi_Policy × Int × Sapi_Label)) : runF (rule_Sees.E k) (codeOf Try.f47) (rule_Sees.i.put x) rule_Sees.r.un = rule_Sees.f k (x.1) (x.2.1) (x.2.2) := by kernel_rfl
theorem rule_Sees.sound (k : Nat) : Sound Try.prog DD 47 (rule_Sees.D k) :=
  funP (E := rule_Sees.E k) (fn := Try.f47) (c := codeOf Try.f47) (mkE_ok _ _ _ _ _ _ _ _ _ _ _) mixed rfl Try.func47 (by kernel_rfl) (by kernel_rfl) (allL_of (l := []) (by kernel_rfl) allL_nil) rule_Sees.i rule_Sees.r [] true (fun x => rule_Sees.f k (x.1) (x.2.1) (x.2.2)) (fun _ _ => rfl) (by kernel_rfl) (rule_Sees.eq k)
noncomputable def rule_Sees.pk (k : Nat) : Pk Try.prog DD := ⟨47, rule_Sees.D k, rule_Sees.sound k, enter_of Try.func47 (by kernel_rfl) (by kernel_rfl)⟩
/-! ### pyx/pyxlaw10.small: function 51 -/
noncomputable def pyxlaw10_small.f (k : Nat)  : Option Sapi_Policy := some (⟨[(⟨1, 0, (-1), 10000⟩ : Sapi_Ent), (⟨2, 0, 0, 5000⟩ : Sapi_Ent)], [3], [(⟨(⟨3, 2⟩ : Sapi_Label), 1⟩ : Sapi_Who), (⟨(⟨1, 1⟩ : Sapi_Label), 0⟩ : Sapi_Who)], [(-1)], ([] : List Sapi_Rule)⟩ : Sapi_Policy)
noncomputable def pyxlaw10_small.i : Lay U Unit := (pcUnit).lay (fun _ => by kernel_rfl)
noncomputable def pyxlaw10_small.r : Lay U Sapi_Policy := (pcOne 0 (tAt (vCd cd_Sapi_Policy))).lay (fun _ => by kernel_rfl)
noncomputable def pyxlaw10_small.D (k : Nat) : FDen U := fdn pyxlaw10_small.i pyxlaw10_small.r Try.f51.ntmps [] true (fun x => pyxlaw10_small.f k ) (fun _ _ => rfl)
noncomputable def pyxlaw10_small.E (k : Nat) : Env U := mkE Try.f51 [] [] [] [] n0 n0 [] false n00 nl0
theorem pyxlaw10_small.eq (k : Nat) (x : Unit) : runF (pyxlaw10_small.E k) (codeOf Try.f51) (pyxlaw10_small.i.put x) pyxlaw10_small.r.un = pyxlaw10_small.f k  := by kernel_rfl
theorem pyxlaw10_small.sound (k : Nat) : Sound Try.prog DD 51 (pyxlaw10_small.D k) :=
  funP (E := pyxlaw10_small.E k) (fn := Try.f51) (c := codeOf Try.f51) (mkE_ok _ _ _ _ _ _ _ _ _ _ _) mixed rfl Try.func51 (by kernel_rfl) (by kernel_rfl) (allL_of (l := []) (by kernel_rfl) allL_nil) pyxlaw10_small.i pyxlaw10_small.r [] true (fun x => pyxlaw10_small.f k ) (fun _ _ => rfl) (by kernel_rfl) (pyxlaw10_small.eq k)
noncomputable def pyxlaw10_small.pk (k : Nat) : Pk Try.prog DD := ⟨51, pyxlaw10_small.D k, pyxlaw10_small.sound k, enter_of Try.func51 (by kernel_rfl) (by kernel_rfl)⟩
/-! ### pyx/role.bit: function 104 -/
noncomputable def role_bit.f (k : Nat) (a0 : Int) : Option Int := cond (decide (IntKind.wrap .u64 (a0) < 0)) none (some (IntKind.wrap .u64 (1 * 2 ^ (min (Int.toNat (IntKind.wrap .u64 (a0))) 64))))
noncomputable def role_bit.i : Lay U Int := (pcOne 0 (tAt (vInt .i64))).lay (fun _ => by kernel_rfl)
noncomputable def role_bit.r : Lay U Int := (pcOne 0 (tAt (vInt .u64))).lay (fun _ => by kernel_rfl)
noncomputable def role_bit.D (k : Nat) : FDen U := fdn role_bit.i role_bit.r Try.f104.ntmps [] true (fun x => role_bit.f k (x)) (fun _ _ => rfl)
noncomputable def role_bit.E (k : Nat) : Env U := mkE Try.f104 [] [] [] [] n0 n0 [] false n00 nl0
theorem role_bit.eq (k : Nat) (x : Int) : runF (role_bit.E k) (codeOf Try.f104) (role_bit.i.put x) role_bit.r.un = role_bit.f k (x) := by kernel_rfl
theorem role_bit.sound (k : Nat) : Sound Try.prog DD 104 (role_bit.D k) :=
  funP (E := role_bit.E k) (fn := Try.f104) (c := codeOf Try.f104) (mkE_ok _ _ _ _ _ _ _ _ _ _ _) mixed rfl Try.func104 (by kernel_rfl) (by kernel_rfl) (allL_of (l := []) (by kernel_rfl) allL_nil) role_bit.i role_bit.r [] true (fun x => role_bit.f k (x)) (fun _ _ => rfl) (by kernel_rfl) (role_bit.eq k)
noncomputable def role_bit.pk (k : Nat) : Pk Try.prog DD := ⟨104, role_bit.D k, role_bit.sound k, enter_of Try.func104 (by kernel_rfl) (by kernel_rfl)⟩
/-! ### pyx/role.All: function 103 -/
noncomputable def role_All.l5.once (k : Nat) (x : (List Int × Int × Int)) : Option ((List Int × Int × Int) ⊕ (Int)) := match x with | (x3, x4, x5) => cond (decide (x5 ≥ 0)) ((((((role_bit.f k x5).bind fun t6 => (cond (decide ((bits .and .u64 x4 t6) > 0)) (cond (inb x5 (List.length x3)) (some (x3, x4, x5, decide ((List.getD x3 (Int.toNat x5) 0) ≥ 0))) none) (some (x3, x4, x5, false)))) : Option (List Int × Int × Int × Bool)).bind fun y11 => (cond (y11.2.2.2) (cond (inb y11.2.2.1 (List.length y11.1)) ((role_bit.f k (List.getD y11.1 (Int.toNat y11.2.2.1) 0)).bind fun t12 => (some (y11.1, bits .or .u64 y11.2.1 t12, y11.2.2.1))) none) (some (y11.1, y11.2.1, y11.2.2.1)))) : Option (List Int × Int × Int)).bind fun y16 => (some (.inl (y16.1, y16.2.1, IntKind.wrap .i64 (y16.2.2 - 1))))) (some (.inr x4))
noncomputable def role_All.f (k : Nat) (a0 : List Int) (a1 : Int) : Option Int := (role_Right.f k a0).bind fun t1 => (cond (!t1) (some 0) ((role_bit.f k (List.length a0 : Int)).bind fun t2 => ((iter (role_All.l5.once k) k (a0, bits .and .u64 a1 (IntKind.wrap .u64 (t2 - 1)), IntKind.wrap .i64 ((List.length a0 : Int) - 1))).bind fun y18 => (some y18))))
noncomputable def role_All.i : Lay U (List Int × Int) := (pcAnd (pcOne 0 (tAt (vRow DD C.i64))) (pcOne 1 (tAt (vInt .u64)))).lay (fun _ => by kernel_rfl)
noncomputable def role_All.r : Lay U Int := (pcOne 0 (tAt (vInt .u64))).lay (fun _ => by kernel_rfl)
noncomputable def role_All.D (k : Nat) : FDen U := fdn role_All.i role_All.r Try.f103.ntmps [] true (fun x => role_All.f k (x.1) (x.2)) (fun _ _ => rfl)
noncomputable def role_All.l5.i : Lay U (List Int × Int × Int) := (lay [(0, sAt (vRow DD C.i64)), (5, sAt (vInt .u64)), (6, sAt (vInt .i64))] [] (fun _ => by kernel_rfl))
noncomputable def role_All.l5.o : OLay U (Int) := oExit 0 (lay [(5, sAt (vInt .u64))] [] (fun _ => by kernel_rfl))
noncomputable def role_All.j7000 : Jk U := ⟨(List Int × Int × Int × Bool), oNorm (lay [(0, sAt (vRow DD C.i64)), (5, sAt (vInt .u64)), (6, sAt (vInt .i64)), (34, sAt vBool)] [] (fun _ => by kernel_rfl))⟩
noncomputable def role_All.j7001 : Jk U := ⟨(List Int × Int × Int), oNorm (lay [(0, sAt (vRow DD C.i64)), (5, sAt (vInt .u64)), (6, sAt (vInt .i64))] [] (fun _ => by kernel_rfl))⟩
noncomputable def role_All.E (k : Nat) : Env U := mkE Try.f103 [role_Right.pk k, role_bit.pk k] [(7000, role_All.j7000), (7001, role_All.j7001)] [(5, ldn role_All.l5.i role_All.l5.o (iter (role_All.l5.once k) k))] [] n0 n0 [] false n00 nl0
theorem role_All.l5.eq (k : Nat) (x : (List Int × Int × Int)) : evC (role_All.E k) (loopAt Try.f103 5) (role_All.l5.i.put x) (headK role_All.l5.i.un role_All.l5.o.re) = role_All.l5.once k x := by kernel_rfl
theorem role_All.l5.sound (k : Nat) : LSound (role_All.E k) Try.f103.ntmps Try.f103 (loopAt Try.f103 5) (ldn role_All.l5.i role_All.l5.o (iter (role_All.l5.once k) k)) :=
  loopP (mkE_ok _ _ _ _ _ _ _ _ _ _ _) mixed rfl (by kernel_rfl) (allL_of (l := []) (by kernel_rfl) allL_nil) role_All.l5.i role_All.l5.o (role_All.l5.once k) k (role_All.l5.eq k)
theorem role_All.eq (k : Nat) (x : (List Int × Int)) : runF (role_All.E k) (codeOf Try.f103) (role_All.i.put x) role_All.r.un = role_All.f k (x.1) (x.2) := by kernel_rfl
theorem role_All.sound (k : Nat) : Sound Try.prog DD 103 (role_All.D k) :=
  funP (E := role_All.E k) (fn := Try.f103) (c := codeOf Try.f103) (mkE_ok _ _ _ _ _ _ _ _ _ _ _) mixed rfl Try.func103 (by kernel_rfl) (by kernel_rfl) (allL_of (l := [loopAt Try.f103 5]) (by kernel_rfl) (allL_cons (key := 5) (by kernel_rfl) rfl (role_All.l5.sound k) allL_nil)) role_All.i role_All.r [] true (fun x => role_All.f k (x.1) (x.2)) (fun _ _ => rfl) (by kernel_rfl) (role_All.eq k)
noncomputable def role_All.pk (k : Nat) : Pk Try.prog DD := ⟨103, role_All.D k, role_All.sound k, enter_of Try.func103 (by kernel_rfl) (by kernel_rfl)⟩
/-! ### pyx/role.Has: function 77 -/
noncomputable def role_Has.f (k : Nat) (a0 : List Int) (a1 : Int) (a2 : Int) : Option Bool := cond (decide (a2 ≥ 0)) (cond (decide (a2 < (List.length a0 : Int))) ((role_All.f k a0 a1).bind fun t1 => ((role_bit.f k a2).bind fun t2 => (some (decide ((bits .and .u64 t1 t2) > 0))))) (some false)) (some false)
noncomputable def role_Has.i : Lay U (List Int × Int × Int) := (pcAnd (pcOne 0 (tAt (vRow DD C.i64))) (pcAnd (pcOne 1 (tAt (vInt .u64))) (pcOne 2 (tAt (vInt .i64))))).lay (fun _ => by kernel_rfl)
noncomputable def role_Has.r : Lay U Bool := (pcOne 0 (tAt vBool)).lay (fun _ => by kernel_rfl)
noncomputable def role_Has.D (k : Nat) : FDen U := fdn role_Has.i role_Has.r Try.f77.ntmps [] true (fun x => role_Has.f k (x.1) (x.2.1) (x.2.2)) (fun _ _ => rfl)
noncomputable def role_Has.E (k : Nat) : Env U := mkE Try.f77 [role_All.pk k, role_bit.pk k] [] [] [] n0 n0 [] false n00 nl0
theorem role_Has.eq (k : Nat) (x : (List Int × Int × Int)) : runF (role_Has.E k) (codeOf Try.f77) (role_Has.i.put x) role_Has.r.un = role_Has.f k (x.1) (x.2.1) (x.2.2) := by kernel_rfl
theorem role_Has.sound (k : Nat) : Sound Try.prog DD 77 (role_Has.D k) :=
  funP (E := role_Has.E k) (fn := Try.f77) (c := codeOf Try.f77) (mkE_ok _ _ _ _ _ _ _ _ _ _ _) mixed rfl Try.func77 (by kernel_rfl) (by kernel_rfl) (allL_of (l := []) (by kernel_rfl) allL_nil) role_Has.i role_Has.r [] true (fun x => role_Has.f k (x.1) (x.2.1) (x.2.2)) (fun _ _ => rfl) (by kernel_rfl) (role_Has.eq k)
noncomputable def role_Has.pk (k : Nat) : Pk Try.prog DD := ⟨77, role_Has.D k, role_Has.sound k, enter_of Try.func77 (by kernel_rfl) (by kernel_rfl)⟩
/-! ### pyx/rule.May$1: function 79 -/
noncomputable def rule_May_1.f (k : Nat) (a0 : Sapi_Rule) : Option Bool := some (a0.f_Tag == 2)
noncomputable def rule_May_1.i : Lay U Sapi_Rule := (pcOne 0 (tAt (vCd cd_Sapi_Rule))).lay (fun _ => by kernel_rfl)
noncomputable def rule_May_1.r : Lay U Bool := (pcOne 0 (tAt vBool)).lay (fun _ => by kernel_rfl)
noncomputable def rule_May_1.D (k : Nat) : FDen U := fdn rule_May_1.i rule_May_1.r Try.f79.ntmps [] true (fun x => rule_May_1.f k (x)) (fun _ _ => rfl)
noncomputable def rule_May_1.E (k : Nat) : Env U := mkE Try.f79 [] [] [] [] n0 n0 [] false n00 nl0
theorem rule_May_1.eq (k : Nat) (x : Sapi_Rule) : runF (rule_May_1.E k) (codeOf Try.f79) (rule_May_1.i.put x) rule_May_1.r.un = rule_May_1.f k (x) := by kernel_rfl
theorem rule_May_1.sound (k : Nat) : Sound Try.prog DD 79 (rule_May_1.D k) :=
  funP (E := rule_May_1.E k) (fn := Try.f79) (c := codeOf Try.f79) (mkE_ok _ _ _ _ _ _ _ _ _ _ _) mixed rfl Try.func79 (by kernel_rfl) (by kernel_rfl) (allL_of (l := []) (by kernel_rfl) allL_nil) rule_May_1.i rule_May_1.r [] true (fun x => rule_May_1.f k (x)) (fun _ _ => rfl) (by kernel_rfl) (rule_May_1.eq k)
noncomputable def rule_May_1.pk (k : Nat) : Pk Try.prog DD := ⟨79, rule_May_1.D k, rule_May_1.sound k, enter_of Try.func79 (by kernel_rfl) (by kernel_rfl)⟩
/-! ### slices.IndexFunc[[]pyx/api.Rule,pyx/api.Rule]: function 105 -/
noncomputable def slices_IndexFunc_api_Rule_c79.l2.once (k : Nat) (x : (List Sapi_Rule × Int × Int)) : Option ((List Sapi_Rule × Int × Int) ⊕ (Unit ⊕ Int)) := match x with | (x1, x2, x3) => cond (decide (x3 < x2)) (cond (inb x3 (List.length x1)) ((rule_May_1.f k (⟨(List.getD x1 (Int.toNat x3) Sapi_Rule.zero).f_Tag, (List.getD x1 (Int.toNat x3) Sapi_Rule.zero).f_Role, (List.getD x1 (Int.toNat x3) Sapi_Rule.zero).f_Verb, (List.getD x1 (Int.toNat x3) Sapi_Rule.zero).f_Ent, (List.getD x1 (Int.toNat x3) Sapi_Rule.zero).f_Group, (List.getD x1 (Int.toNat x3) Sapi_Rule.zero).f_Line, (⟨((List.getD x1 (Int.toNat x3) Sapi_Rule.zero).f_Unit).f_Neg, ((((List.getD x1 (Int.toNat x3) Sapi_Rule.zero).f_Unit).f_C).1, (((List.getD x1 (Int.toNat x3) Sapi_Rule.zero).f_Unit).f_C).2), ((List.getD x1 (Int.toNat x3) Sapi_Rule.zero).f_Unit).f_Scale⟩ : Sapi_Dec), (⟨((List.getD x1 (Int.toNat x3) Sapi_Rule.zero).f_To).f_Set, ((List.getD x1 (Int.toNat x3) Sapi_Rule.zero).f_To).f_Level⟩ : Sapi_Label)⟩ : Sapi_Rule)).bind fun t4 => (cond (t4) (some (.inr (.inr x3))) (some (.inl (x1, x2, IntKind.wrap .i64 (x3 + 1)))))) none) (some (.inr (.inl ())))
noncomputable def slices_IndexFunc_api_Rule_c79.f (k : Nat) (a0 : List Sapi_Rule) (a1 : Unit) : Option Int := (iter (slices_IndexFunc_api_Rule_c79.l2.once k) k (a0, (List.length a0 : Int), 0)).bind fun | .inl y6 => (some (-1)) | .inr y7 => (some y7)
noncomputable def slices_IndexFunc_api_Rule_c79.un (s : St U) : Option (List Sapi_Rule × Unit) := match s.get 0, s.get 1 with | .row C.Sapi_Rule x1, .fn 79 [] => some (x1, ()) | _, _ => none
noncomputable def slices_IndexFunc_api_Rule_c79.mk (x : (List Sapi_Rule × Unit)) : St U := ⟨[(0, .row C.Sapi_Rule x.1), (1, .fn 79 [])], []⟩
noncomputable def slices_IndexFunc_api_Rule_c79.fin (y : Int) : St U := ⟨[(0, .flat (.int .i64 y))], []⟩
noncomputable def slices_IndexFunc_api_Rule_c79.D (k : Nat) : FDen U := { X := (List Sapi_Rule × Unit), Y := Int, nt := 19, gh := [], un := slices_IndexFunc_api_Rule_c79.un, f := fun x => slices_IndexFunc_api_Rule_c79.f k (x.1) (x.2), fin := slices_IndexFunc_api_Rule_c79.fin, cl := true, clo := fun _ _ => rfl }
noncomputable def slices_IndexFunc_api_Rule_c79.re (s : St U) : Option Int := match s.get 0 with | .flat (.int .i64 x1) => some x1 | _ => none
noncomputable def slices_IndexFunc_api_Rule_c79.l2.mk (x : (List Sapi_Rule × Int × Int)) : St U := match x with | (x1, x2, x3) => ⟨[(0, .row C.Sapi_Rule x1), (1, .fn 79 []), (7, .flat (.int .i64 x2)), (8, .flat (.int .i64 x3))], []⟩
noncomputable def slices_IndexFunc_api_Rule_c79.l2.un (s : St U) : Option (List Sapi_Rule × Int × Int) := (row_Sapi_Rule (s.get 0)).bind fun q0 => (match s.get 1, s.get 7, s.get 8 with | .fn 79 [], .flat (.int .i64 x2), .flat (.int .i64 x3) => some (q0, x2, x3) | _, _, _ => none)
noncomputable def slices_IndexFunc_api_Rule_c79.l2.fin (y : Unit ⊕ Int) : Out U := match y with | .inl () => .exit 0 ⟨[], []⟩ | .inr z => .ret (⟨[(0, .flat (.int .i64 z))], []⟩)
noncomputable def slices_IndexFunc_api_Rule_c79.l2.finK {ρ : Type} (y : Unit ⊕ Int) (K : Out U → Option ρ) : Option ρ := match y with | .inl () => K (.exit 0 ⟨[], []⟩) | .inr z => K (.ret (⟨[(0, .flat (.int .i64 z))], []⟩))
theorem slices_IndexFunc_api_Rule_c79.l2.finK_eq {ρ : Type} (y : Unit ⊕ Int) (K : Out U → Option ρ) : slices_IndexFunc_api_Rule_c79.l2.finK y K = K (slices_IndexFunc_api_Rule_c79.l2.fin y) := by
  unfold slices_IndexFunc_api_Rule_c79.l2.finK slices_IndexFunc_api_Rule_c79.l2.fin
  first | rfl | (split <;> rfl)
noncomputable def slices_IndexFunc_api_Rule_c79.l2.re : Out U → Option (Unit ⊕ Int) | .exit 0 s => (some (.inl ())) | .ret s => (match s.get 0 with | .flat (.int .i64 x1) => some (.inr x1) | _ => none) | _ => none
noncomputable def slices_IndexFunc_api_Rule_c79.l2.L (k : Nat) : LDen U := { X := (List Sapi_Rule × Int × Int), Y := Unit ⊕ Int, un := slices_IndexFunc_api_Rule_c79.l2.un, f := iter (slices_IndexFunc_api_Rule_c79.l2.once k) k, fin := slices_IndexFunc_api_Rule_c79.l2.fin, finK := slices_IndexFunc_api_Rule_c79.l2.finK, finK_eq := slices_IndexFunc_api_Rule_c79.l2.finK_eq }
noncomputable def slices_IndexFunc_api_Rule_c79.jl : List (Nat × JDen U) := []
noncomputable def slices_IndexFunc_api_Rule_c79.fl (k : Nat) : List (Nat × FDen U) := [(79, rule_May_1.D k)]
noncomputable def slices_IndexFunc_api_Rule_c79.ll (k : Nat) : List (Nat × LDen U) := [(2, slices_IndexFunc_api_Rule_c79.l2.L k)]
noncomputable def slices_IndexFunc_api_Rule_c79.E (k : Nat) : Env U := { P := Try.prog, D := DD, fd := lk (slices_IndexFunc_api_Rule_c79.fl k), sf := lk sl0, ld := lk (slices_IndexFunc_api_Rule_c79.ll k), jd := lk slices_IndexFunc_api_Rule_c79.jl, mode := lk [], elc := lk ec, mpc := lk mc, rts := Try.f105.resultTypes.toList, dyn := fun t => false, vecs := fun d => false, results := Try.f105.results.toList, gh := [], own := false, io := fun g i => false, lds := nl0 }
theorem slices_IndexFunc_api_Rule_c79.ok (k : Nat) : EnvOk (slices_IndexFunc_api_Rule_c79.E k) := envOk lawful (slices_IndexFunc_api_Rule_c79.fl k) sl0 (slices_IndexFunc_api_Rule_c79.ll k) slices_IndexFunc_api_Rule_c79.jl _ _ _ _ _ _ _ _ _ _ _ (by
  intro p hp
  simp only [slices_IndexFunc_api_Rule_c79.fl, List.mem_cons, List.not_mem_nil, or_false] at hp
  rcases hp with rfl
  · exact ⟨rule_May_1.sound k, enter_of Try.func79 (by kernel_rfl) (by kernel_rfl)⟩) sl0_ok (by
  intro p hp
  simp [slices_IndexFunc_api_Rule_c79.jl] at hp)
theorem slices_IndexFunc_api_Rule_c79.l2.eq (k : Nat) (x : (List Sapi_Rule × Int × Int)) : evC (slices_IndexFunc_api_Rule_c79.E k) (loopAt Try.f105 2) (slices_IndexFunc_api_Rule_c79.l2.mk x) (headK slices_IndexFunc_api_Rule_c79.l2.un slices_IndexFunc_api_Rule_c79.l2.re) = slices_IndexFunc_api_Rule_c79.l2.once k x := by kernel_rfl
theorem slices_IndexFunc_api_Rule_c79.l2.fit (s : St U) (x : (List Sapi_Rule × Int × Int)) (h : slices_IndexFunc_api_Rule_c79.l2.un s = some x) : Fits s (slices_IndexFunc_api_Rule_c79.l2.mk x) := by
  unfold slices_IndexFunc_api_Rule_c79.l2.un at h
  obtain ⟨q0, eq0, h1⟩ := Option.bind_eq_some_iff.1 h
  split at h1
  · cases h1
    refine fits_ren [] ?_ ?_ ren_nil rfl
    · exact List.forall_mem_cons.2 ⟨FV.one (row_Sapi_Rule_fit eq0), List.forall_mem_cons.2 ⟨FV.one (FV.same (by assumption) rfl), List.forall_mem_cons.2 ⟨FV.one (FV.same (by assumption) rfl), List.forall_mem_cons.2 ⟨FV.one (FV.same (by assumption) rfl), fun _ hp => (List.not_mem_nil hp).elim⟩⟩⟩⟩
    · exact fun _ hp => (List.not_mem_nil hp).elim
  · cases h1
theorem slices_IndexFunc_api_Rule_c79.l2.fitO (o : Out U) (y : Unit ⊕ Int) (h : slices_IndexFunc_api_Rule_c79.l2.re o = some y) : FitsO o (slices_IndexFunc_api_Rule_c79.l2.fin y) := by
  unfold slices_IndexFunc_api_Rule_c79.l2.re at h
  split at h
  · cases h
    refine fitsO_exit (fits_ren [] ?_ ?_ ren_nil rfl)
    · exact fun _ hp => (List.not_mem_nil hp).elim
    · exact fun _ hp => (List.not_mem_nil hp).elim
  · split at h
    · cases h
      refine fitsO_ret (fits_ren [] ?_ ?_ ren_nil rfl)
      · exact List.forall_mem_cons.2 ⟨FV.one (FV.same (by assumption) rfl), fun _ hp => (List.not_mem_nil hp).elim⟩
      · exact fun _ hp => (List.not_mem_nil hp).elim
    · cases h
  · cases h
theorem slices_IndexFunc_api_Rule_c79.l2.sound (k : Nat) : LSound (slices_IndexFunc_api_Rule_c79.E k) Try.f105.ntmps Try.f105 (loopAt Try.f105 2) (slices_IndexFunc_api_Rule_c79.l2.L k) :=
  loop_sound (slices_IndexFunc_api_Rule_c79.ok k) mixed rfl (by kernel_rfl) (allL_of (l := []) (by kernel_rfl) allL_nil) slices_IndexFunc_api_Rule_c79.l2.un slices_IndexFunc_api_Rule_c79.l2.mk slices_IndexFunc_api_Rule_c79.l2.fin slices_IndexFunc_api_Rule_c79.l2.re (slices_IndexFunc_api_Rule_c79.l2.once k) k slices_IndexFunc_api_Rule_c79.l2.fit slices_IndexFunc_api_Rule_c79.l2.fitO (slices_IndexFunc_api_Rule_c79.l2.eq k) slices_IndexFunc_api_Rule_c79.l2.finK slices_IndexFunc_api_Rule_c79.l2.finK_eq
theorem slices_IndexFunc_api_Rule_c79.eq (k : Nat) (x : (List Sapi_Rule × Unit)) : runF (slices_IndexFunc_api_Rule_c79.E k) (codeOf Try.f105) (slices_IndexFunc_api_Rule_c79.mk x) slices_IndexFunc_api_Rule_c79.re = (slices_IndexFunc_api_Rule_c79.D k).f x := by kernel_rfl
theorem slices_IndexFunc_api_Rule_c79.fit (s : St U) (x : (List Sapi_Rule × Unit)) (h : slices_IndexFunc_api_Rule_c79.un s = some x) : Fits s (slices_IndexFunc_api_Rule_c79.mk x) := by
  unfold slices_IndexFunc_api_Rule_c79.un at h
  split at h
  · cases h
    refine fits_ren [] ?_ ?_ ren_nil rfl
    · exact List.forall_mem_cons.2 ⟨FV.one (FV.same (by assumption) rfl), List.forall_mem_cons.2 ⟨FV.one (FV.same (by assumption) rfl), fun _ hp => (List.not_mem_nil hp).elim⟩⟩
    · exact fun _ hp => (List.not_mem_nil hp).elim
  · cases h
theorem slices_IndexFunc_api_Rule_c79.fitR (s : St U) (y : Int) (h : slices_IndexFunc_api_Rule_c79.re s = some y) : Fits s (slices_IndexFunc_api_Rule_c79.fin y) := by
  unfold slices_IndexFunc_api_Rule_c79.re at h
  split at h
  · cases h
    refine fits_ren [] ?_ ?_ ren_nil rfl
    · exact List.forall_mem_cons.2 ⟨FV.one (FV.same (by assumption) rfl), fun _ hp => (List.not_mem_nil hp).elim⟩
    · exact fun _ hp => (List.not_mem_nil hp).elim
  · cases h
theorem slices_IndexFunc_api_Rule_c79.sound (k : Nat) : Sound Try.prog DD 105 (slices_IndexFunc_api_Rule_c79.D k) :=
  fun_sound (E := slices_IndexFunc_api_Rule_c79.E k) (fn := Try.f105) (c := codeOf Try.f105) (slices_IndexFunc_api_Rule_c79.ok k) mixed rfl Try.func105 (by kernel_rfl) (by kernel_rfl) (allL_of (l := [loopAt Try.f105 2]) (by kernel_rfl) (allL_cons (key := 2) (by kernel_rfl) rfl (slices_IndexFunc_api_Rule_c79.l2.sound k) allL_nil)) (slices_IndexFunc_api_Rule_c79.D k) slices_IndexFunc_api_Rule_c79.mk slices_IndexFunc_api_Rule_c79.re (by kernel_rfl) (by kernel_rfl) slices_IndexFunc_api_Rule_c79.fit slices_IndexFunc_api_Rule_c79.fitR (slices_IndexFunc_api_Rule_c79.eq k)
noncomputable def slices_IndexFunc_api_Rule_c79.pk (k : Nat) : Pk Try.prog DD := ⟨105, slices_IndexFunc_api_Rule_c79.D k, slices_IndexFunc_api_Rule_c79.sound k, enter_of Try.func105 (by kernel_rfl) (by kernel_rfl)⟩
end
end Go.Proofs.Ythknecaigoilmaa
