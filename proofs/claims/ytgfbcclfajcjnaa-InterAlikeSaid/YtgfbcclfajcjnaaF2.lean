import Derived.Test.YtgfbcclfajcjnaaF1
/-! Functions, told; their equations with the evaluator; that they are sound. Written by gen.py. -/
namespace Go.Proofs.Ytgfbcclfajcjnaa
open Go Go.Ev
noncomputable section
set_option linter.unusedVariables false
set_option linter.unusedSimpArgs false
set_option maxRecDepth 100000
/-! ### pyx/dec.small: function 50 -/
noncomputable def dec_small.f (k : Nat) (a0 : (Int × Int)) : Option Bool := (dec_ten.f k 30).bind fun t1 => ((limb_Cmp.f k (a0.1, a0.2) (t1.1, t1.2)).bind fun t2 => (some (decide (t2 < 0))))
noncomputable def dec_small.i : Lay U (Int × Int) := (pcOne 0 (tAt (vCd (Cd.pair (Cd.int .u64) (Cd.int .u64))))).lay (fun _ => by kernel_rfl)
noncomputable def dec_small.r : Lay U Bool := (pcOne 0 (tAt vBool)).lay (fun _ => by kernel_rfl)
noncomputable def dec_small.D (k : Nat) : FDen U := fdn dec_small.i dec_small.r Try.f50.ntmps [] true (fun x => dec_small.f k (x)) (fun _ _ => rfl)
noncomputable def dec_small.E (k : Nat) : Env U := mkE Try.f50 [dec_ten.pk k, limb_Cmp.pk k] [] [] [] n0 n0 [] false n00 nl0 [] nli
theorem dec_small.eq (k : Nat) (x : (Int × Int)) : runF (dec_small.E k) (codeOf Try.f50) (dec_small.i.put x) dec_small.r.un = dec_small.f k (x) := by kernel_rfl
theorem dec_small.sound (k : Nat) : Sound Try.prog DD 50 (dec_small.D k) :=
  funP (E := dec_small.E k) (fn := Try.f50) (c := codeOf Try.f50) (mkE_ok _ _ _ _ _ _ _ _ _ _ _ _ _) mixed rfl Try.func50 (by kernel_rfl) (by kernel_rfl) (allL_of (l := []) (by kernel_rfl) allL_nil) dec_small.i dec_small.r [] true (fun x => dec_small.f k (x)) (fun _ _ => rfl) (by kernel_rfl) (dec_small.eq k)
noncomputable def dec_small.pk (k : Nat) : Pk Try.prog DD := ⟨50, dec_small.D k, dec_small.sound k, enter_of Try.func50 (by kernel_rfl) (by kernel_rfl)⟩
/-! ### pyx/dec.nought: function 39 -/
noncomputable def dec_nought.f (k : Nat) (a0 : (Int × Int)) : Option Bool := some ((a0.1 == 0) && (a0.2 == 0))
noncomputable def dec_nought.i : Lay U (Int × Int) := (pcOne 0 (tAt (vCd (Cd.pair (Cd.int .u64) (Cd.int .u64))))).lay (fun _ => by kernel_rfl)
noncomputable def dec_nought.r : Lay U Bool := (pcOne 0 (tAt vBool)).lay (fun _ => by kernel_rfl)
noncomputable def dec_nought.D (k : Nat) : FDen U := fdn dec_nought.i dec_nought.r Try.f39.ntmps [] true (fun x => dec_nought.f k (x)) (fun _ _ => rfl)
noncomputable def dec_nought.E (k : Nat) : Env U := mkE Try.f39 [] [] [] [] n0 n0 [] false n00 nl0 [] nli
theorem dec_nought.eq (k : Nat) (x : (Int × Int)) : runF (dec_nought.E k) (codeOf Try.f39) (dec_nought.i.put x) dec_nought.r.un = dec_nought.f k (x) := by kernel_rfl
theorem dec_nought.sound (k : Nat) : Sound Try.prog DD 39 (dec_nought.D k) :=
  funP (E := dec_nought.E k) (fn := Try.f39) (c := codeOf Try.f39) (mkE_ok _ _ _ _ _ _ _ _ _ _ _ _ _) mixed rfl Try.func39 (by kernel_rfl) (by kernel_rfl) (allL_of (l := []) (by kernel_rfl) allL_nil) dec_nought.i dec_nought.r [] true (fun x => dec_nought.f k (x)) (fun _ _ => rfl) (by kernel_rfl) (dec_nought.eq k)
noncomputable def dec_nought.pk (k : Nat) : Pk Try.prog DD := ⟨39, dec_nought.D k, dec_nought.sound k, enter_of Try.func39 (by kernel_rfl) (by kernel_rfl)⟩
/-! ### pyx/dec.Right: function 33 -/
noncomputable def dec_Right.f (k : Nat) (a0 : Sapi_Dec) : Option Bool := (dec_small.f k (a0.f_C.1, a0.f_C.2)).bind fun t1 => (cond (t1) (cond (decide (a0.f_Scale ≥ 0)) (cond (decide (a0.f_Scale ≤ 9)) (cond (a0.f_Neg) ((dec_nought.f k (a0.f_C.1, a0.f_C.2)).bind fun t2 => (some (!t2))) (some true)) (some false)) (some false)) (some false))
noncomputable def dec_Right.i : Lay U Sapi_Dec := (pcOne 0 (tAt (vCd cd_Sapi_Dec))).lay (fun _ => by kernel_rfl)
noncomputable def dec_Right.r : Lay U Bool := (pcOne 0 (tAt vBool)).lay (fun _ => by kernel_rfl)
noncomputable def dec_Right.D (k : Nat) : FDen U := fdn dec_Right.i dec_Right.r Try.f33.ntmps [] true (fun x => dec_Right.f k (x)) (fun _ _ => rfl)
noncomputable def dec_Right.E (k : Nat) : Env U := mkE Try.f33 [dec_small.pk k, dec_nought.pk k] [] [] [] n0 n0 [] false n00 nl0 [] nli
theorem dec_Right.eq (k : Nat) (x : Sapi_Dec) : runF (dec_Right.E k) (codeOf Try.f33) (dec_Right.i.put x) dec_Right.r.un = dec_Right.f k (x) := by kernel_rfl
theorem dec_Right.sound (k : Nat) : Sound Try.prog DD 33 (dec_Right.D k) :=
  funP (E := dec_Right.E k) (fn := Try.f33) (c := codeOf Try.f33) (mkE_ok _ _ _ _ _ _ _ _ _ _ _ _ _) mixed rfl Try.func33 (by kernel_rfl) (by kernel_rfl) (allL_of (l := []) (by kernel_rfl) allL_nil) dec_Right.i dec_Right.r [] true (fun x => dec_Right.f k (x)) (fun _ _ => rfl) (by kernel_rfl) (dec_Right.eq k)
noncomputable def dec_Right.pk (k : Nat) : Pk Try.prog DD := ⟨33, dec_Right.D k, dec_Right.sound k, enter_of Try.func33 (by kernel_rfl) (by kernel_rfl)⟩
/-! ### pyx/dec.wide: function 34 -/
noncomputable def dec_wide.f (k : Nat) (a0 : Sapi_Dec) (a1 : Int) : Option (Int × Int × Int × Int) := (dec_ten.f k (IntKind.wrap .i64 (a1 - a0.f_Scale))).bind fun t1 => ((limb_Mul.f k (a0.f_C.1, a0.f_C.2) (t1.1, t1.2)).bind fun t2 => (some (t2.1, t2.2.1, t2.2.2.1, t2.2.2.2)))
noncomputable def dec_wide.i : Lay U (Sapi_Dec × Int) := (pcAnd (pcOne 0 (tAt (vCd cd_Sapi_Dec))) (pcOne 1 (tAt (vInt .i64)))).lay (fun _ => by kernel_rfl)
noncomputable def dec_wide.r : Lay U (Int × Int × Int × Int) := (pcOne 0 (tAt (vCd (Cd.pair (Cd.int .u64) (Cd.pair (Cd.int .u64) (Cd.pair (Cd.int .u64) (Cd.int .u64))))))).lay (fun _ => by kernel_rfl)
noncomputable def dec_wide.D (k : Nat) : FDen U := fdn dec_wide.i dec_wide.r Try.f34.ntmps [] true (fun x => dec_wide.f k (x.1) (x.2)) (fun _ _ => rfl)
noncomputable def dec_wide.E (k : Nat) : Env U := mkE Try.f34 [dec_ten.pk k, limb_Mul.pk k] [] [] [] n0 n0 [] false n00 nl0 [] nli
theorem dec_wide.eq (k : Nat) (x : (Sapi_Dec × Int)) : runF (dec_wide.E k) (codeOf Try.f34) (dec_wide.i.put x) dec_wide.r.un = dec_wide.f k (x.1) (x.2) := by kernel_rfl
theorem dec_wide.sound (k : Nat) : Sound Try.prog DD 34 (dec_wide.D k) :=
  funP (E := dec_wide.E k) (fn := Try.f34) (c := codeOf Try.f34) (mkE_ok _ _ _ _ _ _ _ _ _ _ _ _ _) mixed rfl Try.func34 (by kernel_rfl) (by kernel_rfl) (allL_of (l := []) (by kernel_rfl) allL_nil) dec_wide.i dec_wide.r [] true (fun x => dec_wide.f k (x.1) (x.2)) (fun _ _ => rfl) (by kernel_rfl) (dec_wide.eq k)
noncomputable def dec_wide.pk (k : Nat) : Pk Try.prog DD := ⟨34, dec_wide.D k, dec_wide.sound k, enter_of Try.func34 (by kernel_rfl) (by kernel_rfl)⟩
/-! ### pyx/dec.halves: function 54 -/
noncomputable def dec_halves.f (k : Nat) (a0 : (Int × Int × Int × Int)) : Option ((Int × Int) × (Int × Int)) := some ((a0.1, a0.2.1), (a0.2.2.1, a0.2.2.2))
noncomputable def dec_halves.i : Lay U (Int × Int × Int × Int) := (pcOne 0 (tAt (vCd (Cd.pair (Cd.int .u64) (Cd.pair (Cd.int .u64) (Cd.pair (Cd.int .u64) (Cd.int .u64))))))).lay (fun _ => by kernel_rfl)
noncomputable def dec_halves.r : Lay U ((Int × Int) × (Int × Int)) := (pcTup 0 (tqCons (tAt (vCd (Cd.pair (Cd.int .u64) (Cd.int .u64)))) (tqOne (tAt (vCd (Cd.pair (Cd.int .u64) (Cd.int .u64))))))).lay (fun _ => by kernel_rfl)
noncomputable def dec_halves.D (k : Nat) : FDen U := fdn dec_halves.i dec_halves.r Try.f54.ntmps [] true (fun x => dec_halves.f k (x)) (fun _ _ => rfl)
noncomputable def dec_halves.E (k : Nat) : Env U := mkE Try.f54 [] [] [] [] n0 n0 [] false n00 nl0 [] nli
theorem dec_halves.eq (k : Nat) (x : (Int × Int × Int × Int)) : runF (dec_halves.E k) (codeOf Try.f54) (dec_halves.i.put x) dec_halves.r.un = dec_halves.f k (x) := by kernel_rfl
theorem dec_halves.sound (k : Nat) : Sound Try.prog DD 54 (dec_halves.D k) :=
  funP (E := dec_halves.E k) (fn := Try.f54) (c := codeOf Try.f54) (mkE_ok _ _ _ _ _ _ _ _ _ _ _ _ _) mixed rfl Try.func54 (by kernel_rfl) (by kernel_rfl) (allL_of (l := []) (by kernel_rfl) allL_nil) dec_halves.i dec_halves.r [] true (fun x => dec_halves.f k (x)) (fun _ _ => rfl) (by kernel_rfl) (dec_halves.eq k)
noncomputable def dec_halves.pk (k : Nat) : Pk Try.prog DD := ⟨54, dec_halves.D k, dec_halves.sound k, enter_of Try.func54 (by kernel_rfl) (by kernel_rfl)⟩
/-! ### pyx/limb.plus: function 72 -/
noncomputable def limb_plus.f (k : Nat) (a0 : Int) (a1 : Int) (a2 : Int) : Option (Int × Int) := some (IntKind.wrap .u64 ((IntKind.wrap .u64 (a0 + a1)) + a2), Int.fdiv (bits .or .u64 (bits .and .u64 a0 a1) (bits .andNot .u64 (bits .or .u64 a0 a1) (IntKind.wrap .u64 ((IntKind.wrap .u64 (a0 + a1)) + a2)))) (2 ^ 63))
noncomputable def limb_plus.i : Lay U (Int × Int × Int) := (pcAnd (pcOne 0 (tAt (vInt .u64))) (pcAnd (pcOne 1 (tAt (vInt .u64))) (pcOne 2 (tAt (vInt .u64))))).lay (fun _ => by kernel_rfl)
noncomputable def limb_plus.r : Lay U (Int × Int) := (pcTup 0 (tqCons (tAt (vInt .u64)) (tqOne (tAt (vInt .u64))))).lay (fun _ => by kernel_rfl)
noncomputable def limb_plus.D (k : Nat) : FDen U := fdn limb_plus.i limb_plus.r Try.f72.ntmps [] true (fun x => limb_plus.f k (x.1) (x.2.1) (x.2.2)) (fun _ _ => rfl)
noncomputable def limb_plus.E (k : Nat) : Env U := mkE Try.f72 [] [] [] [] n0 n0 [] false n00 nl0 [] nli
theorem limb_plus.eq (k : Nat) (x : (Int × Int × Int)) : runF (limb_plus.E k) (codeOf Try.f72) (limb_plus.i.put x) limb_plus.r.un = limb_plus.f k (x.1) (x.2.1) (x.2.2) := by kernel_rfl
theorem limb_plus.sound (k : Nat) : Sound Try.prog DD 72 (limb_plus.D k) :=
  funP (E := limb_plus.E k) (fn := Try.f72) (c := codeOf Try.f72) (mkE_ok _ _ _ _ _ _ _ _ _ _ _ _ _) mixed rfl Try.func72 (by kernel_rfl) (by kernel_rfl) (allL_of (l := []) (by kernel_rfl) allL_nil) limb_plus.i limb_plus.r [] true (fun x => limb_plus.f k (x.1) (x.2.1) (x.2.2)) (fun _ _ => rfl) (by kernel_rfl) (limb_plus.eq k)
noncomputable def limb_plus.pk (k : Nat) : Pk Try.prog DD := ⟨72, limb_plus.D k, limb_plus.sound k, enter_of Try.func72 (by kernel_rfl) (by kernel_rfl)⟩
/-! ### pyx/limb.Add: function 55 -/
noncomputable def limb_Add.f (k : Nat) (a0 : (Int × Int)) (a1 : (Int × Int)) : Option ((Int × Int) × Bool) := (limb_plus.f k a0.1 a1.1 0).bind fun t1 => ((limb_plus.f k a0.2 a1.2 t1.2).bind fun t2 => (cond (decide (t2.2 > 0)) (some ((0, 0), false)) (some ((t1.1, t2.1), true))))
noncomputable def limb_Add.i : Lay U ((Int × Int) × (Int × Int)) := (pcAnd (pcOne 0 (tAt (vCd (Cd.pair (Cd.int .u64) (Cd.int .u64))))) (pcOne 1 (tAt (vCd (Cd.pair (Cd.int .u64) (Cd.int .u64)))))).lay (fun _ => by kernel_rfl)
noncomputable def limb_Add.r : Lay U ((Int × Int) × Bool) := (pcTup 0 (tqCons (tAt (vCd (Cd.pair (Cd.int .u64) (Cd.int .u64)))) (tqOne (tAt vBool)))).lay (fun _ => by kernel_rfl)
noncomputable def limb_Add.D (k : Nat) : FDen U := fdn limb_Add.i limb_Add.r Try.f55.ntmps [] true (fun x => limb_Add.f k (x.1) (x.2)) (fun _ _ => rfl)
noncomputable def limb_Add.E (k : Nat) : Env U := mkE Try.f55 [limb_plus.pk k] [] [] [] n0 n0 [] false n00 nl0 [] nli
theorem limb_Add.eq (k : Nat) (x : ((Int × Int) × (Int × Int))) : runF (limb_Add.E k) (codeOf Try.f55) (limb_Add.i.put x) limb_Add.r.un = limb_Add.f k (x.1) (x.2) := by kernel_rfl
theorem limb_Add.sound (k : Nat) : Sound Try.prog DD 55 (limb_Add.D k) :=
  funP (E := limb_Add.E k) (fn := Try.f55) (c := codeOf Try.f55) (mkE_ok _ _ _ _ _ _ _ _ _ _ _ _ _) mixed rfl Try.func55 (by kernel_rfl) (by kernel_rfl) (allL_of (l := []) (by kernel_rfl) allL_nil) limb_Add.i limb_Add.r [] true (fun x => limb_Add.f k (x.1) (x.2)) (fun _ _ => rfl) (by kernel_rfl) (limb_Add.eq k)
noncomputable def limb_Add.pk (k : Nat) : Pk Try.prog DD := ⟨55, limb_Add.D k, limb_Add.sound k, enter_of Try.func55 (by kernel_rfl) (by kernel_rfl)⟩
/-! ### pyx/limb.less: function 73 -/
noncomputable def limb_less.f (k : Nat) (a0 : Int) (a1 : Int) (a2 : Int) : Option (Int × Int) := some (IntKind.wrap .u64 ((IntKind.wrap .u64 (a0 - a1)) - a2), Int.fdiv (bits .or .u64 (bits .and .u64 (bits .xor .u64 18446744073709551615 a0) a1) (bits .and .u64 (bits .or .u64 (bits .xor .u64 18446744073709551615 a0) a1) (IntKind.wrap .u64 ((IntKind.wrap .u64 (a0 - a1)) - a2)))) (2 ^ 63))
noncomputable def limb_less.i : Lay U (Int × Int × Int) := (pcAnd (pcOne 0 (tAt (vInt .u64))) (pcAnd (pcOne 1 (tAt (vInt .u64))) (pcOne 2 (tAt (vInt .u64))))).lay (fun _ => by kernel_rfl)
noncomputable def limb_less.r : Lay U (Int × Int) := (pcTup 0 (tqCons (tAt (vInt .u64)) (tqOne (tAt (vInt .u64))))).lay (fun _ => by kernel_rfl)
noncomputable def limb_less.D (k : Nat) : FDen U := fdn limb_less.i limb_less.r Try.f73.ntmps [] true (fun x => limb_less.f k (x.1) (x.2.1) (x.2.2)) (fun _ _ => rfl)
noncomputable def limb_less.E (k : Nat) : Env U := mkE Try.f73 [] [] [] [] n0 n0 [] false n00 nl0 [] nli
theorem limb_less.eq (k : Nat) (x : (Int × Int × Int)) : runF (limb_less.E k) (codeOf Try.f73) (limb_less.i.put x) limb_less.r.un = limb_less.f k (x.1) (x.2.1) (x.2.2) := by kernel_rfl
theorem limb_less.sound (k : Nat) : Sound Try.prog DD 73 (limb_less.D k) :=
  funP (E := limb_less.E k) (fn := Try.f73) (c := codeOf Try.f73) (mkE_ok _ _ _ _ _ _ _ _ _ _ _ _ _) mixed rfl Try.func73 (by kernel_rfl) (by kernel_rfl) (allL_of (l := []) (by kernel_rfl) allL_nil) limb_less.i limb_less.r [] true (fun x => limb_less.f k (x.1) (x.2.1) (x.2.2)) (fun _ _ => rfl) (by kernel_rfl) (limb_less.eq k)
noncomputable def limb_less.pk (k : Nat) : Pk Try.prog DD := ⟨73, limb_less.D k, limb_less.sound k, enter_of Try.func73 (by kernel_rfl) (by kernel_rfl)⟩
/-! ### pyx/limb.Sub: function 56 -/
noncomputable def limb_Sub.f (k : Nat) (a0 : (Int × Int)) (a1 : (Int × Int)) : Option ((Int × Int) × Bool) := (limb_less.f k a0.1 a1.1 0).bind fun t1 => ((limb_less.f k a0.2 a1.2 t1.2).bind fun t2 => (cond (decide (t2.2 > 0)) (some ((0, 0), false)) (some ((t1.1, t2.1), true))))
noncomputable def limb_Sub.i : Lay U ((Int × Int) × (Int × Int)) := (pcAnd (pcOne 0 (tAt (vCd (Cd.pair (Cd.int .u64) (Cd.int .u64))))) (pcOne 1 (tAt (vCd (Cd.pair (Cd.int .u64) (Cd.int .u64)))))).lay (fun _ => by kernel_rfl)
noncomputable def limb_Sub.r : Lay U ((Int × Int) × Bool) := (pcTup 0 (tqCons (tAt (vCd (Cd.pair (Cd.int .u64) (Cd.int .u64)))) (tqOne (tAt vBool)))).lay (fun _ => by kernel_rfl)
noncomputable def limb_Sub.D (k : Nat) : FDen U := fdn limb_Sub.i limb_Sub.r Try.f56.ntmps [] true (fun x => limb_Sub.f k (x.1) (x.2)) (fun _ _ => rfl)
noncomputable def limb_Sub.E (k : Nat) : Env U := mkE Try.f56 [limb_less.pk k] [] [] [] n0 n0 [] false n00 nl0 [] nli
theorem limb_Sub.eq (k : Nat) (x : ((Int × Int) × (Int × Int))) : runF (limb_Sub.E k) (codeOf Try.f56) (limb_Sub.i.put x) limb_Sub.r.un = limb_Sub.f k (x.1) (x.2) := by kernel_rfl
theorem limb_Sub.sound (k : Nat) : Sound Try.prog DD 56 (limb_Sub.D k) :=
  funP (E := limb_Sub.E k) (fn := Try.f56) (c := codeOf Try.f56) (mkE_ok _ _ _ _ _ _ _ _ _ _ _ _ _) mixed rfl Try.func56 (by kernel_rfl) (by kernel_rfl) (allL_of (l := []) (by kernel_rfl) allL_nil) limb_Sub.i limb_Sub.r [] true (fun x => limb_Sub.f k (x.1) (x.2)) (fun _ _ => rfl) (by kernel_rfl) (limb_Sub.eq k)
noncomputable def limb_Sub.pk (k : Nat) : Pk Try.prog DD := ⟨56, limb_Sub.D k, limb_Sub.sound k, enter_of Try.func56 (by kernel_rfl) (by kernel_rfl)⟩
/-! ### pyx/dec.plus: function 36 -/
noncomputable def dec_plus.f (k : Nat) (a0 : (Int × Int × Int × Int)) (a1 : (Int × Int × Int × Int)) : Option (Int × Int × Int × Int) := (dec_halves.f k (a0.1, a0.2.1, a0.2.2.1, a0.2.2.2)).bind fun t1 => ((dec_halves.f k (a1.1, a1.2.1, a1.2.2.1, a1.2.2.2)).bind fun t2 => ((limb_Add.f k (t1.2.1, t1.2.2) (t2.2.1, t2.2.2)).bind fun t3 => ((limb_Add.f k (t1.1.1, t1.1.2) (t2.1.1, t2.1.2)).bind fun t4 => (((cond (!t4.2) ((limb_Sub.f k (t2.1.1, t2.1.2) (bits .xor .u64 18446744073709551615 t1.1.1, bits .xor .u64 18446744073709551615 t1.1.2)).bind fun t5 => ((limb_Of.f k 1).bind fun t6 => ((limb_Sub.f k (t5.1.1, t5.1.2) (t6.1, t6.2)).bind fun t7 => ((limb_Of.f k 1).bind fun t8 => ((limb_Add.f k (t3.1.1, t3.1.2) (t8.1, t8.2)).bind fun t9 => (some (0, 0, 0, 0, t9.1.1, t9.1.2, t7.1.1, t7.1.2))))))) (some (0, 0, 0, 0, t3.1.1, t3.1.2, t4.1.1, t4.1.2))) : Option (Int × Int × Int × Int × Int × Int × Int × Int)).bind fun y18 => (some (y18.2.2.2.2.2.2.1, y18.2.2.2.2.2.2.2, y18.2.2.2.2.1, y18.2.2.2.2.2.1))))))
noncomputable def dec_plus.i : Lay U ((Int × Int × Int × Int) × (Int × Int × Int × Int)) := (pcAnd (pcOne 0 (tAt (vCd (Cd.pair (Cd.int .u64) (Cd.pair (Cd.int .u64) (Cd.pair (Cd.int .u64) (Cd.int .u64))))))) (pcOne 1 (tAt (vCd (Cd.pair (Cd.int .u64) (Cd.pair (Cd.int .u64) (Cd.pair (Cd.int .u64) (Cd.int .u64)))))))).lay (fun _ => by kernel_rfl)
noncomputable def dec_plus.r : Lay U (Int × Int × Int × Int) := (pcOne 0 (tAt (vCd (Cd.pair (Cd.int .u64) (Cd.pair (Cd.int .u64) (Cd.pair (Cd.int .u64) (Cd.int .u64))))))).lay (fun _ => by kernel_rfl)
noncomputable def dec_plus.D (k : Nat) : FDen U := fdn dec_plus.i dec_plus.r Try.f36.ntmps [] true (fun x => dec_plus.f k (x.1) (x.2)) (fun _ _ => rfl)
noncomputable def dec_plus.j6001 : Jk U := ⟨(Int × Int × Int × Int × Int × Int × Int × Int), oNorm (lay [(4, sPtr 4 0), (9, sPtr 9 0), (11, sPtr 11 0)] [bLit 4 [(vInt .u64), (vInt .u64), (vInt .u64), (vInt .u64)], bLit 9 [(vInt .u64), (vInt .u64)], bLit 11 [(vInt .u64), (vInt .u64)]] (fun _ => by kernel_rfl))⟩
noncomputable def dec_plus.E (k : Nat) : Env U := mkE Try.f36 [dec_halves.pk k, limb_Add.pk k, limb_Sub.pk k, limb_Of.pk k] [(6001, dec_plus.j6001)] [] [] n0 n0 [] false n00 nl0 [] nli
theorem dec_plus.eq (k : Nat) (x : ((Int × Int × Int × Int) × (Int × Int × Int × Int))) : runF (dec_plus.E k) (codeOf Try.f36) (dec_plus.i.put x) dec_plus.r.un = dec_plus.f k (x.1) (x.2) := by kernel_rfl
theorem dec_plus.sound (k : Nat) : Sound Try.prog DD 36 (dec_plus.D k) :=
  funP (E := dec_plus.E k) (fn := Try.f36) (c := codeOf Try.f36) (mkE_ok _ _ _ _ _ _ _ _ _ _ _ _ _) mixed rfl Try.func36 (by kernel_rfl) (by kernel_rfl) (allL_of (l := []) (by kernel_rfl) allL_nil) dec_plus.i dec_plus.r [] true (fun x => dec_plus.f k (x.1) (x.2)) (fun _ _ => rfl) (by kernel_rfl) (dec_plus.eq k)
noncomputable def dec_plus.pk (k : Nat) : Pk Try.prog DD := ⟨36, dec_plus.D k, dec_plus.sound k, enter_of Try.func36 (by kernel_rfl) (by kernel_rfl)⟩
/-! ### pyx/dec.made: function 35 -/
noncomputable def dec_made.f (k : Nat) (a0 : Bool) (a1 : (Int × Int × Int × Int)) (a2 : Int) : Option (Sapi_Dec × Int) := (limb_Short.f k (a1.1, a1.2.1, a1.2.2.1, a1.2.2.2)).bind fun t1 => (((cond (!t1.2) (some (a0, a2, true, false, 0, 0, 0, t1.1.1, t1.1.2)) ((dec_small.f k (t1.1.1, t1.1.2)).bind fun t11 => (some (a0, a2, !t11, false, 0, 0, 0, t1.1.1, t1.1.2)))) : Option (Bool × Int × Bool × Bool × Int × Int × Int × Int × Int)).bind fun y12 => (cond (y12.2.2.1) (some ((⟨false, (0, 0), 0⟩ : Sapi_Dec), 3)) (cond (y12.1) ((dec_nought.f k (y12.2.2.2.2.2.2.2.1, y12.2.2.2.2.2.2.2.2)).bind fun t13 => (some ((⟨!t13, (y12.2.2.2.2.2.2.2.1, y12.2.2.2.2.2.2.2.2), y12.2.1⟩ : Sapi_Dec), 0))) (some ((⟨false, (y12.2.2.2.2.2.2.2.1, y12.2.2.2.2.2.2.2.2), y12.2.1⟩ : Sapi_Dec), 0)))))
noncomputable def dec_made.i : Lay U (Bool × (Int × Int × Int × Int) × Int) := (pcAnd (pcOne 0 (tAt vBool)) (pcAnd (pcOne 1 (tAt (vCd (Cd.pair (Cd.int .u64) (Cd.pair (Cd.int .u64) (Cd.pair (Cd.int .u64) (Cd.int .u64))))))) (pcOne 2 (tAt (vInt .i64))))).lay (fun _ => by kernel_rfl)
noncomputable def dec_made.r : Lay U (Sapi_Dec × Int) := (pcTup 0 (tqCons (tAt (vCd cd_Sapi_Dec)) (tqOne (tAt (vInt .i64))))).lay (fun _ => by kernel_rfl)
noncomputable def dec_made.D (k : Nat) : FDen U := fdn dec_made.i dec_made.r Try.f35.ntmps [] true (fun x => dec_made.f k (x.1) (x.2.1) (x.2.2)) (fun _ _ => rfl)
noncomputable def dec_made.j2000 : Jk U := ⟨(Bool × Int × Bool × Bool × Int × Int × Int × Int × Int), oNorm (lay [(6, sPtr 6 0), (8, sPtr 8 0), (0, sAt vBool), (2, sAt (vInt .i64)), (21, sAt vBool)] [bLit 6 [vBool, (vInt .u64), (vInt .u64), (vInt .i64)], bLit 8 [(vInt .u64), (vInt .u64)]] (fun _ => by kernel_rfl))⟩
noncomputable def dec_made.E (k : Nat) : Env U := mkE Try.f35 [limb_Short.pk k, dec_small.pk k, dec_nought.pk k] [(2000, dec_made.j2000)] [] [] n0 n0 [] false n00 nl0 [] nli
theorem dec_made.eq (k : Nat) (x : (Bool × (Int × Int × Int × Int) × Int)) : runF (dec_made.E k) (codeOf Try.f35) (dec_made.i.put x) dec_made.r.un = dec_made.f k (x.1) (x.2.1) (x.2.2) := by kernel_rfl
theorem dec_made.sound (k : Nat) : Sound Try.prog DD 35 (dec_made.D k) :=
  funP (E := dec_made.E k) (fn := Try.f35) (c := codeOf Try.f35) (mkE_ok _ _ _ _ _ _ _ _ _ _ _ _ _) mixed rfl Try.func35 (by kernel_rfl) (by kernel_rfl) (allL_of (l := []) (by kernel_rfl) allL_nil) dec_made.i dec_made.r [] true (fun x => dec_made.f k (x.1) (x.2.1) (x.2.2)) (fun _ _ => rfl) (by kernel_rfl) (dec_made.eq k)
noncomputable def dec_made.pk (k : Nat) : Pk Try.prog DD := ⟨35, dec_made.D k, dec_made.sound k, enter_of Try.func35 (by kernel_rfl) (by kernel_rfl)⟩
/-! ### pyx/dec.cmp: function 37 -/
noncomputable def dec_cmp.l2.once (k : Nat) (x : (Int × List Int × List Int)) : Option ((Int × List Int × List Int) ⊕ (Unit ⊕ Int)) := match x with | (x3, x1, x2) => cond (decide (x3 ≥ 0)) (cond (inb x3 4) (cond (Nat.blt (Int.toNat x3) 4) (cond (inb x3 4) (cond (Nat.blt (Int.toNat x3) 4) (cond ((List.getD x1 (Int.toNat x3) 0) != (List.getD x2 (Int.toNat x3) 0)) (cond (inb x3 4) (cond (Nat.blt (Int.toNat x3) 4) (cond (inb x3 4) (cond (Nat.blt (Int.toNat x3) 4) (cond (decide ((List.getD x1 (Int.toNat x3) 0) < (List.getD x2 (Int.toNat x3) 0))) (some (.inr (.inr (-1)))) (some (.inr (.inr 1)))) none) none) none) none) (some (.inl (IntKind.wrap .i64 (x3 - 1), x1, x2)))) none) none) none) none) (some (.inr (.inl ())))
noncomputable def dec_cmp.f (k : Nat) (a0 : (Int × Int × Int × Int)) (a1 : (Int × Int × Int × Int)) : Option Int := (iter (dec_cmp.l2.once k) k (3, [a0.1, a0.2.1, a0.2.2.1, a0.2.2.2], [a1.1, a1.2.1, a1.2.2.1, a1.2.2.2])).bind fun | .inl y5 => (some 0) | .inr y6 => (some y6)
noncomputable def dec_cmp.i : Lay U ((Int × Int × Int × Int) × (Int × Int × Int × Int)) := (pcAnd (pcOne 0 (tAt (vCd (Cd.pair (Cd.int .u64) (Cd.pair (Cd.int .u64) (Cd.pair (Cd.int .u64) (Cd.int .u64))))))) (pcOne 1 (tAt (vCd (Cd.pair (Cd.int .u64) (Cd.pair (Cd.int .u64) (Cd.pair (Cd.int .u64) (Cd.int .u64)))))))).lay (fun _ => by kernel_rfl)
noncomputable def dec_cmp.r : Lay U Int := (pcOne 0 (tAt (vInt .i64))).lay (fun _ => by kernel_rfl)
noncomputable def dec_cmp.D (k : Nat) : FDen U := fdn dec_cmp.i dec_cmp.r Try.f37.ntmps [] true (fun x => dec_cmp.f k (x.1) (x.2)) (fun _ _ => rfl)
noncomputable def dec_cmp.l2.i : Lay U (Int × List Int × List Int) := (lay [(2, sPtr 2 0), (3, sPtr 3 0), (5, sAt (vInt .i64))] [bArr DD 2 4 C.u64, bArr DD 3 4 C.u64] (fun _ => by kernel_rfl))
noncomputable def dec_cmp.l2.o : OLay U (Unit ⊕ Int) := oOr (oExit 0 (lay [] [] (fun _ => by kernel_rfl))) (oRet dec_cmp.r)
noncomputable def dec_cmp.E (k : Nat) : Env U := mkE Try.f37 [] [] [(2, ldn dec_cmp.l2.i dec_cmp.l2.o (iter (dec_cmp.l2.once k) k))] [(79, (4, C.u64))] n0 n0 [] false n00 nl0 [] nli
theorem dec_cmp.l2.eq (k : Nat) (x : (Int × List Int × List Int)) : evC (dec_cmp.E k) (loopAt Try.f37 2) (dec_cmp.l2.i.put x) (headK dec_cmp.l2.i.un dec_cmp.l2.o.re) = dec_cmp.l2.once k x := by kernel_rfl
theorem dec_cmp.l2.sound (k : Nat) : LSound (dec_cmp.E k) Try.f37.ntmps Try.f37 (.loop (loopAt Try.f37 2)) (ldn dec_cmp.l2.i dec_cmp.l2.o (iter (dec_cmp.l2.once k) k)) :=
  loopP (mkE_ok _ _ _ _ _ _ _ _ _ _ _ _ _) mixed rfl (by kernel_rfl) (allL_of (l := []) (by kernel_rfl) allL_nil) dec_cmp.l2.i dec_cmp.l2.o (dec_cmp.l2.once k) k (dec_cmp.l2.eq k)
theorem dec_cmp.eq (k : Nat) (x : ((Int × Int × Int × Int) × (Int × Int × Int × Int))) : runF (dec_cmp.E k) (codeOf Try.f37) (dec_cmp.i.put x) dec_cmp.r.un = dec_cmp.f k (x.1) (x.2) := by kernel_rfl
theorem dec_cmp.sound (k : Nat) : Sound Try.prog DD 37 (dec_cmp.D k) :=
  funP (E := dec_cmp.E k) (fn := Try.f37) (c := codeOf Try.f37) (mkE_ok _ _ _ _ _ _ _ _ _ _ _ _ _) mixed rfl Try.func37 (by kernel_rfl) (by kernel_rfl) (allL_of (l := [.loop (loopAt Try.f37 2)]) (by kernel_rfl) (allL_cons (key := 2) (by kernel_rfl) rfl (dec_cmp.l2.sound k) allL_nil)) dec_cmp.i dec_cmp.r [] true (fun x => dec_cmp.f k (x.1) (x.2)) (fun _ _ => rfl) (by kernel_rfl) (dec_cmp.eq k)
noncomputable def dec_cmp.pk (k : Nat) : Pk Try.prog DD := ⟨37, dec_cmp.D k, dec_cmp.sound k, enter_of Try.func37 (by kernel_rfl) (by kernel_rfl)⟩
/-! ### pyx/dec.less: function 38 -/
noncomputable def dec_less.f (k : Nat) (a0 : (Int × Int × Int × Int)) (a1 : (Int × Int × Int × Int)) : Option (Int × Int × Int × Int) := (dec_halves.f k (a0.1, a0.2.1, a0.2.2.1, a0.2.2.2)).bind fun t1 => ((dec_halves.f k (a1.1, a1.2.1, a1.2.2.1, a1.2.2.2)).bind fun t2 => ((limb_Sub.f k (t1.2.1, t1.2.2) (t2.2.1, t2.2.2)).bind fun t3 => ((limb_Sub.f k (t1.1.1, t1.1.2) (t2.1.1, t2.1.2)).bind fun t4 => (((cond (!t4.2) ((limb_Sub.f k (t2.1.1, t2.1.2) (t1.1.1, t1.1.2)).bind fun t5 => ((limb_Of.f k 1).bind fun t6 => ((limb_Sub.f k (t5.1.1, t5.1.2) (t6.1, t6.2)).bind fun t7 => ((limb_Of.f k 1).bind fun t8 => ((limb_Sub.f k (t3.1.1, t3.1.2) (t8.1, t8.2)).bind fun t9 => (some (0, 0, 0, 0, t9.1.1, t9.1.2, bits .xor .u64 18446744073709551615 t7.1.1, bits .xor .u64 18446744073709551615 t7.1.2))))))) (some (0, 0, 0, 0, t3.1.1, t3.1.2, t4.1.1, t4.1.2))) : Option (Int × Int × Int × Int × Int × Int × Int × Int)).bind fun y18 => (some (y18.2.2.2.2.2.2.1, y18.2.2.2.2.2.2.2, y18.2.2.2.2.1, y18.2.2.2.2.2.1))))))
noncomputable def dec_less.i : Lay U ((Int × Int × Int × Int) × (Int × Int × Int × Int)) := (pcAnd (pcOne 0 (tAt (vCd (Cd.pair (Cd.int .u64) (Cd.pair (Cd.int .u64) (Cd.pair (Cd.int .u64) (Cd.int .u64))))))) (pcOne 1 (tAt (vCd (Cd.pair (Cd.int .u64) (Cd.pair (Cd.int .u64) (Cd.pair (Cd.int .u64) (Cd.int .u64)))))))).lay (fun _ => by kernel_rfl)
noncomputable def dec_less.r : Lay U (Int × Int × Int × Int) := (pcOne 0 (tAt (vCd (Cd.pair (Cd.int .u64) (Cd.pair (Cd.int .u64) (Cd.pair (Cd.int .u64) (Cd.int .u64))))))).lay (fun _ => by kernel_rfl)
noncomputable def dec_less.D (k : Nat) : FDen U := fdn dec_less.i dec_less.r Try.f38.ntmps [] true (fun x => dec_less.f k (x.1) (x.2)) (fun _ _ => rfl)
noncomputable def dec_less.j6001 : Jk U := ⟨(Int × Int × Int × Int × Int × Int × Int × Int), oNorm (lay [(4, sPtr 4 0), (9, sPtr 9 0), (11, sPtr 11 0)] [bLit 4 [(vInt .u64), (vInt .u64), (vInt .u64), (vInt .u64)], bLit 9 [(vInt .u64), (vInt .u64)], bLit 11 [(vInt .u64), (vInt .u64)]] (fun _ => by kernel_rfl))⟩
noncomputable def dec_less.E (k : Nat) : Env U := mkE Try.f38 [dec_halves.pk k, limb_Sub.pk k, limb_Of.pk k] [(6001, dec_less.j6001)] [] [] n0 n0 [] false n00 nl0 [] nli
theorem dec_less.eq (k : Nat) (x : ((Int × Int × Int × Int) × (Int × Int × Int × Int))) : runF (dec_less.E k) (codeOf Try.f38) (dec_less.i.put x) dec_less.r.un = dec_less.f k (x.1) (x.2) := by kernel_rfl
theorem dec_less.sound (k : Nat) : Sound Try.prog DD 38 (dec_less.D k) :=
  funP (E := dec_less.E k) (fn := Try.f38) (c := codeOf Try.f38) (mkE_ok _ _ _ _ _ _ _ _ _ _ _ _ _) mixed rfl Try.func38 (by kernel_rfl) (by kernel_rfl) (allL_of (l := []) (by kernel_rfl) allL_nil) dec_less.i dec_less.r [] true (fun x => dec_less.f k (x.1) (x.2)) (fun _ _ => rfl) (by kernel_rfl) (dec_less.eq k)
noncomputable def dec_less.pk (k : Nat) : Pk Try.prog DD := ⟨38, dec_less.D k, dec_less.sound k, enter_of Try.func38 (by kernel_rfl) (by kernel_rfl)⟩
/-! ### pyx/dec.Add: function 18 -/
noncomputable def dec_Add.f (k : Nat) (a0 : Sapi_Dec) (a1 : Sapi_Dec) : Option (Sapi_Dec × Int) := (((dec_Right.f k (⟨a0.f_Neg, (a0.f_C.1, a0.f_C.2), a0.f_Scale⟩ : Sapi_Dec)).bind fun t1 => (cond (!t1) (some (true, a0.f_Neg, a0.f_C.1, a0.f_C.2, a0.f_Scale, a1.f_Neg, a1.f_C.1, a1.f_C.2, a1.f_Scale, false, 0, 0, 0)) ((dec_Right.f k (⟨a1.f_Neg, (a1.f_C.1, a1.f_C.2), a1.f_Scale⟩ : Sapi_Dec)).bind fun t15 => (some (!t15, a0.f_Neg, a0.f_C.1, a0.f_C.2, a0.f_Scale, a1.f_Neg, a1.f_C.1, a1.f_C.2, a1.f_Scale, false, 0, 0, 0))))) : Option (Bool × Bool × Int × Int × Int × Bool × Int × Int × Int × Bool × Int × Int × Int)).bind fun y16 => (cond (y16.1) (some ((⟨false, (0, 0), 0⟩ : Sapi_Dec), 1)) ((dec_wide.f k (⟨y16.2.1, (y16.2.2.1, y16.2.2.2.1), y16.2.2.2.2.1⟩ : Sapi_Dec) (if y16.2.2.2.2.2.2.2.2.1 > y16.2.2.2.2.1 then y16.2.2.2.2.2.2.2.2.1 else y16.2.2.2.2.1)).bind fun t17 => ((dec_wide.f k (⟨y16.2.2.2.2.2.1, (y16.2.2.2.2.2.2.1, y16.2.2.2.2.2.2.2.1), y16.2.2.2.2.2.2.2.2.1⟩ : Sapi_Dec) (if y16.2.2.2.2.2.2.2.2.1 > y16.2.2.2.2.1 then y16.2.2.2.2.2.2.2.2.1 else y16.2.2.2.2.1)).bind fun t18 => (cond (y16.2.1 == y16.2.2.2.2.2.1) ((dec_plus.f k (t17.1, t17.2.1, t17.2.2.1, t17.2.2.2) (t18.1, t18.2.1, t18.2.2.1, t18.2.2.2)).bind fun t19 => ((dec_made.f k y16.2.1 (t19.1, t19.2.1, t19.2.2.1, t19.2.2.2) (if y16.2.2.2.2.2.2.2.2.1 > y16.2.2.2.2.1 then y16.2.2.2.2.2.2.2.2.1 else y16.2.2.2.2.1)).bind fun t20 => (some ((⟨t20.1.f_Neg, (t20.1.f_C.1, t20.1.f_C.2), t20.1.f_Scale⟩ : Sapi_Dec), t20.2)))) ((dec_cmp.f k (t17.1, t17.2.1, t17.2.2.1, t17.2.2.2) (t18.1, t18.2.1, t18.2.2.1, t18.2.2.2)).bind fun t21 => (cond (decide (t21 ≥ 0)) ((dec_less.f k (t17.1, t17.2.1, t17.2.2.1, t17.2.2.2) (t18.1, t18.2.1, t18.2.2.1, t18.2.2.2)).bind fun t22 => ((dec_made.f k y16.2.1 (t22.1, t22.2.1, t22.2.2.1, t22.2.2.2) (if y16.2.2.2.2.2.2.2.2.1 > y16.2.2.2.2.1 then y16.2.2.2.2.2.2.2.2.1 else y16.2.2.2.2.1)).bind fun t23 => (some ((⟨t23.1.f_Neg, (t23.1.f_C.1, t23.1.f_C.2), t23.1.f_Scale⟩ : Sapi_Dec), t23.2)))) ((dec_less.f k (t18.1, t18.2.1, t18.2.2.1, t18.2.2.2) (t17.1, t17.2.1, t17.2.2.1, t17.2.2.2)).bind fun t24 => ((dec_made.f k y16.2.2.2.2.2.1 (t24.1, t24.2.1, t24.2.2.1, t24.2.2.2) (if y16.2.2.2.2.2.2.2.2.1 > y16.2.2.2.2.1 then y16.2.2.2.2.2.2.2.2.1 else y16.2.2.2.2.1)).bind fun t25 => (some ((⟨t25.1.f_Neg, (t25.1.f_C.1, t25.1.f_C.2), t25.1.f_Scale⟩ : Sapi_Dec), t25.2))))))))))
noncomputable def dec_Add.i : Lay U (Sapi_Dec × Sapi_Dec) := (pcAnd (pcOne 0 (tAt (vCd cd_Sapi_Dec))) (pcOne 1 (tAt (vCd cd_Sapi_Dec)))).lay (fun _ => by kernel_rfl)
noncomputable def dec_Add.r : Lay U (Sapi_Dec × Int) := (pcTup 0 (tqCons (tAt (vCd cd_Sapi_Dec)) (tqOne (tAt (vInt .i64))))).lay (fun _ => by kernel_rfl)
noncomputable def dec_Add.D (k : Nat) : FDen U := fdn dec_Add.i dec_Add.r Try.f18.ntmps [] true (fun x => dec_Add.f k (x.1) (x.2)) (fun _ _ => rfl)
noncomputable def dec_Add.j1000 : Jk U := ⟨(Bool × Bool × Int × Int × Int × Bool × Int × Int × Int × Bool × Int × Int × Int), oNorm (lay [(2, sPtr 2 0), (3, sPtr 3 0), (4, sPtr 4 0), (16, sAt vBool)] [bLit 2 [vBool, (vInt .u64), (vInt .u64), (vInt .i64)], bLit 3 [vBool, (vInt .u64), (vInt .u64), (vInt .i64)], bLit 4 [vBool, (vInt .u64), (vInt .u64), (vInt .i64)]] (fun _ => by kernel_rfl))⟩
noncomputable def dec_Add.E (k : Nat) : Env U := mkE Try.f18 [dec_Right.pk k, dec_wide.pk k, dec_plus.pk k, dec_made.pk k, dec_cmp.pk k, dec_less.pk k] [(1000, dec_Add.j1000)] [] [] n0 n0 [] false n00 nl0 [] nli
theorem dec_Add.eq (k : Nat) (x : (Sapi_Dec × Sapi_Dec)) : runF (dec_Add.E k) (codeOf Try.f18) (dec_Add.i.put x) dec_Add.r.un = dec_Add.f k (x.1) (x.2) := by kernel_rfl
theorem dec_Add.sound (k : Nat) : Sound Try.prog DD 18 (dec_Add.D k) :=
  funP (E := dec_Add.E k) (fn := Try.f18) (c := codeOf Try.f18) (mkE_ok _ _ _ _ _ _ _ _ _ _ _ _ _) mixed rfl Try.func18 (by kernel_rfl) (by kernel_rfl) (allL_of (l := []) (by kernel_rfl) allL_nil) dec_Add.i dec_Add.r [] true (fun x => dec_Add.f k (x.1) (x.2)) (fun _ _ => rfl) (by kernel_rfl) (dec_Add.eq k)
noncomputable def dec_Add.pk (k : Nat) : Pk Try.prog DD := ⟨18, dec_Add.D k, dec_Add.sound k, enter_of Try.func18 (by kernel_rfl) (by kernel_rfl)⟩
end
end Go.Proofs.Ytgfbcclfajcjnaa
