import Derived.Test.YtgfbcclfajcjnaaF0
/-! Functions, told; their equations with the evaluator; that they are sound. Written by gen.py. -/
namespace Go.Proofs.Ytgfbcclfajcjnaa
open Go Go.Ev
noncomputable section
set_option linter.unusedVariables false
set_option linter.unusedSimpArgs false
set_option maxRecDepth 100000
/-! ### pyx/dec.Of: function 49 -/
noncomputable def dec_Of.f (k : Nat) (a0 : Int) (a1 : Int) : Option Sapi_Dec := ((cond (decide (a0 < 0)) (some (a0, a1, IntKind.wrap .u64 (0 - (IntKind.wrap .u64 (a0))), false, 0, 0, 0)) (some (a0, a1, IntKind.wrap .u64 (a0), false, 0, 0, 0))) : Option (Int × Int × Int × Bool × Int × Int × Int)).bind fun y8 => ((limb_Of.f k y8.2.2.1).bind fun t9 => (some (⟨decide (y8.1 < 0), (t9.1, t9.2), (if (if 9 < y8.2.1 then 9 else y8.2.1) > 0 then (if 9 < y8.2.1 then 9 else y8.2.1) else 0)⟩ : Sapi_Dec)))
noncomputable def dec_Of.i : Lay U (Int × Int) := (pcAnd (pcOne 0 (tAt (vInt .i64))) (pcOne 1 (tAt (vInt .i64)))).lay (fun _ => by kernel_rfl)
noncomputable def dec_Of.r : Lay U Sapi_Dec := (pcOne 0 (tAt (vCd cd_Sapi_Dec))).lay (fun _ => by kernel_rfl)
noncomputable def dec_Of.D (k : Nat) : FDen U := fdn dec_Of.i dec_Of.r Try.f49.ntmps [] true (fun x => dec_Of.f k (x.1) (x.2)) (fun _ _ => rfl)
noncomputable def dec_Of.j3001 : Jk U := ⟨(Int × Int × Int × Bool × Int × Int × Int), oNorm (lay [(4, sPtr 4 0), (0, sAt (vInt .i64)), (1, sAt (vInt .i64)), (5, sAt (vInt .u64))] [bLit 4 [vBool, (vInt .u64), (vInt .u64), (vInt .i64)]] (fun _ => by kernel_rfl))⟩
noncomputable def dec_Of.E (k : Nat) : Env U := mkE Try.f49 [limb_Of.pk k] [(3001, dec_Of.j3001)] [] [] n0 n0 [] false n00 nl0 [] nli
theorem dec_Of.eq (k : Nat) (x : (Int × Int)) : runF (dec_Of.E k) (codeOf Try.f49) (dec_Of.i.put x) dec_Of.r.un = dec_Of.f k (x.1) (x.2) := by kernel_rfl
theorem dec_Of.sound (k : Nat) : Sound Try.prog DD 49 (dec_Of.D k) :=
  funP (E := dec_Of.E k) (fn := Try.f49) (c := codeOf Try.f49) (mkE_ok _ _ _ _ _ _ _ _ _ _ _ _ _) mixed rfl Try.func49 (by kernel_rfl) (by kernel_rfl) (allL_of (l := []) (by kernel_rfl) allL_nil) dec_Of.i dec_Of.r [] true (fun x => dec_Of.f k (x.1) (x.2)) (fun _ _ => rfl) (by kernel_rfl) (dec_Of.eq k)
noncomputable def dec_Of.pk (k : Nat) : Pk Try.prog DD := ⟨49, dec_Of.D k, dec_Of.sound k, enter_of Try.func49 (by kernel_rfl) (by kernel_rfl)⟩
/-! ### pyx/inter.sum: function 28 -/
noncomputable def inter_sum.f (k : Nat) (a0 : List ((Int × Int) × Sapi_Dec)) (a1 : Int) (a2 : Int) : Option Sapi_Dec := (some (mget (keq_a2_i64 (a1, IntKind.wrap .i64 (a2 + 1))) a0)).bind fun t1 => ((some (Option.getD t1 (⟨false, (0, 0), 0⟩ : Sapi_Dec))).bind fun t2 => (cond (!(Option.isSome t1)) ((dec_Of.f k 0 2).bind fun t3 => (some (⟨t3.f_Neg, (t3.f_C.1, t3.f_C.2), t3.f_Scale⟩ : Sapi_Dec))) (some (⟨t2.f_Neg, (t2.f_C.1, t2.f_C.2), t2.f_Scale⟩ : Sapi_Dec))))
noncomputable def inter_sum.i : Lay U (List ((Int × Int) × Sapi_Dec) × Int × Int) := (pcAnd (pcOne 0 (tAt (vFm DD true true C.a2_i64 C.Sapi_Dec))) (pcAnd (pcOne 1 (tAt (vInt .i64))) (pcOne 2 (tAt (vInt .i64))))).lay (fun _ => by kernel_rfl)
noncomputable def inter_sum.r : Lay U Sapi_Dec := (pcOne 0 (tAt (vCd cd_Sapi_Dec))).lay (fun _ => by kernel_rfl)
noncomputable def inter_sum.D (k : Nat) : FDen U := fdn inter_sum.i inter_sum.r Try.f28.ntmps [] true (fun x => inter_sum.f k (x.1) (x.2.1) (x.2.2)) (fun _ _ => rfl)
noncomputable def inter_sum.E (k : Nat) : Env U := mkE Try.f28 [dec_Of.pk k] [] [] [] n0 n0 [] false n00 nl0 [] nli
theorem inter_sum.eq (k : Nat) (x : (List ((Int × Int) × Sapi_Dec) × Int × Int)) : runF (inter_sum.E k) (codeOf Try.f28) (inter_sum.i.put x) inter_sum.r.un = inter_sum.f k (x.1) (x.2.1) (x.2.2) := by kernel_rfl
theorem inter_sum.sound (k : Nat) : Sound Try.prog DD 28 (inter_sum.D k) :=
  funP (E := inter_sum.E k) (fn := Try.f28) (c := codeOf Try.f28) (mkE_ok _ _ _ _ _ _ _ _ _ _ _ _ _) mixed rfl Try.func28 (by kernel_rfl) (by kernel_rfl) (allL_of (l := []) (by kernel_rfl) allL_nil) inter_sum.i inter_sum.r [] true (fun x => inter_sum.f k (x.1) (x.2.1) (x.2.2)) (fun _ _ => rfl) (by kernel_rfl) (inter_sum.eq k)
noncomputable def inter_sum.pk (k : Nat) : Pk Try.prog DD := ⟨28, inter_sum.D k, inter_sum.sound k, enter_of Try.func28 (by kernel_rfl) (by kernel_rfl)⟩
/-! ### pyx/inter.Owed: function 11 -/
noncomputable def inter_Owed.f (k : Nat) (a0 : List (Int × List ((Int × Int) × Sapi_Dec))) (a1 : Sinter_Pair) : Option (Sapi_Dec × Sapi_Dec) := (some (mget (keq_i64 a1.f_From) a0)).bind fun t1 => ((inter_sum.f k (Option.getD t1 ([] : List ((Int × Int) × Sapi_Dec))) 3 a1.f_To).bind fun t2 => ((some (mget (keq_i64 a1.f_To) a0)).bind fun t3 => ((inter_sum.f k (Option.getD t3 ([] : List ((Int × Int) × Sapi_Dec))) 6 a1.f_From).bind fun t4 => (some ((⟨t2.f_Neg, (t2.f_C.1, t2.f_C.2), t2.f_Scale⟩ : Sapi_Dec), (⟨t4.f_Neg, (t4.f_C.1, t4.f_C.2), t4.f_Scale⟩ : Sapi_Dec))))))
noncomputable def inter_Owed.i : Lay U (List (Int × List ((Int × Int) × Sapi_Dec)) × Sinter_Pair) := (pcAnd (pcOne 0 (tAt (vFm DD false false C.i64 C.m_a2_i64_Sapi_Dec))) (pcOne 1 (tAt (vCd cd_Sinter_Pair)))).lay (fun _ => by kernel_rfl)
noncomputable def inter_Owed.r : Lay U (Sapi_Dec × Sapi_Dec) := (pcTup 0 (tqCons (tAt (vCd cd_Sapi_Dec)) (tqOne (tAt (vCd cd_Sapi_Dec))))).lay (fun _ => by kernel_rfl)
noncomputable def inter_Owed.D (k : Nat) : FDen U := fdn inter_Owed.i inter_Owed.r Try.f11.ntmps [] true (fun x => inter_Owed.f k (x.1) (x.2)) (fun _ _ => rfl)
noncomputable def inter_Owed.E (k : Nat) : Env U := mkE Try.f11 [inter_sum.pk k] [] [] [] n0 n0 [] false n00 nl0 [] nli
theorem inter_Owed.eq (k : Nat) (x : (List (Int × List ((Int × Int) × Sapi_Dec)) × Sinter_Pair)) : runF (inter_Owed.E k) (codeOf Try.f11) (inter_Owed.i.put x) inter_Owed.r.un = inter_Owed.f k (x.1) (x.2) := by kernel_rfl
theorem inter_Owed.sound (k : Nat) : Sound Try.prog DD 11 (inter_Owed.D k) :=
  funP (E := inter_Owed.E k) (fn := Try.f11) (c := codeOf Try.f11) (mkE_ok _ _ _ _ _ _ _ _ _ _ _ _ _) mixed rfl Try.func11 (by kernel_rfl) (by kernel_rfl) (allL_of (l := []) (by kernel_rfl) allL_nil) inter_Owed.i inter_Owed.r [] true (fun x => inter_Owed.f k (x.1) (x.2)) (fun _ _ => rfl) (by kernel_rfl) (inter_Owed.eq k)
noncomputable def inter_Owed.pk (k : Nat) : Pk Try.prog DD := ⟨11, inter_Owed.D k, inter_Owed.sound k, enter_of Try.func11 (by kernel_rfl) (by kernel_rfl)⟩
/-! ### pyx/limb.halves: function 70 -/
noncomputable def limb_halves.f (k : Nat) (a0 : (Int × Int)) : Option (Int × Int × Int × Int) := some (IntKind.wrap .u32 (a0.1), IntKind.wrap .u32 (Int.fdiv a0.1 (2 ^ 32)), IntKind.wrap .u32 (a0.2), IntKind.wrap .u32 (Int.fdiv a0.2 (2 ^ 32)))
noncomputable def limb_halves.i : Lay U (Int × Int) := (pcOne 0 (tAt (vCd (Cd.pair (Cd.int .u64) (Cd.int .u64))))).lay (fun _ => by kernel_rfl)
noncomputable def limb_halves.r : Lay U (Int × Int × Int × Int) := (pcOne 0 (tAt (vCd (Cd.pair (Cd.int .u32) (Cd.pair (Cd.int .u32) (Cd.pair (Cd.int .u32) (Cd.int .u32))))))).lay (fun _ => by kernel_rfl)
noncomputable def limb_halves.D (k : Nat) : FDen U := fdn limb_halves.i limb_halves.r Try.f70.ntmps [] true (fun x => limb_halves.f k (x)) (fun _ _ => rfl)
noncomputable def limb_halves.E (k : Nat) : Env U := mkE Try.f70 [] [] [] [] n0 n0 [] false n00 nl0 [] nli
theorem limb_halves.eq (k : Nat) (x : (Int × Int)) : runF (limb_halves.E k) (codeOf Try.f70) (limb_halves.i.put x) limb_halves.r.un = limb_halves.f k (x) := by kernel_rfl
theorem limb_halves.sound (k : Nat) : Sound Try.prog DD 70 (limb_halves.D k) :=
  funP (E := limb_halves.E k) (fn := Try.f70) (c := codeOf Try.f70) (mkE_ok _ _ _ _ _ _ _ _ _ _ _ _ _) mixed rfl Try.func70 (by kernel_rfl) (by kernel_rfl) (allL_of (l := []) (by kernel_rfl) allL_nil) limb_halves.i limb_halves.r [] true (fun x => limb_halves.f k (x)) (fun _ _ => rfl) (by kernel_rfl) (limb_halves.eq k)
noncomputable def limb_halves.pk (k : Nat) : Pk Try.prog DD := ⟨70, limb_halves.D k, limb_halves.sound k, enter_of Try.func70 (by kernel_rfl) (by kernel_rfl)⟩
/-! ### pyx/limb.Mul: function 51 -/
noncomputable def limb_Mul.l8.once (k : Nat) (x : (Int × Int × Int × Int × Int × Int × Int × Int × Int × Int × Int × Int × Int × List Int × List Int × List Int)) : Option ((Int × Int × Int × Int × Int × Int × Int × Int × Int × Int × Int × Int × Int × List Int × List Int × List Int) ⊕ ((Int × Int × Int × Int × Int × Int × Int × List Int × List Int × List Int))) := match x with | (x14, x15, x16, x17, x18, x19, x20, x21, x22, x23, x24, x25, x26, x11, x12, x13) => cond (decide (x26 < 4)) (cond (inb x26 4) (cond (inb (IntKind.wrap .i64 (x14 + x26)) 8) (cond (Nat.blt (Int.toNat (IntKind.wrap .i64 (x14 + x26))) 8) (cond (inb (IntKind.wrap .i64 (x14 + x26)) 8) (cond (Nat.blt (Int.toNat (IntKind.wrap .i64 (x14 + x26))) 8) (some (.inl (x14, x15, Int.fdiv (IntKind.wrap .u64 ((IntKind.wrap .u64 ((IntKind.wrap .u64 ((IntKind.wrap .u64 (x15)) * (IntKind.wrap .u64 (List.getD [x22, x23, x24, x25] (Int.toNat x26) 0)))) + (List.getD x12 (Int.toNat (IntKind.wrap .i64 (x14 + x26))) 0))) + x16)) (2 ^ 32), x17, x18, x19, x20, x21, x22, x23, x24, x25, IntKind.wrap .i64 (x26 + 1), x11, List.set x12 (Int.toNat (IntKind.wrap .i64 (x14 + x26))) (IntKind.wrap .u64 (IntKind.wrap .u32 (IntKind.wrap .u64 ((IntKind.wrap .u64 ((IntKind.wrap .u64 ((IntKind.wrap .u64 (x15)) * (IntKind.wrap .u64 (List.getD [x22, x23, x24, x25] (Int.toNat x26) 0)))) + (List.getD x12 (Int.toNat (IntKind.wrap .i64 (x14 + x26))) 0))) + x16)))), x13))) none) none) none) none) none) (some (.inr (x14, x16, x17, x18, x19, x20, x21, x11, x12, x13)))
noncomputable def limb_Mul.l4.once (k : Nat) (x : (Int × Int × Int × Int × Int × List Int × List Int × List Int)) : Option ((Int × Int × Int × Int × Int × List Int × List Int × List Int) ⊕ ((List Int × List Int))) := match x with | (x6, x7, x8, x9, x10, x3, x4, x5) => cond (decide (x10 < 4)) (cond (inb x10 4) ((iter (limb_Mul.l8.once k) k (x10, List.getD [x6, x7, x8, x9] (Int.toNat x10) 0, 0, x6, x7, x8, x9, x10, List.getD x5 0 0, List.getD x5 1 0, List.getD x5 2 0, List.getD x5 3 0, 0, x3, x4, x5)).bind fun y37 => (cond (inb (IntKind.wrap .i64 (y37.1 + 4)) 8) (cond (Nat.blt (Int.toNat (IntKind.wrap .i64 (y37.1 + 4))) 8) (some (.inl (y37.2.2.1, y37.2.2.2.1, y37.2.2.2.2.1, y37.2.2.2.2.2.1, IntKind.wrap .i64 (y37.2.2.2.2.2.2.1 + 1), y37.2.2.2.2.2.2.2.1, List.set y37.2.2.2.2.2.2.2.2.1 (Int.toNat (IntKind.wrap .i64 (y37.1 + 4))) y37.2.1, y37.2.2.2.2.2.2.2.2.2))) none) none)) none) (some (.inr (x3, x4)))
noncomputable def limb_Mul.l18.once (k : Nat) (x : (Int × List Int × List Int × List Int)) : Option ((Int × List Int × List Int × List Int) ⊕ ((List Int × List Int))) := match x with | (x44, x41, x42, x43) => cond (decide (x44 < 4)) (cond (inb (IntKind.wrap .i64 (2 * x44)) 8) (cond (Nat.blt (Int.toNat (IntKind.wrap .i64 (2 * x44))) 8) (cond (inb (IntKind.wrap .i64 ((IntKind.wrap .i64 (2 * x44)) + 1)) 8) (cond (Nat.blt (Int.toNat (IntKind.wrap .i64 ((IntKind.wrap .i64 (2 * x44)) + 1))) 8) (cond (inb x44 4) (cond (Nat.blt (Int.toNat x44) 4) (some (.inl (IntKind.wrap .i64 (x44 + 1), x41, x42, List.set x43 (Int.toNat x44) (bits .or .u64 (List.getD x42 (Int.toNat (IntKind.wrap .i64 (2 * x44))) 0) (IntKind.wrap .u64 ((List.getD x42 (Int.toNat (IntKind.wrap .i64 ((IntKind.wrap .i64 (2 * x44)) + 1))) 0) * 2 ^ 32)))))) none) none) none) none) none) none) (some (.inr (x41, x43)))
noncomputable def limb_Mul.f (k : Nat) (a0 : (Int × Int)) (a1 : (Int × Int)) : Option (Int × Int × Int × Int) := (limb_halves.f k (a0.1, a0.2)).bind fun t1 => ((limb_halves.f k (a1.1, a1.2)).bind fun t2 => ((iter (limb_Mul.l4.once k) k (List.getD [t1.1, t1.2.1, t1.2.2.1, t1.2.2.2] 0 0, List.getD [t1.1, t1.2.1, t1.2.2.1, t1.2.2.2] 1 0, List.getD [t1.1, t1.2.1, t1.2.2.1, t1.2.2.2] 2 0, List.getD [t1.1, t1.2.1, t1.2.2.1, t1.2.2.2] 3 0, 0, [0, 0, 0, 0], [0, 0, 0, 0, 0, 0, 0, 0], [t2.1, t2.2.1, t2.2.2.1, t2.2.2.2])).bind fun y40 => ((iter (limb_Mul.l18.once k) k (0, y40.1, y40.2, [0, 0, 0, 0])).bind fun y47 => (some (List.getD [List.getD y47.2 0 0, List.getD y47.2 1 0, List.getD y47.2 2 0, List.getD y47.2 3 0] 0 0, List.getD [List.getD y47.2 0 0, List.getD y47.2 1 0, List.getD y47.2 2 0, List.getD y47.2 3 0] 1 0, List.getD [List.getD y47.2 0 0, List.getD y47.2 1 0, List.getD y47.2 2 0, List.getD y47.2 3 0] 2 0, List.getD [List.getD y47.2 0 0, List.getD y47.2 1 0, List.getD y47.2 2 0, List.getD y47.2 3 0] 3 0)))))
noncomputable def limb_Mul.i : Lay U ((Int × Int) × (Int × Int)) := (pcAnd (pcOne 0 (tAt (vCd (Cd.pair (Cd.int .u64) (Cd.int .u64))))) (pcOne 1 (tAt (vCd (Cd.pair (Cd.int .u64) (Cd.int .u64)))))).lay (fun _ => by kernel_rfl)
noncomputable def limb_Mul.r : Lay U (Int × Int × Int × Int) := (pcOne 0 (tAt (vCd (Cd.pair (Cd.int .u64) (Cd.pair (Cd.int .u64) (Cd.pair (Cd.int .u64) (Cd.int .u64))))))).lay (fun _ => by kernel_rfl)
noncomputable def limb_Mul.D (k : Nat) : FDen U := fdn limb_Mul.i limb_Mul.r Try.f51.ntmps [] true (fun x => limb_Mul.f k (x.1) (x.2)) (fun _ _ => rfl)
noncomputable def limb_Mul.l8.i : Lay U (Int × Int × Int × Int × Int × Int × Int × Int × Int × Int × Int × Int × Int × List Int × List Int × List Int) := (lay [(4, sPtr 4 0), (5, sPtr 5 0), (7, sPtr 7 0), (8, sAt (vInt .i64)), (9, sAt (vInt .u32)), (10, sAt (vInt .u64)), (20, sAgg [(vInt .u32), (vInt .u32), (vInt .u32), (vInt .u32)]), (21, sAt (vInt .i64)), (25, sAgg [(vInt .u32), (vInt .u32), (vInt .u32), (vInt .u32)]), (26, sAt (vInt .i64))] [bArr DD 4 4 C.u64, bArr DD 5 8 C.u64, bArr DD 7 4 C.u32] (fun _ => by kernel_rfl))
noncomputable def limb_Mul.l8.o : OLay U ((Int × Int × Int × Int × Int × Int × Int × List Int × List Int × List Int)) := oExit 2 (lay [(4, sPtr 4 0), (5, sPtr 5 0), (7, sPtr 7 0), (8, sAt (vInt .i64)), (10, sAt (vInt .u64)), (20, sAgg [(vInt .u32), (vInt .u32), (vInt .u32), (vInt .u32)]), (21, sAt (vInt .i64))] [bArr DD 4 4 C.u64, bArr DD 5 8 C.u64, bArr DD 7 4 C.u32] (fun _ => by kernel_rfl))
noncomputable def limb_Mul.l4.i : Lay U (Int × Int × Int × Int × Int × List Int × List Int × List Int) := (lay [(4, sPtr 4 0), (5, sPtr 5 0), (7, sPtr 7 0), (20, sAgg [(vInt .u32), (vInt .u32), (vInt .u32), (vInt .u32)]), (21, sAt (vInt .i64))] [bArr DD 4 4 C.u64, bArr DD 5 8 C.u64, bArr DD 7 4 C.u32] (fun _ => by kernel_rfl))
noncomputable def limb_Mul.l4.o : OLay U ((List Int × List Int)) := oExit 0 (lay [(4, sPtr 4 0), (5, sPtr 5 0)] [bArr DD 4 4 C.u64, bArr DD 5 8 C.u64] (fun _ => by kernel_rfl))
noncomputable def limb_Mul.l18.i : Lay U (Int × List Int × List Int × List Int) := (lay [(4, sPtr 4 0), (5, sPtr 5 0), (14, sPtr 14 0), (58, sAt (vInt .i64))] [bArr DD 4 4 C.u64, bArr DD 5 8 C.u64, bArr DD 14 4 C.u64] (fun _ => by kernel_rfl))
noncomputable def limb_Mul.l18.o : OLay U ((List Int × List Int)) := oExit 4 (lay [(4, sPtr 4 0), (14, sPtr 14 0)] [bArr DD 4 4 C.u64, bArr DD 14 4 C.u64] (fun _ => by kernel_rfl))
noncomputable def limb_Mul.E (k : Nat) : Env U := mkE Try.f51 [limb_halves.pk k] [] [(8, ldn limb_Mul.l8.i limb_Mul.l8.o (iter (limb_Mul.l8.once k) k)), (4, ldn limb_Mul.l4.i limb_Mul.l4.o (iter (limb_Mul.l4.once k) k)), (18, ldn limb_Mul.l18.i limb_Mul.l18.o (iter (limb_Mul.l18.once k) k))] [(79, (4, C.u64)), (112, (8, C.u64)), (114, (4, C.u32))] n0 n0 [] false n00 nl0 [] nli
theorem limb_Mul.l8.eq (k : Nat) (x : (Int × Int × Int × Int × Int × Int × Int × Int × Int × Int × Int × Int × Int × List Int × List Int × List Int)) : evC (limb_Mul.E k) (loopAt Try.f51 8) (limb_Mul.l8.i.put x) (headK limb_Mul.l8.i.un limb_Mul.l8.o.re) = limb_Mul.l8.once k x := by kernel_rfl
theorem limb_Mul.l8.sound (k : Nat) : LSound (limb_Mul.E k) Try.f51.ntmps Try.f51 (.loop (loopAt Try.f51 8)) (ldn limb_Mul.l8.i limb_Mul.l8.o (iter (limb_Mul.l8.once k) k)) :=
  loopP (mkE_ok _ _ _ _ _ _ _ _ _ _ _ _ _) mixed rfl (by kernel_rfl) (allL_of (l := []) (by kernel_rfl) allL_nil) limb_Mul.l8.i limb_Mul.l8.o (limb_Mul.l8.once k) k (limb_Mul.l8.eq k)
theorem limb_Mul.l4.eq (k : Nat) (x : (Int × Int × Int × Int × Int × List Int × List Int × List Int)) : evC (limb_Mul.E k) (loopAt Try.f51 4) (limb_Mul.l4.i.put x) (headK limb_Mul.l4.i.un limb_Mul.l4.o.re) = limb_Mul.l4.once k x := by kernel_rfl
theorem limb_Mul.l4.sound (k : Nat) : LSound (limb_Mul.E k) Try.f51.ntmps Try.f51 (.loop (loopAt Try.f51 4)) (ldn limb_Mul.l4.i limb_Mul.l4.o (iter (limb_Mul.l4.once k) k)) :=
  loopP (mkE_ok _ _ _ _ _ _ _ _ _ _ _ _ _) mixed rfl (by kernel_rfl) (allL_of (l := [.loop (loopAt Try.f51 8)]) (by kernel_rfl) (allL_cons (key := 8) (by kernel_rfl) rfl (limb_Mul.l8.sound k) allL_nil)) limb_Mul.l4.i limb_Mul.l4.o (limb_Mul.l4.once k) k (limb_Mul.l4.eq k)
theorem limb_Mul.l18.eq (k : Nat) (x : (Int × List Int × List Int × List Int)) : evC (limb_Mul.E k) (loopAt Try.f51 18) (limb_Mul.l18.i.put x) (headK limb_Mul.l18.i.un limb_Mul.l18.o.re) = limb_Mul.l18.once k x := by kernel_rfl
theorem limb_Mul.l18.sound (k : Nat) : LSound (limb_Mul.E k) Try.f51.ntmps Try.f51 (.loop (loopAt Try.f51 18)) (ldn limb_Mul.l18.i limb_Mul.l18.o (iter (limb_Mul.l18.once k) k)) :=
  loopP (mkE_ok _ _ _ _ _ _ _ _ _ _ _ _ _) mixed rfl (by kernel_rfl) (allL_of (l := []) (by kernel_rfl) allL_nil) limb_Mul.l18.i limb_Mul.l18.o (limb_Mul.l18.once k) k (limb_Mul.l18.eq k)
theorem limb_Mul.eq (k : Nat) (x : ((Int × Int) × (Int × Int))) : runF (limb_Mul.E k) (codeOf Try.f51) (limb_Mul.i.put x) limb_Mul.r.un = limb_Mul.f k (x.1) (x.2) := by kernel_rfl
theorem limb_Mul.sound (k : Nat) : Sound Try.prog DD 51 (limb_Mul.D k) :=
  funP (E := limb_Mul.E k) (fn := Try.f51) (c := codeOf Try.f51) (mkE_ok _ _ _ _ _ _ _ _ _ _ _ _ _) mixed rfl Try.func51 (by kernel_rfl) (by kernel_rfl) (allL_of (l := [.loop (loopAt Try.f51 4), .loop (loopAt Try.f51 18)]) (by kernel_rfl) (allL_cons (key := 4) (by kernel_rfl) rfl (limb_Mul.l4.sound k) (allL_cons (key := 18) (by kernel_rfl) rfl (limb_Mul.l18.sound k) allL_nil))) limb_Mul.i limb_Mul.r [] true (fun x => limb_Mul.f k (x.1) (x.2)) (fun _ _ => rfl) (by kernel_rfl) (limb_Mul.eq k)
noncomputable def limb_Mul.pk (k : Nat) : Pk Try.prog DD := ⟨51, limb_Mul.D k, limb_Mul.sound k, enter_of Try.func51 (by kernel_rfl) (by kernel_rfl)⟩
/-! ### pyx/limb.Short: function 53 -/
noncomputable def limb_Short.f (k : Nat) (a0 : (Int × Int × Int × Int)) : Option ((Int × Int) × Bool) := ((cond (a0.2.2.1 != 0) (some (true, a0.1, a0.2.1, a0.2.2.1, a0.2.2.2, 0, 0)) (some (a0.2.2.2 != 0, a0.1, a0.2.1, a0.2.2.1, a0.2.2.2, 0, 0))) : Option (Bool × Int × Int × Int × Int × Int × Int)).bind fun y8 => (cond (y8.1) (some ((0, 0), false)) (some ((y8.2.1, y8.2.2.1), true)))
noncomputable def limb_Short.i : Lay U (Int × Int × Int × Int) := (pcOne 0 (tAt (vCd (Cd.pair (Cd.int .u64) (Cd.pair (Cd.int .u64) (Cd.pair (Cd.int .u64) (Cd.int .u64))))))).lay (fun _ => by kernel_rfl)
noncomputable def limb_Short.r : Lay U ((Int × Int) × Bool) := (pcTup 0 (tqCons (tAt (vCd (Cd.pair (Cd.int .u64) (Cd.int .u64)))) (tqOne (tAt vBool)))).lay (fun _ => by kernel_rfl)
noncomputable def limb_Short.D (k : Nat) : FDen U := fdn limb_Short.i limb_Short.r Try.f53.ntmps [] true (fun x => limb_Short.f k (x)) (fun _ _ => rfl)
noncomputable def limb_Short.j1000 : Jk U := ⟨(Bool × Int × Int × Int × Int × Int × Int), oNorm (lay [(1, sPtr 1 0), (2, sPtr 2 0), (11, sAt vBool)] [bLit 1 [(vInt .u64), (vInt .u64), (vInt .u64), (vInt .u64)], bLit 2 [(vInt .u64), (vInt .u64)]] (fun _ => by kernel_rfl))⟩
noncomputable def limb_Short.E (k : Nat) : Env U := mkE Try.f53 [] [(1000, limb_Short.j1000)] [] [] n0 n0 [] false n00 nl0 [] nli
theorem limb_Short.eq (k : Nat) (x : (Int × Int × Int × Int)) : runF (limb_Short.E k) (codeOf Try.f53) (limb_Short.i.put x) limb_Short.r.un = limb_Short.f k (x) := by kernel_rfl
theorem limb_Short.sound (k : Nat) : Sound Try.prog DD 53 (limb_Short.D k) :=
  funP (E := limb_Short.E k) (fn := Try.f53) (c := codeOf Try.f53) (mkE_ok _ _ _ _ _ _ _ _ _ _ _ _ _) mixed rfl Try.func53 (by kernel_rfl) (by kernel_rfl) (allL_of (l := []) (by kernel_rfl) allL_nil) limb_Short.i limb_Short.r [] true (fun x => limb_Short.f k (x)) (fun _ _ => rfl) (by kernel_rfl) (limb_Short.eq k)
noncomputable def limb_Short.pk (k : Nat) : Pk Try.prog DD := ⟨53, limb_Short.D k, limb_Short.sound k, enter_of Try.func53 (by kernel_rfl) (by kernel_rfl)⟩
/-! ### pyx/limb.Ten: function 71 -/
noncomputable def limb_Ten.l5.once (k : Nat) (x : (Int × Int × Int × Int × Int × Int)) : Option ((Int × Int × Int × Int × Int × Int) ⊕ ((Int × Int × Int × Int))) := match x with | (x11, x12, x7, x8, x9, x10) => cond (decide (x12 < x11)) ((limb_Of.f k 10).bind fun t13 => ((limb_Mul.f k (x9, x10) (t13.1, t13.2)).bind fun t14 => ((limb_Short.f k (t14.1, t14.2.1, t14.2.2.1, t14.2.2.2)).bind fun t15 => (some (.inl (x11, IntKind.wrap .i64 (x12 + 1), x7, x8, t15.1.1, t15.1.2)))))) (some (.inr (x7, x8, x9, x10)))
noncomputable def limb_Ten.f (k : Nat) (a0 : Int) : Option ((Int × Int) × Bool) := ((cond (decide (a0 < 0)) (some (a0, true, 0, 0)) (some (a0, decide (a0 > 38), 0, 0))) : Option (Int × Bool × Int × Int)).bind fun y5 => (cond (y5.2.1) (some ((0, 0), false)) ((limb_Of.f k 1).bind fun t6 => ((iter (limb_Ten.l5.once k) k (y5.1, 0, y5.2.2.1, y5.2.2.2, t6.1, t6.2)).bind fun y20 => (some ((y20.2.2.1, y20.2.2.2), true)))))
noncomputable def limb_Ten.i : Lay U Int := (pcOne 0 (tAt (vInt .i64))).lay (fun _ => by kernel_rfl)
noncomputable def limb_Ten.r : Lay U ((Int × Int) × Bool) := (pcTup 0 (tqCons (tAt (vCd (Cd.pair (Cd.int .u64) (Cd.int .u64)))) (tqOne (tAt vBool)))).lay (fun _ => by kernel_rfl)
noncomputable def limb_Ten.D (k : Nat) : FDen U := fdn limb_Ten.i limb_Ten.r Try.f71.ntmps [] true (fun x => limb_Ten.f k (x)) (fun _ _ => rfl)
noncomputable def limb_Ten.l5.i : Lay U (Int × Int × Int × Int × Int × Int) := (lay [(2, sPtr 2 0), (4, sPtr 4 0), (13, sAt (vInt .i64)), (14, sAt (vInt .i64))] [bLit 2 [(vInt .u64), (vInt .u64)], bLit 4 [(vInt .u64), (vInt .u64)]] (fun _ => by kernel_rfl))
noncomputable def limb_Ten.l5.o : OLay U ((Int × Int × Int × Int)) := oExit 0 (lay [(2, sPtr 2 0), (4, sPtr 4 0)] [bLit 2 [(vInt .u64), (vInt .u64)], bLit 4 [(vInt .u64), (vInt .u64)]] (fun _ => by kernel_rfl))
noncomputable def limb_Ten.j1000 : Jk U := ⟨(Int × Bool × Int × Int), oNorm (lay [(2, sPtr 2 0), (0, sAt (vInt .i64)), (10, sAt vBool)] [bLit 2 [(vInt .u64), (vInt .u64)]] (fun _ => by kernel_rfl))⟩
noncomputable def limb_Ten.E (k : Nat) : Env U := mkE Try.f71 [limb_Of.pk k, limb_Mul.pk k, limb_Short.pk k] [(1000, limb_Ten.j1000)] [(5, ldn limb_Ten.l5.i limb_Ten.l5.o (iter (limb_Ten.l5.once k) k))] [] n0 n0 [] false n00 nl0 [] nli
theorem limb_Ten.l5.eq (k : Nat) (x : (Int × Int × Int × Int × Int × Int)) : evC (limb_Ten.E k) (loopAt Try.f71 5) (limb_Ten.l5.i.put x) (headK limb_Ten.l5.i.un limb_Ten.l5.o.re) = limb_Ten.l5.once k x := by kernel_rfl
theorem limb_Ten.l5.sound (k : Nat) : LSound (limb_Ten.E k) Try.f71.ntmps Try.f71 (.loop (loopAt Try.f71 5)) (ldn limb_Ten.l5.i limb_Ten.l5.o (iter (limb_Ten.l5.once k) k)) :=
  loopP (mkE_ok _ _ _ _ _ _ _ _ _ _ _ _ _) mixed rfl (by kernel_rfl) (allL_of (l := []) (by kernel_rfl) allL_nil) limb_Ten.l5.i limb_Ten.l5.o (limb_Ten.l5.once k) k (limb_Ten.l5.eq k)
theorem limb_Ten.eq (k : Nat) (x : Int) : runF (limb_Ten.E k) (codeOf Try.f71) (limb_Ten.i.put x) limb_Ten.r.un = limb_Ten.f k (x) := by kernel_rfl
theorem limb_Ten.sound (k : Nat) : Sound Try.prog DD 71 (limb_Ten.D k) :=
  funP (E := limb_Ten.E k) (fn := Try.f71) (c := codeOf Try.f71) (mkE_ok _ _ _ _ _ _ _ _ _ _ _ _ _) mixed rfl Try.func71 (by kernel_rfl) (by kernel_rfl) (allL_of (l := [.loop (loopAt Try.f71 5)]) (by kernel_rfl) (allL_cons (key := 5) (by kernel_rfl) rfl (limb_Ten.l5.sound k) allL_nil)) limb_Ten.i limb_Ten.r [] true (fun x => limb_Ten.f k (x)) (fun _ _ => rfl) (by kernel_rfl) (limb_Ten.eq k)
noncomputable def limb_Ten.pk (k : Nat) : Pk Try.prog DD := ⟨71, limb_Ten.D k, limb_Ten.sound k, enter_of Try.func71 (by kernel_rfl) (by kernel_rfl)⟩
/-! ### pyx/dec.ten: function 52 -/
noncomputable def dec_ten.f (k : Nat) (a0 : Int) : Option (Int × Int) := (limb_Ten.f k a0).bind fun t1 => (some (t1.1.1, t1.1.2))
noncomputable def dec_ten.i : Lay U Int := (pcOne 0 (tAt (vInt .i64))).lay (fun _ => by kernel_rfl)
noncomputable def dec_ten.r : Lay U (Int × Int) := (pcOne 0 (tAt (vCd (Cd.pair (Cd.int .u64) (Cd.int .u64))))).lay (fun _ => by kernel_rfl)
noncomputable def dec_ten.D (k : Nat) : FDen U := fdn dec_ten.i dec_ten.r Try.f52.ntmps [] true (fun x => dec_ten.f k (x)) (fun _ _ => rfl)
noncomputable def dec_ten.E (k : Nat) : Env U := mkE Try.f52 [limb_Ten.pk k] [] [] [] n0 n0 [] false n00 nl0 [] nli
theorem dec_ten.eq (k : Nat) (x : Int) : runF (dec_ten.E k) (codeOf Try.f52) (dec_ten.i.put x) dec_ten.r.un = dec_ten.f k (x) := by kernel_rfl
theorem dec_ten.sound (k : Nat) : Sound Try.prog DD 52 (dec_ten.D k) :=
  funP (E := dec_ten.E k) (fn := Try.f52) (c := codeOf Try.f52) (mkE_ok _ _ _ _ _ _ _ _ _ _ _ _ _) mixed rfl Try.func52 (by kernel_rfl) (by kernel_rfl) (allL_of (l := []) (by kernel_rfl) allL_nil) dec_ten.i dec_ten.r [] true (fun x => dec_ten.f k (x)) (fun _ _ => rfl) (by kernel_rfl) (dec_ten.eq k)
noncomputable def dec_ten.pk (k : Nat) : Pk Try.prog DD := ⟨52, dec_ten.D k, dec_ten.sound k, enter_of Try.func52 (by kernel_rfl) (by kernel_rfl)⟩
/-! ### pyx/limb.Cmp: function 69 -/
noncomputable def limb_Cmp.l2.once (k : Nat) (x : (Int × List Int × List Int)) : Option ((Int × List Int × List Int) ⊕ (Unit ⊕ Int)) := match x with | (x3, x1, x2) => cond (decide (x3 ≥ 0)) (cond (inb x3 2) (cond (Nat.blt (Int.toNat x3) 2) (cond (inb x3 2) (cond (Nat.blt (Int.toNat x3) 2) (cond ((List.getD x1 (Int.toNat x3) 0) != (List.getD x2 (Int.toNat x3) 0)) (cond (inb x3 2) (cond (Nat.blt (Int.toNat x3) 2) (cond (inb x3 2) (cond (Nat.blt (Int.toNat x3) 2) (cond (decide ((List.getD x1 (Int.toNat x3) 0) < (List.getD x2 (Int.toNat x3) 0))) (some (.inr (.inr (-1)))) (some (.inr (.inr 1)))) none) none) none) none) (some (.inl (IntKind.wrap .i64 (x3 - 1), x1, x2)))) none) none) none) none) (some (.inr (.inl ())))
noncomputable def limb_Cmp.f (k : Nat) (a0 : (Int × Int)) (a1 : (Int × Int)) : Option Int := (iter (limb_Cmp.l2.once k) k (1, [a0.1, a0.2], [a1.1, a1.2])).bind fun | .inl y5 => (some 0) | .inr y6 => (some y6)
noncomputable def limb_Cmp.i : Lay U ((Int × Int) × (Int × Int)) := (pcAnd (pcOne 0 (tAt (vCd (Cd.pair (Cd.int .u64) (Cd.int .u64))))) (pcOne 1 (tAt (vCd (Cd.pair (Cd.int .u64) (Cd.int .u64)))))).lay (fun _ => by kernel_rfl)
noncomputable def limb_Cmp.r : Lay U Int := (pcOne 0 (tAt (vInt .i64))).lay (fun _ => by kernel_rfl)
noncomputable def limb_Cmp.D (k : Nat) : FDen U := fdn limb_Cmp.i limb_Cmp.r Try.f69.ntmps [] true (fun x => limb_Cmp.f k (x.1) (x.2)) (fun _ _ => rfl)
noncomputable def limb_Cmp.l2.i : Lay U (Int × List Int × List Int) := (lay [(2, sPtr 2 0), (3, sPtr 3 0), (5, sAt (vInt .i64))] [bArr DD 2 2 C.u64, bArr DD 3 2 C.u64] (fun _ => by kernel_rfl))
noncomputable def limb_Cmp.l2.o : OLay U (Unit ⊕ Int) := oOr (oExit 0 (lay [] [] (fun _ => by kernel_rfl))) (oRet limb_Cmp.r)
noncomputable def limb_Cmp.E (k : Nat) : Env U := mkE Try.f69 [] [] [(2, ldn limb_Cmp.l2.i limb_Cmp.l2.o (iter (limb_Cmp.l2.once k) k))] [(24, (2, C.u64))] n0 n0 [] false n00 nl0 [] nli
theorem limb_Cmp.l2.eq (k : Nat) (x : (Int × List Int × List Int)) : evC (limb_Cmp.E k) (loopAt Try.f69 2) (limb_Cmp.l2.i.put x) (headK limb_Cmp.l2.i.un limb_Cmp.l2.o.re) = limb_Cmp.l2.once k x := by kernel_rfl
theorem limb_Cmp.l2.sound (k : Nat) : LSound (limb_Cmp.E k) Try.f69.ntmps Try.f69 (.loop (loopAt Try.f69 2)) (ldn limb_Cmp.l2.i limb_Cmp.l2.o (iter (limb_Cmp.l2.once k) k)) :=
  loopP (mkE_ok _ _ _ _ _ _ _ _ _ _ _ _ _) mixed rfl (by kernel_rfl) (allL_of (l := []) (by kernel_rfl) allL_nil) limb_Cmp.l2.i limb_Cmp.l2.o (limb_Cmp.l2.once k) k (limb_Cmp.l2.eq k)
theorem limb_Cmp.eq (k : Nat) (x : ((Int × Int) × (Int × Int))) : runF (limb_Cmp.E k) (codeOf Try.f69) (limb_Cmp.i.put x) limb_Cmp.r.un = limb_Cmp.f k (x.1) (x.2) := by kernel_rfl
theorem limb_Cmp.sound (k : Nat) : Sound Try.prog DD 69 (limb_Cmp.D k) :=
  funP (E := limb_Cmp.E k) (fn := Try.f69) (c := codeOf Try.f69) (mkE_ok _ _ _ _ _ _ _ _ _ _ _ _ _) mixed rfl Try.func69 (by kernel_rfl) (by kernel_rfl) (allL_of (l := [.loop (loopAt Try.f69 2)]) (by kernel_rfl) (allL_cons (key := 2) (by kernel_rfl) rfl (limb_Cmp.l2.sound k) allL_nil)) limb_Cmp.i limb_Cmp.r [] true (fun x => limb_Cmp.f k (x.1) (x.2)) (fun _ _ => rfl) (by kernel_rfl) (limb_Cmp.eq k)
noncomputable def limb_Cmp.pk (k : Nat) : Pk Try.prog DD := ⟨69, limb_Cmp.D k, limb_Cmp.sound k, enter_of Try.func69 (by kernel_rfl) (by kernel_rfl)⟩
/-! ### pyx/dec.small: function 50 -/
noncomputable def dec_small.f (k : Nat) (a0 : (Int × Int)) : Option Bool := (dec_ten.f k 30).bind fun t1 => ((limb_Cmp.f k (a0.1, a0.2) (t1.1, t1.2)).bind fun t2 => (some (decide (t2 < 0))))
noncomputable def dec_small.i : Lay U (Int × Int) := (pcOne 0 (tAt (vCd (Cd.pair (Cd.int .u64) (Cd.int .u64))))).lay (fun _ => by kernel_rfl)
noncomputable def dec_small.r : Lay U Bool := (pcOne 0 (tAt vBool)).lay (fun _ => by kernel_rfl)
noncomputable def dec_small.D (k : Nat) : FDen U := fdn dec_small.i dec_small.r Try.f50.ntmps [] true (fun x => dec_small.f k (x)) (fun _ _ => rfl)
noncomputable def dec_small.E (k : Nat) : Env U := mkE Try.f50 [dec_ten.pk k, limb_Cmp.pk k] [] [] [] n0 n0 [] false n00 nl0 [] nli
theorem dec_small.eq (k : Nat) (x : (Int × Int)) : runF (dec_small.E k) (codeOf Try.f50) (dec_small.i.put x) dec_small.r.un = dec_small.f k (x) := by kernel_rfl
theorem dec_small.sound (k : Nat) : Sound Try.prog DD 50 (dec_small.D k) :=
  funP (E := dec_small.E k) (fn := Try.f50) (c := codeOf Try.f50) (mkE_ok _ _ _ _ _ _ _ _ _ _ _ _ _) mixed rfl Try.func50 (by kernel_rfl) (by kernel_rfl) (allL_of (l := []) (by kernel_rfl) allL_nil) dec_small.i dec_small.r [] true (fun x => dec_small.f k (x)) (fun _ _ => rfl) (by kernel_rfl) (dec_small.eq k)
noncomputable def dec_small.pk (k : Nat) : Pk Try.prog DD := ⟨50, dec_small.D k, dec_small.sound k, enter_of Try.func50 (by kernel_rfl) (by kernel_rfl)⟩
/-! ### pyx/dec.nought: function 39 -/
noncomputable def dec_nought.f (k : Nat) (a0 : (Int × Int)) : Option Bool := some ((a0.1 == 0) && (a0.2 == 0))
noncomputable def dec_nought.i : Lay U (Int × Int) := (pcOne 0 (tAt (vCd (Cd.pair (Cd.int .u64) (Cd.int .u64))))).lay (fun _ => by kernel_rfl)
noncomputable def dec_nought.r : Lay U Bool := (pcOne 0 (tAt vBool)).lay (fun _ => by kernel_rfl)
noncomputable def dec_nought.D (k : Nat) : FDen U := fdn dec_nought.i dec_nought.r Try.f39.ntmps [] true (fun x => dec_nought.f k (x)) (fun _ _ => rfl)
noncomputable def dec_nought.E (k : Nat) : Env U := mkE Try.f39 [] [] [] [] n0 n0 [] false n00 nl0 [] nli
theorem dec_nought.eq (k : Nat) (x : (Int × Int)) : runF (dec_nought.E k) (codeOf Try.f39) (dec_nought.i.put x) dec_nought.r.un = dec_nought.f k (x) := by kernel_rfl
theorem dec_nought.sound (k : Nat) : Sound Try.prog DD 39 (dec_nought.D k) :=
  funP (E := dec_nought.E k) (fn := Try.f39) (c := codeOf Try.f39) (mkE_ok _ _ _ _ _ _ _ _ _ _ _ _ _) mixed rfl Try.func39 (by kernel_rfl) (by kernel_rfl) (allL_of (l := []) (by kernel_rfl) allL_nil) dec_nought.i dec_nought.r [] true (fun x => dec_nought.f k (x)) (fun _ _ => rfl) (by kernel_rfl) (dec_nought.eq k)
noncomputable def dec_nought.pk (k : Nat) : Pk Try.prog DD := ⟨39, dec_nought.D k, dec_nought.sound k, enter_of Try.func39 (by kernel_rfl) (by kernel_rfl)⟩
/-! ### pyx/dec.Right: function 33 -/
noncomputable def dec_Right.f (k : Nat) (a0 : Sapi_Dec) : Option Bool := (dec_small.f k (a0.f_C.1, a0.f_C.2)).bind fun t1 => (cond (t1) (cond (decide (a0.f_Scale ≥ 0)) (cond (decide (a0.f_Scale ≤ 9)) (cond (a0.f_Neg) ((dec_nought.f k (a0.f_C.1, a0.f_C.2)).bind fun t2 => (some (!t2))) (some true)) (some false)) (some false)) (some false))
noncomputable def dec_Right.i : Lay U Sapi_Dec := (pcOne 0 (tAt (vCd cd_Sapi_Dec))).lay (fun _ => by kernel_rfl)
noncomputable def dec_Right.r : Lay U Bool := (pcOne 0 (tAt vBool)).lay (fun _ => by kernel_rfl)
noncomputable def dec_Right.D (k : Nat) : FDen U := fdn dec_Right.i dec_Right.r Try.f33.ntmps [] true (fun x => dec_Right.f k (x)) (fun _ _ => rfl)
noncomputable def dec_Right.E (k : Nat) : Env U := mkE Try.f33 [dec_small.pk k, dec_nought.pk k] [] [] [] n0 n0 [] false n00 nl0 [] nli
theorem dec_Right.eq (k : Nat) (x : Sapi_Dec) : runF (dec_Right.E k) (codeOf Try.f33) (dec_Right.i.put x) dec_Right.r.un = dec_Right.f k (x) := by kernel_rfl
theorem dec_Right.sound (k : Nat) : Sound Try.prog DD 33 (dec_Right.D k) :=
  funP (E := dec_Right.E k) (fn := Try.f33) (c := codeOf Try.f33) (mkE_ok _ _ _ _ _ _ _ _ _ _ _ _ _) mixed rfl Try.func33 (by kernel_rfl) (by kernel_rfl) (allL_of (l := []) (by kernel_rfl) allL_nil) dec_Right.i dec_Right.r [] true (fun x => dec_Right.f k (x)) (fun _ _ => rfl) (by kernel_rfl) (dec_Right.eq k)
noncomputable def dec_Right.pk (k : Nat) : Pk Try.prog DD := ⟨33, dec_Right.D k, dec_Right.sound k, enter_of Try.func33 (by kernel_rfl) (by kernel_rfl)⟩
/-! ### pyx/dec.wide: function 34 -/
noncomputable def dec_wide.f (k : Nat) (a0 : Sapi_Dec) (a1 : Int) : Option (Int × Int × Int × Int) := (dec_ten.f k (IntKind.wrap .i64 (a1 - a0.f_Scale))).bind fun t1 => ((limb_Mul.f k (a0.f_C.1, a0.f_C.2) (t1.1, t1.2)).bind fun t2 => (some (t2.1, t2.2.1, t2.2.2.1, t2.2.2.2)))
noncomputable def dec_wide.i : Lay U (Sapi_Dec × Int) := (pcAnd (pcOne 0 (tAt (vCd cd_Sapi_Dec))) (pcOne 1 (tAt (vInt .i64)))).lay (fun _ => by kernel_rfl)
noncomputable def dec_wide.r : Lay U (Int × Int × Int × Int) := (pcOne 0 (tAt (vCd (Cd.pair (Cd.int .u64) (Cd.pair (Cd.int .u64) (Cd.pair (Cd.int .u64) (Cd.int .u64))))))).lay (fun _ => by kernel_rfl)
noncomputable def dec_wide.D (k : Nat) : FDen U := fdn dec_wide.i dec_wide.r Try.f34.ntmps [] true (fun x => dec_wide.f k (x.1) (x.2)) (fun _ _ => rfl)
noncomputable def dec_wide.E (k : Nat) : Env U := mkE Try.f34 [dec_ten.pk k, limb_Mul.pk k] [] [] [] n0 n0 [] false n00 nl0 [] nli
theorem dec_wide.eq (k : Nat) (x : (Sapi_Dec × Int)) : runF (dec_wide.E k) (codeOf Try.f34) (dec_wide.i.put x) dec_wide.r.un = dec_wide.f k (x.1) (x.2) := by kernel_rfl
theorem dec_wide.sound (k : Nat) : Sound Try.prog DD 34 (dec_wide.D k) :=
  funP (E := dec_wide.E k) (fn := Try.f34) (c := codeOf Try.f34) (mkE_ok _ _ _ _ _ _ _ _ _ _ _ _ _) mixed rfl Try.func34 (by kernel_rfl) (by kernel_rfl) (allL_of (l := []) (by kernel_rfl) allL_nil) dec_wide.i dec_wide.r [] true (fun x => dec_wide.f k (x.1) (x.2)) (fun _ _ => rfl) (by kernel_rfl) (dec_wide.eq k)
noncomputable def dec_wide.pk (k : Nat) : Pk Try.prog DD := ⟨34, dec_wide.D k, dec_wide.sound k, enter_of Try.func34 (by kernel_rfl) (by kernel_rfl)⟩
/-! ### pyx/dec.halves: function 54 -/
noncomputable def dec_halves.f (k : Nat) (a0 : (Int × Int × Int × Int)) : Option ((Int × Int) × (Int × Int)) := some ((a0.1, a0.2.1), (a0.2.2.1, a0.2.2.2))
noncomputable def dec_halves.i : Lay U (Int × Int × Int × Int) := (pcOne 0 (tAt (vCd (Cd.pair (Cd.int .u64) (Cd.pair (Cd.int .u64) (Cd.pair (Cd.int .u64) (Cd.int .u64))))))).lay (fun _ => by kernel_rfl)
noncomputable def dec_halves.r : Lay U ((Int × Int) × (Int × Int)) := (pcTup 0 (tqCons (tAt (vCd (Cd.pair (Cd.int .u64) (Cd.int .u64)))) (tqOne (tAt (vCd (Cd.pair (Cd.int .u64) (Cd.int .u64))))))).lay (fun _ => by kernel_rfl)
noncomputable def dec_halves.D (k : Nat) : FDen U := fdn dec_halves.i dec_halves.r Try.f54.ntmps [] true (fun x => dec_halves.f k (x)) (fun _ _ => rfl)
noncomputable def dec_halves.E (k : Nat) : Env U := mkE Try.f54 [] [] [] [] n0 n0 [] false n00 nl0 [] nli
theorem dec_halves.eq (k : Nat) (x : (Int × Int × Int × Int)) : runF (dec_halves.E k) (codeOf Try.f54) (dec_halves.i.put x) dec_halves.r.un = dec_halves.f k (x) := by kernel_rfl
theorem dec_halves.sound (k : Nat) : Sound Try.prog DD 54 (dec_halves.D k) :=
  funP (E := dec_halves.E k) (fn := Try.f54) (c := codeOf Try.f54) (mkE_ok _ _ _ _ _ _ _ _ _ _ _ _ _) mixed rfl Try.func54 (by kernel_rfl) (by kernel_rfl) (allL_of (l := []) (by kernel_rfl) allL_nil) dec_halves.i dec_halves.r [] true (fun x => dec_halves.f k (x)) (fun _ _ => rfl) (by kernel_rfl) (dec_halves.eq k)
noncomputable def dec_halves.pk (k : Nat) : Pk Try.prog DD := ⟨54, dec_halves.D k, dec_halves.sound k, enter_of Try.func54 (by kernel_rfl) (by kernel_rfl)⟩
end
end Go.Proofs.Ytgfbcclfajcjnaa
