import Derived.Test.YthknecaigoilmaaF1
/-! Functions, told; their equations with the evaluator; that they are sound. Written by gen.py. -/
namespace Go.Proofs.Ythknecaigoilmaa
open Go Go.Ev
noncomputable section
set_option linter.unusedVariables false
set_option linter.unusedSimpArgs false
set_option maxRecDepth 100000
/-! ### pyx/limb.Short: function 29 -/
noncomputable def limb_Short.f (k : Nat) (a0 : (Int × Int × Int × Int)) : Option ((Int × Int) × Bool) := ((cond (a0.2.2.1 != 0) (some (true, a0.1, a0.2.1, a0.2.2.1, a0.2.2.2, 0, 0)) (some (a0.2.2.2 != 0, a0.1, a0.2.1, a0.2.2.1, a0.2.2.2, 0, 0))) : Option (Bool × Int × Int × Int × Int × Int × Int)).bind fun y8 => (cond (y8.1) (some ((0, 0), false)) (some ((y8.2.1, y8.2.2.1), true)))
noncomputable def limb_Short.i : Lay U (Int × Int × Int × Int) := (pcOne 0 (tAt (vCd (Cd.pair (Cd.int .u64) (Cd.pair (Cd.int .u64) (Cd.pair (Cd.int .u64) (Cd.int .u64))))))).lay (fun _ => by kernel_rfl)
noncomputable def limb_Short.r : Lay U ((Int × Int) × Bool) := (pcTup 0 (tqCons (tAt (vCd (Cd.pair (Cd.int .u64) (Cd.int .u64)))) (tqOne (tAt vBool)))).lay (fun _ => by kernel_rfl)
noncomputable def limb_Short.D (k : Nat) : FDen U := fdn limb_Short.i limb_Short.r Try.f29.ntmps [] true (fun x => limb_Short.f k (x)) (fun _ _ => rfl)
noncomputable def limb_Short.j1000 : Jk U := ⟨(Bool × Int × Int × Int × Int × Int × Int), oNorm (lay [(1, sPtr 1 0), (2, sPtr 2 0), (11, sAt vBool)] [bLit 1 [(vInt .u64), (vInt .u64), (vInt .u64), (vInt .u64)], bLit 2 [(vInt .u64), (vInt .u64)]] (fun _ => by kernel_rfl))⟩
noncomputable def limb_Short.E (k : Nat) : Env U := mkE Try.f29 [] [(1000, limb_Short.j1000)] [] [] n0 n0 [] false n00 nl0
theorem limb_Short.eq (k : Nat) (x : (Int × Int × Int × Int)) : runF (limb_Short.E k) (codeOf Try.f29) (limb_Short.i.put x) limb_Short.r.un = limb_Short.f k (x) := by kernel_rfl
theorem limb_Short.sound (k : Nat) : Sound Try.prog DD 29 (limb_Short.D k) :=
  funP (E := limb_Short.E k) (fn := Try.f29) (c := codeOf Try.f29) (mkE_ok _ _ _ _ _ _ _ _ _ _ _) mixed rfl Try.func29 (by kernel_rfl) (by kernel_rfl) (allL_of (l := []) (by kernel_rfl) allL_nil) limb_Short.i limb_Short.r [] true (fun x => limb_Short.f k (x)) (fun _ _ => rfl) (by kernel_rfl) (limb_Short.eq k)
noncomputable def limb_Short.pk (k : Nat) : Pk Try.prog DD := ⟨29, limb_Short.D k, limb_Short.sound k, enter_of Try.func29 (by kernel_rfl) (by kernel_rfl)⟩
/-! ### pyx/limb.Ten: function 28 -/
noncomputable def limb_Ten.l5.once (k : Nat) (x : (Int × Int × Int × Int × Int × Int)) : Option ((Int × Int × Int × Int × Int × Int) ⊕ ((Int × Int × Int × Int))) := match x with | (x11, x12, x7, x8, x9, x10) => cond (decide (x12 < x11)) ((limb_Of.f k 10).bind fun t13 => ((limb_Mul.f k (x9, x10) (t13.1, t13.2)).bind fun t14 => ((limb_Short.f k (t14.1, t14.2.1, t14.2.2.1, t14.2.2.2)).bind fun t15 => (some (.inl (x11, IntKind.wrap .i64 (x12 + 1), x7, x8, t15.1.1, t15.1.2)))))) (some (.inr (x7, x8, x9, x10)))
noncomputable def limb_Ten.f (k : Nat) (a0 : Int) : Option ((Int × Int) × Bool) := ((cond (decide (a0 < 0)) (some (a0, true, 0, 0)) (some (a0, decide (a0 > 38), 0, 0))) : Option (Int × Bool × Int × Int)).bind fun y5 => (cond (y5.2.1) (some ((0, 0), false)) ((limb_Of.f k 1).bind fun t6 => ((iter (limb_Ten.l5.once k) k (y5.1, 0, y5.2.2.1, y5.2.2.2, t6.1, t6.2)).bind fun y20 => (some ((y20.2.2.1, y20.2.2.2), true)))))
noncomputable def limb_Ten.i : Lay U Int := (pcOne 0 (tAt (vInt .i64))).lay (fun _ => by kernel_rfl)
noncomputable def limb_Ten.r : Lay U ((Int × Int) × Bool) := (pcTup 0 (tqCons (tAt (vCd (Cd.pair (Cd.int .u64) (Cd.int .u64)))) (tqOne (tAt vBool)))).lay (fun _ => by kernel_rfl)
noncomputable def limb_Ten.D (k : Nat) : FDen U := fdn limb_Ten.i limb_Ten.r Try.f28.ntmps [] true (fun x => limb_Ten.f k (x)) (fun _ _ => rfl)
noncomputable def limb_Ten.l5.i : Lay U (Int × Int × Int × Int × Int × Int) := (lay [(2, sPtr 2 0), (4, sPtr 4 0), (13, sAt (vInt .i64)), (14, sAt (vInt .i64))] [bLit 2 [(vInt .u64), (vInt .u64)], bLit 4 [(vInt .u64), (vInt .u64)]] (fun _ => by kernel_rfl))
noncomputable def limb_Ten.l5.o : OLay U ((Int × Int × Int × Int)) := oExit 0 (lay [(2, sPtr 2 0), (4, sPtr 4 0)] [bLit 2 [(vInt .u64), (vInt .u64)], bLit 4 [(vInt .u64), (vInt .u64)]] (fun _ => by kernel_rfl))
noncomputable def limb_Ten.j1000 : Jk U := ⟨(Int × Bool × Int × Int), oNorm (lay [(2, sPtr 2 0), (0, sAt (vInt .i64)), (10, sAt vBool)] [bLit 2 [(vInt .u64), (vInt .u64)]] (fun _ => by kernel_rfl))⟩
noncomputable def limb_Ten.E (k : Nat) : Env U := mkE Try.f28 [limb_Of.pk k, limb_Mul.pk k, limb_Short.pk k] [(1000, limb_Ten.j1000)] [(5, ldn limb_Ten.l5.i limb_Ten.l5.o (iter (limb_Ten.l5.once k) k))] [] n0 n0 [] false n00 nl0
theorem limb_Ten.l5.eq (k : Nat) (x : (Int × Int × Int × Int × Int × Int)) : evC (limb_Ten.E k) (loopAt Try.f28 5) (limb_Ten.l5.i.put x) (headK limb_Ten.l5.i.un limb_Ten.l5.o.re) = limb_Ten.l5.once k x := by kernel_rfl
theorem limb_Ten.l5.sound (k : Nat) : LSound (limb_Ten.E k) Try.f28.ntmps Try.f28 (loopAt Try.f28 5) (ldn limb_Ten.l5.i limb_Ten.l5.o (iter (limb_Ten.l5.once k) k)) :=
  loopP (mkE_ok _ _ _ _ _ _ _ _ _ _ _) mixed rfl (by kernel_rfl) (allL_of (l := []) (by kernel_rfl) allL_nil) limb_Ten.l5.i limb_Ten.l5.o (limb_Ten.l5.once k) k (limb_Ten.l5.eq k)
theorem limb_Ten.eq (k : Nat) (x : Int) : runF (limb_Ten.E k) (codeOf Try.f28) (limb_Ten.i.put x) limb_Ten.r.un = limb_Ten.f k (x) := by kernel_rfl
theorem limb_Ten.sound (k : Nat) : Sound Try.prog DD 28 (limb_Ten.D k) :=
  funP (E := limb_Ten.E k) (fn := Try.f28) (c := codeOf Try.f28) (mkE_ok _ _ _ _ _ _ _ _ _ _ _) mixed rfl Try.func28 (by kernel_rfl) (by kernel_rfl) (allL_of (l := [loopAt Try.f28 5]) (by kernel_rfl) (allL_cons (key := 5) (by kernel_rfl) rfl (limb_Ten.l5.sound k) allL_nil)) limb_Ten.i limb_Ten.r [] true (fun x => limb_Ten.f k (x)) (fun _ _ => rfl) (by kernel_rfl) (limb_Ten.eq k)
noncomputable def limb_Ten.pk (k : Nat) : Pk Try.prog DD := ⟨28, limb_Ten.D k, limb_Ten.sound k, enter_of Try.func28 (by kernel_rfl) (by kernel_rfl)⟩
/-! ### pyx/dec.ten: function 118 -/
noncomputable def dec_ten.f (k : Nat) (a0 : Int) : Option (Int × Int) := (limb_Ten.f k a0).bind fun t1 => (some (t1.1.1, t1.1.2))
noncomputable def dec_ten.i : Lay U Int := (pcOne 0 (tAt (vInt .i64))).lay (fun _ => by kernel_rfl)
noncomputable def dec_ten.r : Lay U (Int × Int) := (pcOne 0 (tAt (vCd (Cd.pair (Cd.int .u64) (Cd.int .u64))))).lay (fun _ => by kernel_rfl)
noncomputable def dec_ten.D (k : Nat) : FDen U := fdn dec_ten.i dec_ten.r Try.f118.ntmps [] true (fun x => dec_ten.f k (x)) (fun _ _ => rfl)
noncomputable def dec_ten.E (k : Nat) : Env U := mkE Try.f118 [limb_Ten.pk k] [] [] [] n0 n0 [] false n00 nl0
theorem dec_ten.eq (k : Nat) (x : Int) : runF (dec_ten.E k) (codeOf Try.f118) (dec_ten.i.put x) dec_ten.r.un = dec_ten.f k (x) := by kernel_rfl
theorem dec_ten.sound (k : Nat) : Sound Try.prog DD 118 (dec_ten.D k) :=
  funP (E := dec_ten.E k) (fn := Try.f118) (c := codeOf Try.f118) (mkE_ok _ _ _ _ _ _ _ _ _ _ _) mixed rfl Try.func118 (by kernel_rfl) (by kernel_rfl) (allL_of (l := []) (by kernel_rfl) allL_nil) dec_ten.i dec_ten.r [] true (fun x => dec_ten.f k (x)) (fun _ _ => rfl) (by kernel_rfl) (dec_ten.eq k)
noncomputable def dec_ten.pk (k : Nat) : Pk Try.prog DD := ⟨118, dec_ten.D k, dec_ten.sound k, enter_of Try.func118 (by kernel_rfl) (by kernel_rfl)⟩
/-! ### pyx/limb.Cmp: function 19 -/
noncomputable def limb_Cmp.l2.once (k : Nat) (x : (Int × List Int × List Int)) : Option ((Int × List Int × List Int) ⊕ (Unit ⊕ Int)) := match x with | (x3, x1, x2) => cond (decide (x3 ≥ 0)) (cond (inb x3 2) (cond (Nat.blt (Int.toNat x3) 2) (cond (inb x3 2) (cond (Nat.blt (Int.toNat x3) 2) (cond ((List.getD x1 (Int.toNat x3) 0) != (List.getD x2 (Int.toNat x3) 0)) (cond (inb x3 2) (cond (Nat.blt (Int.toNat x3) 2) (cond (inb x3 2) (cond (Nat.blt (Int.toNat x3) 2) (cond (decide ((List.getD x1 (Int.toNat x3) 0) < (List.getD x2 (Int.toNat x3) 0))) (some (.inr (.inr (-1)))) (some (.inr (.inr 1)))) none) none) none) none) (some (.inl (IntKind.wrap .i64 (x3 - 1), x1, x2)))) none) none) none) none) (some (.inr (.inl ())))
noncomputable def limb_Cmp.f (k : Nat) (a0 : (Int × Int)) (a1 : (Int × Int)) : Option Int := (iter (limb_Cmp.l2.once k) k (1, [a0.1, a0.2], [a1.1, a1.2])).bind fun | .inl y5 => (some 0) | .inr y6 => (some y6)
noncomputable def limb_Cmp.i : Lay U ((Int × Int) × (Int × Int)) := (pcAnd (pcOne 0 (tAt (vCd (Cd.pair (Cd.int .u64) (Cd.int .u64))))) (pcOne 1 (tAt (vCd (Cd.pair (Cd.int .u64) (Cd.int .u64)))))).lay (fun _ => by kernel_rfl)
noncomputable def limb_Cmp.r : Lay U Int := (pcOne 0 (tAt (vInt .i64))).lay (fun _ => by kernel_rfl)
noncomputable def limb_Cmp.D (k : Nat) : FDen U := fdn limb_Cmp.i limb_Cmp.r Try.f19.ntmps [] true (fun x => limb_Cmp.f k (x.1) (x.2)) (fun _ _ => rfl)
noncomputable def limb_Cmp.l2.i : Lay U (Int × List Int × List Int) := (lay [(2, sPtr 2 0), (3, sPtr 3 0), (5, sAt (vInt .i64))] [bArr DD 2 2 C.u64, bArr DD 3 2 C.u64] (fun _ => by kernel_rfl))
noncomputable def limb_Cmp.l2.o : OLay U (Unit ⊕ Int) := oOr (oExit 0 (lay [] [] (fun _ => by kernel_rfl))) (oRet limb_Cmp.r)
noncomputable def limb_Cmp.E (k : Nat) : Env U := mkE Try.f19 [] [] [(2, ldn limb_Cmp.l2.i limb_Cmp.l2.o (iter (limb_Cmp.l2.once k) k))] [(23, (2, C.u64))] n0 n0 [] false n00 nl0
theorem limb_Cmp.l2.eq (k : Nat) (x : (Int × List Int × List Int)) : evC (limb_Cmp.E k) (loopAt Try.f19 2) (limb_Cmp.l2.i.put x) (headK limb_Cmp.l2.i.un limb_Cmp.l2.o.re) = limb_Cmp.l2.once k x := by kernel_rfl
theorem limb_Cmp.l2.sound (k : Nat) : LSound (limb_Cmp.E k) Try.f19.ntmps Try.f19 (loopAt Try.f19 2) (ldn limb_Cmp.l2.i limb_Cmp.l2.o (iter (limb_Cmp.l2.once k) k)) :=
  loopP (mkE_ok _ _ _ _ _ _ _ _ _ _ _) mixed rfl (by kernel_rfl) (allL_of (l := []) (by kernel_rfl) allL_nil) limb_Cmp.l2.i limb_Cmp.l2.o (limb_Cmp.l2.once k) k (limb_Cmp.l2.eq k)
theorem limb_Cmp.eq (k : Nat) (x : ((Int × Int) × (Int × Int))) : runF (limb_Cmp.E k) (codeOf Try.f19) (limb_Cmp.i.put x) limb_Cmp.r.un = limb_Cmp.f k (x.1) (x.2) := by kernel_rfl
theorem limb_Cmp.sound (k : Nat) : Sound Try.prog DD 19 (limb_Cmp.D k) :=
  funP (E := limb_Cmp.E k) (fn := Try.f19) (c := codeOf Try.f19) (mkE_ok _ _ _ _ _ _ _ _ _ _ _) mixed rfl Try.func19 (by kernel_rfl) (by kernel_rfl) (allL_of (l := [loopAt Try.f19 2]) (by kernel_rfl) (allL_cons (key := 2) (by kernel_rfl) rfl (limb_Cmp.l2.sound k) allL_nil)) limb_Cmp.i limb_Cmp.r [] true (fun x => limb_Cmp.f k (x.1) (x.2)) (fun _ _ => rfl) (by kernel_rfl) (limb_Cmp.eq k)
noncomputable def limb_Cmp.pk (k : Nat) : Pk Try.prog DD := ⟨19, limb_Cmp.D k, limb_Cmp.sound k, enter_of Try.func19 (by kernel_rfl) (by kernel_rfl)⟩
/-! ### pyx/dec.small: function 117 -/
noncomputable def dec_small.f (k : Nat) (a0 : (Int × Int)) : Option Bool := (dec_ten.f k 30).bind fun t1 => ((limb_Cmp.f k (a0.1, a0.2) (t1.1, t1.2)).bind fun t2 => (some (decide (t2 < 0))))
noncomputable def dec_small.i : Lay U (Int × Int) := (pcOne 0 (tAt (vCd (Cd.pair (Cd.int .u64) (Cd.int .u64))))).lay (fun _ => by kernel_rfl)
noncomputable def dec_small.r : Lay U Bool := (pcOne 0 (tAt vBool)).lay (fun _ => by kernel_rfl)
noncomputable def dec_small.D (k : Nat) : FDen U := fdn dec_small.i dec_small.r Try.f117.ntmps [] true (fun x => dec_small.f k (x)) (fun _ _ => rfl)
noncomputable def dec_small.E (k : Nat) : Env U := mkE Try.f117 [dec_ten.pk k, limb_Cmp.pk k] [] [] [] n0 n0 [] false n00 nl0
theorem dec_small.eq (k : Nat) (x : (Int × Int)) : runF (dec_small.E k) (codeOf Try.f117) (dec_small.i.put x) dec_small.r.un = dec_small.f k (x) := by kernel_rfl
theorem dec_small.sound (k : Nat) : Sound Try.prog DD 117 (dec_small.D k) :=
  funP (E := dec_small.E k) (fn := Try.f117) (c := codeOf Try.f117) (mkE_ok _ _ _ _ _ _ _ _ _ _ _) mixed rfl Try.func117 (by kernel_rfl) (by kernel_rfl) (allL_of (l := []) (by kernel_rfl) allL_nil) dec_small.i dec_small.r [] true (fun x => dec_small.f k (x)) (fun _ _ => rfl) (by kernel_rfl) (dec_small.eq k)
noncomputable def dec_small.pk (k : Nat) : Pk Try.prog DD := ⟨117, dec_small.D k, dec_small.sound k, enter_of Try.func117 (by kernel_rfl) (by kernel_rfl)⟩
/-! ### pyx/dec.nought: function 100 -/
noncomputable def dec_nought.f (k : Nat) (a0 : (Int × Int)) : Option Bool := some ((a0.1 == 0) && (a0.2 == 0))
noncomputable def dec_nought.i : Lay U (Int × Int) := (pcOne 0 (tAt (vCd (Cd.pair (Cd.int .u64) (Cd.int .u64))))).lay (fun _ => by kernel_rfl)
noncomputable def dec_nought.r : Lay U Bool := (pcOne 0 (tAt vBool)).lay (fun _ => by kernel_rfl)
noncomputable def dec_nought.D (k : Nat) : FDen U := fdn dec_nought.i dec_nought.r Try.f100.ntmps [] true (fun x => dec_nought.f k (x)) (fun _ _ => rfl)
noncomputable def dec_nought.E (k : Nat) : Env U := mkE Try.f100 [] [] [] [] n0 n0 [] false n00 nl0
theorem dec_nought.eq (k : Nat) (x : (Int × Int)) : runF (dec_nought.E k) (codeOf Try.f100) (dec_nought.i.put x) dec_nought.r.un = dec_nought.f k (x) := by kernel_rfl
theorem dec_nought.sound (k : Nat) : Sound Try.prog DD 100 (dec_nought.D k) :=
  funP (E := dec_nought.E k) (fn := Try.f100) (c := codeOf Try.f100) (mkE_ok _ _ _ _ _ _ _ _ _ _ _) mixed rfl Try.func100 (by kernel_rfl) (by kernel_rfl) (allL_of (l := []) (by kernel_rfl) allL_nil) dec_nought.i dec_nought.r [] true (fun x => dec_nought.f k (x)) (fun _ _ => rfl) (by kernel_rfl) (dec_nought.eq k)
noncomputable def dec_nought.pk (k : Nat) : Pk Try.prog DD := ⟨100, dec_nought.D k, dec_nought.sound k, enter_of Try.func100 (by kernel_rfl) (by kernel_rfl)⟩
/-! ### pyx/dec.Right: function 99 -/
noncomputable def dec_Right.f (k : Nat) (a0 : Sapi_Dec) : Option Bool := (dec_small.f k (a0.f_C.1, a0.f_C.2)).bind fun t1 => (cond (t1) (cond (decide (a0.f_Scale ≥ 0)) (cond (decide (a0.f_Scale ≤ 9)) (cond (a0.f_Neg) ((dec_nought.f k (a0.f_C.1, a0.f_C.2)).bind fun t2 => (some (!t2))) (some true)) (some false)) (some false)) (some false))
noncomputable def dec_Right.i : Lay U Sapi_Dec := (pcOne 0 (tAt (vCd cd_Sapi_Dec))).lay (fun _ => by kernel_rfl)
noncomputable def dec_Right.r : Lay U Bool := (pcOne 0 (tAt vBool)).lay (fun _ => by kernel_rfl)
noncomputable def dec_Right.D (k : Nat) : FDen U := fdn dec_Right.i dec_Right.r Try.f99.ntmps [] true (fun x => dec_Right.f k (x)) (fun _ _ => rfl)
noncomputable def dec_Right.E (k : Nat) : Env U := mkE Try.f99 [dec_small.pk k, dec_nought.pk k] [] [] [] n0 n0 [] false n00 nl0
theorem dec_Right.eq (k : Nat) (x : Sapi_Dec) : runF (dec_Right.E k) (codeOf Try.f99) (dec_Right.i.put x) dec_Right.r.un = dec_Right.f k (x) := by kernel_rfl
theorem dec_Right.sound (k : Nat) : Sound Try.prog DD 99 (dec_Right.D k) :=
  funP (E := dec_Right.E k) (fn := Try.f99) (c := codeOf Try.f99) (mkE_ok _ _ _ _ _ _ _ _ _ _ _) mixed rfl Try.func99 (by kernel_rfl) (by kernel_rfl) (allL_of (l := []) (by kernel_rfl) allL_nil) dec_Right.i dec_Right.r [] true (fun x => dec_Right.f k (x)) (fun _ _ => rfl) (by kernel_rfl) (dec_Right.eq k)
noncomputable def dec_Right.pk (k : Nat) : Pk Try.prog DD := ⟨99, dec_Right.D k, dec_Right.sound k, enter_of Try.func99 (by kernel_rfl) (by kernel_rfl)⟩
/-! ### pyx/dec.Sign: function 61 -/
noncomputable def dec_Sign.f (k : Nat) (a0 : Sapi_Dec) : Option Int := (((dec_Right.f k (⟨a0.f_Neg, (a0.f_C.1, a0.f_C.2), a0.f_Scale⟩ : Sapi_Dec)).bind fun t1 => (cond (!t1) (some (true, a0.f_Neg, a0.f_C.1, a0.f_C.2, a0.f_Scale)) ((dec_nought.f k (a0.f_C.1, a0.f_C.2)).bind fun t7 => (some (t7, a0.f_Neg, a0.f_C.1, a0.f_C.2, a0.f_Scale))))) : Option (Bool × Bool × Int × Int × Int)).bind fun y8 => (cond (y8.1) (some 0) (cond (y8.2.1) (some (-1)) (some 1)))
noncomputable def dec_Sign.i : Lay U Sapi_Dec := (pcOne 0 (tAt (vCd cd_Sapi_Dec))).lay (fun _ => by kernel_rfl)
noncomputable def dec_Sign.r : Lay U Int := (pcOne 0 (tAt (vInt .i64))).lay (fun _ => by kernel_rfl)
noncomputable def dec_Sign.D (k : Nat) : FDen U := fdn dec_Sign.i dec_Sign.r Try.f61.ntmps [] true (fun x => dec_Sign.f k (x)) (fun _ _ => rfl)
noncomputable def dec_Sign.j1000 : Jk U := ⟨(Bool × Bool × Int × Int × Int), oNorm (lay [(1, sPtr 1 0), (3, sAt vBool)] [bLit 1 [vBool, (vInt .u64), (vInt .u64), (vInt .i64)]] (fun _ => by kernel_rfl))⟩
noncomputable def dec_Sign.E (k : Nat) : Env U := mkE Try.f61 [dec_Right.pk k, dec_nought.pk k] [(1000, dec_Sign.j1000)] [] [] n0 n0 [] false n00 nl0
theorem dec_Sign.eq (k : Nat) (x : Sapi_Dec) : runF (dec_Sign.E k) (codeOf Try.f61) (dec_Sign.i.put x) dec_Sign.r.un = dec_Sign.f k (x) := by kernel_rfl
theorem dec_Sign.sound (k : Nat) : Sound Try.prog DD 61 (dec_Sign.D k) :=
  funP (E := dec_Sign.E k) (fn := Try.f61) (c := codeOf Try.f61) (mkE_ok _ _ _ _ _ _ _ _ _ _ _) mixed rfl Try.func61 (by kernel_rfl) (by kernel_rfl) (allL_of (l := []) (by kernel_rfl) allL_nil) dec_Sign.i dec_Sign.r [] true (fun x => dec_Sign.f k (x)) (fun _ _ => rfl) (by kernel_rfl) (dec_Sign.eq k)
noncomputable def dec_Sign.pk (k : Nat) : Pk Try.prog DD := ⟨61, dec_Sign.D k, dec_Sign.sound k, enter_of Try.func61 (by kernel_rfl) (by kernel_rfl)⟩
/-! ### pyx/rule.rightRule: function 92 -/
noncomputable def rule_rightRule.f (k : Nat) (a0 : Sapi_Policy) (a1 : Sapi_Rule) : Option Bool := (rule_within.f k a1.f_Role 0 (IntKind.wrap .i64 ((List.length a0.f_Up : Int) - 1))).bind fun t1 => (cond (!t1) (some false) (((cond (a1.f_Tag == 1) (some (a1.f_Tag, a1.f_Tag == 1, a0.f_Ents, a0.f_Groups, a0.f_Who, a0.f_Up, a0.f_Rules, (⟨a1.f_Tag, a1.f_Role, a1.f_Verb, a1.f_Ent, a1.f_Group, a1.f_Line, (⟨a1.f_Unit.f_Neg, (a1.f_Unit.f_C.1, a1.f_Unit.f_C.2), a1.f_Unit.f_Scale⟩ : Sapi_Dec), (⟨a1.f_To.f_Set, a1.f_To.f_Level⟩ : Sapi_Label)⟩ : Sapi_Rule))) (some (a1.f_Tag, a1.f_Tag == 2, a0.f_Ents, a0.f_Groups, a0.f_Who, a0.f_Up, a0.f_Rules, (⟨a1.f_Tag, a1.f_Role, a1.f_Verb, a1.f_Ent, a1.f_Group, a1.f_Line, (⟨a1.f_Unit.f_Neg, (a1.f_Unit.f_C.1, a1.f_Unit.f_C.2), a1.f_Unit.f_Scale⟩ : Sapi_Dec), (⟨a1.f_To.f_Set, a1.f_To.f_Level⟩ : Sapi_Label)⟩ : Sapi_Rule)))) : Option (Int × Bool × List Sapi_Ent × List Int × List Sapi_Who × List Int × List Sapi_Rule × Sapi_Rule)).bind fun y10 => (cond (y10.2.1) (((cond (y10.2.2.2.2.2.2.2.f_Group == 0) (cond (y10.2.2.2.2.2.2.2.f_Line == 0) (cond ((y10.2.2.2.2.2.2.2.f_Unit.f_Neg == false) && ((y10.2.2.2.2.2.2.2.f_Unit.f_C.1 == 0) && ((y10.2.2.2.2.2.2.2.f_Unit.f_C.2 == 0) && (y10.2.2.2.2.2.2.2.f_Unit.f_Scale == 0)))) (some ((y10.2.2.2.2.2.2.2.f_To.f_Set == 0) && (y10.2.2.2.2.2.2.2.f_To.f_Level == 0), y10.2.2.1, y10.2.2.2.1, y10.2.2.2.2.1, y10.2.2.2.2.2.1, y10.2.2.2.2.2.2.1, (⟨y10.2.2.2.2.2.2.2.f_Tag, y10.2.2.2.2.2.2.2.f_Role, y10.2.2.2.2.2.2.2.f_Verb, y10.2.2.2.2.2.2.2.f_Ent, y10.2.2.2.2.2.2.2.f_Group, y10.2.2.2.2.2.2.2.f_Line, (⟨y10.2.2.2.2.2.2.2.f_Unit.f_Neg, (y10.2.2.2.2.2.2.2.f_Unit.f_C.1, y10.2.2.2.2.2.2.2.f_Unit.f_C.2), y10.2.2.2.2.2.2.2.f_Unit.f_Scale⟩ : Sapi_Dec), (⟨y10.2.2.2.2.2.2.2.f_To.f_Set, y10.2.2.2.2.2.2.2.f_To.f_Level⟩ : Sapi_Label)⟩ : Sapi_Rule))) (some (false, y10.2.2.1, y10.2.2.2.1, y10.2.2.2.2.1, y10.2.2.2.2.2.1, y10.2.2.2.2.2.2.1, (⟨y10.2.2.2.2.2.2.2.f_Tag, y10.2.2.2.2.2.2.2.f_Role, y10.2.2.2.2.2.2.2.f_Verb, y10.2.2.2.2.2.2.2.f_Ent, y10.2.2.2.2.2.2.2.f_Group, y10.2.2.2.2.2.2.2.f_Line, (⟨y10.2.2.2.2.2.2.2.f_Unit.f_Neg, (y10.2.2.2.2.2.2.2.f_Unit.f_C.1, y10.2.2.2.2.2.2.2.f_Unit.f_C.2), y10.2.2.2.2.2.2.2.f_Unit.f_Scale⟩ : Sapi_Dec), (⟨y10.2.2.2.2.2.2.2.f_To.f_Set, y10.2.2.2.2.2.2.2.f_To.f_Level⟩ : Sapi_Label)⟩ : Sapi_Rule)))) (some (false, y10.2.2.1, y10.2.2.2.1, y10.2.2.2.2.1, y10.2.2.2.2.2.1, y10.2.2.2.2.2.2.1, (⟨y10.2.2.2.2.2.2.2.f_Tag, y10.2.2.2.2.2.2.2.f_Role, y10.2.2.2.2.2.2.2.f_Verb, y10.2.2.2.2.2.2.2.f_Ent, y10.2.2.2.2.2.2.2.f_Group, y10.2.2.2.2.2.2.2.f_Line, (⟨y10.2.2.2.2.2.2.2.f_Unit.f_Neg, (y10.2.2.2.2.2.2.2.f_Unit.f_C.1, y10.2.2.2.2.2.2.2.f_Unit.f_C.2), y10.2.2.2.2.2.2.2.f_Unit.f_Scale⟩ : Sapi_Dec), (⟨y10.2.2.2.2.2.2.2.f_To.f_Set, y10.2.2.2.2.2.2.2.f_To.f_Level⟩ : Sapi_Label)⟩ : Sapi_Rule)))) (some (false, y10.2.2.1, y10.2.2.2.1, y10.2.2.2.2.1, y10.2.2.2.2.2.1, y10.2.2.2.2.2.2.1, (⟨y10.2.2.2.2.2.2.2.f_Tag, y10.2.2.2.2.2.2.2.f_Role, y10.2.2.2.2.2.2.2.f_Verb, y10.2.2.2.2.2.2.2.f_Ent, y10.2.2.2.2.2.2.2.f_Group, y10.2.2.2.2.2.2.2.f_Line, (⟨y10.2.2.2.2.2.2.2.f_Unit.f_Neg, (y10.2.2.2.2.2.2.2.f_Unit.f_C.1, y10.2.2.2.2.2.2.2.f_Unit.f_C.2), y10.2.2.2.2.2.2.2.f_Unit.f_Scale⟩ : Sapi_Dec), (⟨y10.2.2.2.2.2.2.2.f_To.f_Set, y10.2.2.2.2.2.2.2.f_To.f_Level⟩ : Sapi_Label)⟩ : Sapi_Rule)))) : Option (Bool × List Sapi_Ent × List Int × List Sapi_Who × List Int × List Sapi_Rule × Sapi_Rule)).bind fun y18 => (cond (y18.1) ((rule_within.f k y18.2.2.2.2.2.2.f_Verb 1 3).bind fun t19 => (cond (t19) ((rule_within.f k y18.2.2.2.2.2.2.f_Ent (-1) (IntKind.wrap .i64 ((List.length y18.2.1 : Int) - 1))).bind fun t20 => (some t20)) (some false))) (some false))) (cond (y10.1 == 3) ((((dec_Sign.f k (⟨y10.2.2.2.2.2.2.2.f_Unit.f_Neg, (y10.2.2.2.2.2.2.2.f_Unit.f_C.1, y10.2.2.2.2.2.2.2.f_Unit.f_C.2), y10.2.2.2.2.2.2.2.f_Unit.f_Scale⟩ : Sapi_Dec)).bind fun t21 => (cond (decide (t21 > 0)) (some (decide (y10.2.2.2.2.2.2.2.f_Unit.f_Scale ≤ 2), y10.2.2.1, y10.2.2.2.1, y10.2.2.2.2.1, y10.2.2.2.2.2.1, y10.2.2.2.2.2.2.1, (⟨y10.2.2.2.2.2.2.2.f_Tag, y10.2.2.2.2.2.2.2.f_Role, y10.2.2.2.2.2.2.2.f_Verb, y10.2.2.2.2.2.2.2.f_Ent, y10.2.2.2.2.2.2.2.f_Group, y10.2.2.2.2.2.2.2.f_Line, (⟨y10.2.2.2.2.2.2.2.f_Unit.f_Neg, (y10.2.2.2.2.2.2.2.f_Unit.f_C.1, y10.2.2.2.2.2.2.2.f_Unit.f_C.2), y10.2.2.2.2.2.2.2.f_Unit.f_Scale⟩ : Sapi_Dec), (⟨y10.2.2.2.2.2.2.2.f_To.f_Set, y10.2.2.2.2.2.2.2.f_To.f_Level⟩ : Sapi_Label)⟩ : Sapi_Rule))) (some (false, y10.2.2.1, y10.2.2.2.1, y10.2.2.2.2.1, y10.2.2.2.2.2.1, y10.2.2.2.2.2.2.1, (⟨y10.2.2.2.2.2.2.2.f_Tag, y10.2.2.2.2.2.2.2.f_Role, y10.2.2.2.2.2.2.2.f_Verb, y10.2.2.2.2.2.2.2.f_Ent, y10.2.2.2.2.2.2.2.f_Group, y10.2.2.2.2.2.2.2.f_Line, (⟨y10.2.2.2.2.2.2.2.f_Unit.f_Neg, (y10.2.2.2.2.2.2.2.f_Unit.f_C.1, y10.2.2.2.2.2.2.2.f_Unit.f_C.2), y10.2.2.2.2.2.2.2.f_Unit.f_Scale⟩ : Sapi_Dec), (⟨y10.2.2.2.2.2.2.2.f_To.f_Set, y10.2.2.2.2.2.2.2.f_To.f_Level⟩ : Sapi_Label)⟩ : Sapi_Rule))))) : Option (Bool × List Sapi_Ent × List Int × List Sapi_Who × List Int × List Sapi_Rule × Sapi_Rule)).bind fun y29 => (cond (y29.1) (cond (y29.2.2.2.2.2.2.f_Verb == 0) (cond (y29.2.2.2.2.2.2.f_Ent == (-1)) ((rule_within.f k y29.2.2.2.2.2.2.f_Group 0 (IntKind.wrap .i64 ((List.length y29.2.2.1 : Int) - 1))).bind fun t30 => (cond (t30) ((rule_within.f k y29.2.2.2.2.2.2.f_Line 0 5).bind fun t31 => (cond (t31) ((label_Right.f k (⟨y29.2.2.2.2.2.2.f_To.f_Set, y29.2.2.2.2.2.2.f_To.f_Level⟩ : Sapi_Label)).bind fun t32 => (some t32)) (some false))) (some false))) (some false)) (some false)) (some false))) (some false)))))
noncomputable def rule_rightRule.i : Lay U (Sapi_Policy × Sapi_Rule) := (pcAnd (pcOne 0 (tAt (vCd cd_Sapi_Policy))) (pcOne 1 (tAt (vCd cd_Sapi_Rule)))).lay (fun _ => by kernel_rfl)
noncomputable def rule_rightRule.r : Lay U Bool := (pcOne 0 (tAt vBool)).lay (fun _ => by kernel_rfl)
noncomputable def rule_rightRule.D (k : Nat) : FDen U := fdn rule_rightRule.i rule_rightRule.r Try.f92.ntmps [] true (fun x => rule_rightRule.f k (x.1) (x.2)) (fun _ _ => rfl)
noncomputable def rule_rightRule.j5001 : Jk U := ⟨(Int × Bool × List Sapi_Ent × List Int × List Sapi_Who × List Int × List Sapi_Rule × Sapi_Rule), oNorm (lay [(2, sPtr 2 0), (3, sPtr 3 0), (16, sAt (vInt .i64)), (17, sAt vBool)] [bLit 2 [(vRow DD C.Sapi_Ent), (vRow DD C.u64), (vRow DD C.Sapi_Who), (vRow DD C.i64), (vRow DD C.Sapi_Rule)], bCd 3 cd_Sapi_Rule] (fun _ => by kernel_rfl))⟩
noncomputable def rule_rightRule.j6000 : Jk U := ⟨(Bool × List Sapi_Ent × List Int × List Sapi_Who × List Int × List Sapi_Rule × Sapi_Rule), oNorm (lay [(2, sPtr 2 0), (3, sPtr 3 0), (5, sAt vBool)] [bLit 2 [(vRow DD C.Sapi_Ent), (vRow DD C.u64), (vRow DD C.Sapi_Who), (vRow DD C.i64), (vRow DD C.Sapi_Rule)], bCd 3 cd_Sapi_Rule] (fun _ => by kernel_rfl))⟩
noncomputable def rule_rightRule.j9000 : Jk U := ⟨(Bool × List Sapi_Ent × List Int × List Sapi_Who × List Int × List Sapi_Rule × Sapi_Rule), oNorm (lay [(2, sPtr 2 0), (3, sPtr 3 0), (6, sAt vBool)] [bLit 2 [(vRow DD C.Sapi_Ent), (vRow DD C.u64), (vRow DD C.Sapi_Who), (vRow DD C.i64), (vRow DD C.Sapi_Rule)], bCd 3 cd_Sapi_Rule] (fun _ => by kernel_rfl))⟩
noncomputable def rule_rightRule.E (k : Nat) : Env U := mkE Try.f92 [rule_within.pk k, dec_Sign.pk k, label_Right.pk k] [(5001, rule_rightRule.j5001), (6000, rule_rightRule.j6000), (9000, rule_rightRule.j9000)] [] [] n0 n0 [] false n00 nl0
theorem rule_rightRule.eq (k : Nat) (x : (Sapi_Policy × Sapi_Rule)) : runF (rule_rightRule.E k) (codeOf Try.f92) (rule_rightRule.i.put x) rule_rightRule.r.un = rule_rightRule.f k (x.1) (x.2) := by kernel_rfl
theorem rule_rightRule.sound (k : Nat) : Sound Try.prog DD 92 (rule_rightRule.D k) :=
  funP (E := rule_rightRule.E k) (fn := Try.f92) (c := codeOf Try.f92) (mkE_ok _ _ _ _ _ _ _ _ _ _ _) mixed rfl Try.func92 (by kernel_rfl) (by kernel_rfl) (allL_of (l := []) (by kernel_rfl) allL_nil) rule_rightRule.i rule_rightRule.r [] true (fun x => rule_rightRule.f k (x.1) (x.2)) (fun _ _ => rfl) (by kernel_rfl) (rule_rightRule.eq k)
noncomputable def rule_rightRule.pk (k : Nat) : Pk Try.prog DD := ⟨92, rule_rightRule.D k, rule_rightRule.sound k, enter_of Try.func92 (by kernel_rfl) (by kernel_rfl)⟩
/-! ### pyx/rule.Right$3: function 91 -/
noncomputable def rule_Right_3.f (k : Nat) (a0 : Sapi_Rule) (a1 : Sapi_Policy) : Option Bool := (rule_rightRule.f k (⟨a1.f_Ents, a1.f_Groups, a1.f_Who, a1.f_Up, a1.f_Rules⟩ : Sapi_Policy) (⟨a0.f_Tag, a0.f_Role, a0.f_Verb, a0.f_Ent, a0.f_Group, a0.f_Line, (⟨a0.f_Unit.f_Neg, (a0.f_Unit.f_C.1, a0.f_Unit.f_C.2), a0.f_Unit.f_Scale⟩ : Sapi_Dec), (⟨a0.f_To.f_Set, a0.f_To.f_Level⟩ : Sapi_Label)⟩ : Sapi_Rule)).bind fun t1 => (some (!t1))
noncomputable def rule_Right_3.i : Lay U (Sapi_Rule × Sapi_Policy) := (pcAnd (pcOne 0 (tAt (vCd cd_Sapi_Rule))) (pcOne 1 (tAt (vRp cd_Sapi_Policy)))).lay (fun _ => by kernel_rfl)
noncomputable def rule_Right_3.r : Lay U Bool := (pcOne 0 (tAt vBool)).lay (fun _ => by kernel_rfl)
noncomputable def rule_Right_3.D (k : Nat) : FDen U := fdn rule_Right_3.i rule_Right_3.r Try.f91.ntmps [] true (fun x => rule_Right_3.f k (x.1) (x.2)) (fun _ _ => rfl)
noncomputable def rule_Right_3.E (k : Nat) : Env U := mkE Try.f91 [rule_rightRule.pk k] [] [] [] n0 n0 [] false n00 nl0
theorem rule_Right_3.eq (k : Nat) (x : (Sapi_Rule × Sapi_Policy)) : runF (rule_Right_3.E k) (codeOf Try.f91) (rule_Right_3.i.put x) rule_Right_3.r.un = rule_Right_3.f k (x.1) (x.2) := by kernel_rfl
theorem rule_Right_3.sound (k : Nat) : Sound Try.prog DD 91 (rule_Right_3.D k) :=
  funP (E := rule_Right_3.E k) (fn := Try.f91) (c := codeOf Try.f91) (mkE_ok _ _ _ _ _ _ _ _ _ _ _) mixed rfl Try.func91 (by kernel_rfl) (by kernel_rfl) (allL_of (l := []) (by kernel_rfl) allL_nil) rule_Right_3.i rule_Right_3.r [] true (fun x => rule_Right_3.f k (x.1) (x.2)) (fun _ _ => rfl) (by kernel_rfl) (rule_Right_3.eq k)
noncomputable def rule_Right_3.pk (k : Nat) : Pk Try.prog DD := ⟨91, rule_Right_3.D k, rule_Right_3.sound k, enter_of Try.func91 (by kernel_rfl) (by kernel_rfl)⟩
/-! ### slices.IndexFunc[[]pyx/api.Rule,pyx/api.Rule]: function 105 -/
noncomputable def slices_IndexFunc_api_Rule_c91.l2.once (k : Nat) (x : (List Sapi_Rule × List Sapi_Ent × List Int × List Sapi_Who × List Int × List Sapi_Rule × Int × Int)) : Option ((List Sapi_Rule × List Sapi_Ent × List Int × List Sapi_Who × List Int × List Sapi_Rule × Int × Int) ⊕ (Unit ⊕ Int)) := match x with | (x1, x2, x3, x4, x5, x6, x7, x8) => cond (decide (x8 < x7)) (cond (inb x8 (List.length x1)) ((rule_Right_3.f k (⟨(List.getD x1 (Int.toNat x8) Sapi_Rule.zero).f_Tag, (List.getD x1 (Int.toNat x8) Sapi_Rule.zero).f_Role, (List.getD x1 (Int.toNat x8) Sapi_Rule.zero).f_Verb, (List.getD x1 (Int.toNat x8) Sapi_Rule.zero).f_Ent, (List.getD x1 (Int.toNat x8) Sapi_Rule.zero).f_Group, (List.getD x1 (Int.toNat x8) Sapi_Rule.zero).f_Line, (⟨((List.getD x1 (Int.toNat x8) Sapi_Rule.zero).f_Unit).f_Neg, ((((List.getD x1 (Int.toNat x8) Sapi_Rule.zero).f_Unit).f_C).1, (((List.getD x1 (Int.toNat x8) Sapi_Rule.zero).f_Unit).f_C).2), ((List.getD x1 (Int.toNat x8) Sapi_Rule.zero).f_Unit).f_Scale⟩ : Sapi_Dec), (⟨((List.getD x1 (Int.toNat x8) Sapi_Rule.zero).f_To).f_Set, ((List.getD x1 (Int.toNat x8) Sapi_Rule.zero).f_To).f_Level⟩ : Sapi_Label)⟩ : Sapi_Rule) (⟨x2, x3, x4, x5, x6⟩ : Sapi_Policy)).bind fun t9 => (cond (t9) (some (.inr (.inr x8))) (some (.inl (x1, x2, x3, x4, x5, x6, x7, IntKind.wrap .i64 (x8 + 1)))))) none) (some (.inr (.inl ())))
noncomputable def slices_IndexFunc_api_Rule_c91.f (k : Nat) (a0 : List Sapi_Rule) (a1 : Sapi_Policy) : Option Int := (iter (slices_IndexFunc_api_Rule_c91.l2.once k) k (a0, a1.f_Ents, a1.f_Groups, a1.f_Who, a1.f_Up, a1.f_Rules, (List.length a0 : Int), 0)).bind fun | .inl y11 => (some (-1)) | .inr y12 => (some y12)
noncomputable def slices_IndexFunc_api_Rule_c91.un (s : St U) : Option (List Sapi_Rule × Sapi_Policy) := match s.get 0, s.get 1 with | .row C.Sapi_Rule x1, .fn 91 [.rp [.row C.Sapi_Ent x2, .row C.u64 x3, .row C.Sapi_Who x4, .row C.i64 x5, .row C.Sapi_Rule x6] 0] => some (x1, (⟨x2, x3, x4, x5, x6⟩ : Sapi_Policy)) | _, _ => none
noncomputable def slices_IndexFunc_api_Rule_c91.mk (x : (List Sapi_Rule × Sapi_Policy)) : St U := ⟨[(0, .row C.Sapi_Rule x.1), (1, .fn 91 [.rp [.row C.Sapi_Ent x.2.f_Ents, .row C.u64 x.2.f_Groups, .row C.Sapi_Who x.2.f_Who, .row C.i64 x.2.f_Up, .row C.Sapi_Rule x.2.f_Rules] 0])], []⟩
noncomputable def slices_IndexFunc_api_Rule_c91.fin (y : Int) : St U := ⟨[(0, .flat (.int .i64 y))], []⟩
noncomputable def slices_IndexFunc_api_Rule_c91.D (k : Nat) : FDen U := { X := (List Sapi_Rule × Sapi_Policy), Y := Int, nt := 19, gh := [], un := slices_IndexFunc_api_Rule_c91.un, f := fun x => slices_IndexFunc_api_Rule_c91.f k (x.1) (x.2), fin := slices_IndexFunc_api_Rule_c91.fin, cl := true, clo := fun _ _ => rfl }
noncomputable def slices_IndexFunc_api_Rule_c91.re (s : St U) : Option Int := match s.get 0 with | .flat (.int .i64 x1) => some x1 | _ => none
noncomputable def slices_IndexFunc_api_Rule_c91.l2.mk (x : (List Sapi_Rule × List Sapi_Ent × List Int × List Sapi_Who × List Int × List Sapi_Rule × Int × Int)) : St U := match x with | (x1, x2, x3, x4, x5, x6, x7, x8) => ⟨[(0, .row C.Sapi_Rule x1), (1, .fn 91 [.rp [.row C.Sapi_Ent x2, .row C.u64 x3, .row C.Sapi_Who x4, .row C.i64 x5, .row C.Sapi_Rule x6] 0]), (7, .flat (.int .i64 x7)), (8, .flat (.int .i64 x8))], []⟩
noncomputable def slices_IndexFunc_api_Rule_c91.l2.un (s : St U) : Option (List Sapi_Rule × List Sapi_Ent × List Int × List Sapi_Who × List Int × List Sapi_Rule × Int × Int) := (row_Sapi_Rule (s.get 0)).bind fun q0 => (match s.get 1, s.get 7, s.get 8 with | .fn 91 [.rp [.row C.Sapi_Ent x2, .row C.u64 x3, .row C.Sapi_Who x4, .row C.i64 x5, .row C.Sapi_Rule x6] 0], .flat (.int .i64 x7), .flat (.int .i64 x8) => some (q0, x2, x3, x4, x5, x6, x7, x8) | _, _, _ => none)
noncomputable def slices_IndexFunc_api_Rule_c91.l2.fin (y : Unit ⊕ Int) : Out U := match y with | .inl () => .exit 0 ⟨[], []⟩ | .inr z => .ret (⟨[(0, .flat (.int .i64 z))], []⟩)
noncomputable def slices_IndexFunc_api_Rule_c91.l2.finK {ρ : Type} (y : Unit ⊕ Int) (K : Out U → Option ρ) : Option ρ := match y with | .inl () => K (.exit 0 ⟨[], []⟩) | .inr z => K (.ret (⟨[(0, .flat (.int .i64 z))], []⟩))
theorem slices_IndexFunc_api_Rule_c91.l2.finK_eq {ρ : Type} (y : Unit ⊕ Int) (K : Out U → Option ρ) : slices_IndexFunc_api_Rule_c91.l2.finK y K = K (slices_IndexFunc_api_Rule_c91.l2.fin y) := by
  unfold slices_IndexFunc_api_Rule_c91.l2.finK slices_IndexFunc_api_Rule_c91.l2.fin
  first | rfl | (split <;> rfl)
noncomputable def slices_IndexFunc_api_Rule_c91.l2.re : Out U → Option (Unit ⊕ Int) | .exit 0 s => (some (.inl ())) | .ret s => (match s.get 0 with | .flat (.int .i64 x1) => some (.inr x1) | _ => none) | _ => none
noncomputable def slices_IndexFunc_api_Rule_c91.l2.L (k : Nat) : LDen U := { X := (List Sapi_Rule × List Sapi_Ent × List Int × List Sapi_Who × List Int × List Sapi_Rule × Int × Int), Y := Unit ⊕ Int, un := slices_IndexFunc_api_Rule_c91.l2.un, f := iter (slices_IndexFunc_api_Rule_c91.l2.once k) k, fin := slices_IndexFunc_api_Rule_c91.l2.fin, finK := slices_IndexFunc_api_Rule_c91.l2.finK, finK_eq := slices_IndexFunc_api_Rule_c91.l2.finK_eq }
noncomputable def slices_IndexFunc_api_Rule_c91.jl : List (Nat × JDen U) := []
noncomputable def slices_IndexFunc_api_Rule_c91.fl (k : Nat) : List (Nat × FDen U) := [(91, rule_Right_3.D k)]
noncomputable def slices_IndexFunc_api_Rule_c91.ll (k : Nat) : List (Nat × LDen U) := [(2, slices_IndexFunc_api_Rule_c91.l2.L k)]
noncomputable def slices_IndexFunc_api_Rule_c91.E (k : Nat) : Env U := { P := Try.prog, D := DD, fd := lk (slices_IndexFunc_api_Rule_c91.fl k), sf := lk sl0, ld := lk (slices_IndexFunc_api_Rule_c91.ll k), jd := lk slices_IndexFunc_api_Rule_c91.jl, mode := lk [], elc := lk ec, mpc := lk mc, rts := Try.f105.resultTypes.toList, dyn := fun t => false, vecs := fun d => false, results := Try.f105.results.toList, gh := [], own := false, io := fun g i => false, lds := nl0 }
theorem slices_IndexFunc_api_Rule_c91.ok (k : Nat) : EnvOk (slices_IndexFunc_api_Rule_c91.E k) := envOk lawful (slices_IndexFunc_api_Rule_c91.fl k) sl0 (slices_IndexFunc_api_Rule_c91.ll k) slices_IndexFunc_api_Rule_c91.jl _ _ _ _ _ _ _ _ _ _ _ (by
  intro p hp
  simp only [slices_IndexFunc_api_Rule_c91.fl, List.mem_cons, List.not_mem_nil, or_false] at hp
  rcases hp with rfl
  · exact ⟨rule_Right_3.sound k, enter_of Try.func91 (by kernel_rfl) (by kernel_rfl)⟩) sl0_ok (by
  intro p hp
  simp [slices_IndexFunc_api_Rule_c91.jl] at hp)
theorem slices_IndexFunc_api_Rule_c91.l2.eq (k : Nat) (x : (List Sapi_Rule × List Sapi_Ent × List Int × List Sapi_Who × List Int × List Sapi_Rule × Int × Int)) : evC (slices_IndexFunc_api_Rule_c91.E k) (loopAt Try.f105 2) (slices_IndexFunc_api_Rule_c91.l2.mk x) (headK slices_IndexFunc_api_Rule_c91.l2.un slices_IndexFunc_api_Rule_c91.l2.re) = slices_IndexFunc_api_Rule_c91.l2.once k x := by kernel_rfl
theorem slices_IndexFunc_api_Rule_c91.l2.fit (s : St U) (x : (List Sapi_Rule × List Sapi_Ent × List Int × List Sapi_Who × List Int × List Sapi_Rule × Int × Int)) (h : slices_IndexFunc_api_Rule_c91.l2.un s = some x) : Fits s (slices_IndexFunc_api_Rule_c91.l2.mk x) := by
  unfold slices_IndexFunc_api_Rule_c91.l2.un at h
  obtain ⟨q0, eq0, h1⟩ := Option.bind_eq_some_iff.1 h
  split at h1
  · cases h1
    refine fits_ren [] ?_ ?_ ren_nil rfl
    · exact List.forall_mem_cons.2 ⟨FV.one (row_Sapi_Rule_fit eq0), List.forall_mem_cons.2 ⟨FV.one (FV.same (by assumption) rfl), List.forall_mem_cons.2 ⟨FV.one (FV.same (by assumption) rfl), List.forall_mem_cons.2 ⟨FV.one (FV.same (by assumption) rfl), fun _ hp => (List.not_mem_nil hp).elim⟩⟩⟩⟩
    · exact fun _ hp => (List.not_mem_nil hp).elim
  · cases h1
theorem slices_IndexFunc_api_Rule_c91.l2.fitO (o : Out U) (y : Unit ⊕ Int) (h : slices_IndexFunc_api_Rule_c91.l2.re o = some y) : FitsO o (slices_IndexFunc_api_Rule_c91.l2.fin y) := by
  unfold slices_IndexFunc_api_Rule_c91.l2.re at h
  split at h
  · cases h
    refine fitsO_exit (fits_ren [] ?_ ?_ ren_nil rfl)
    · exact fun _ hp => (List.not_mem_nil hp).elim
    · exact fun _ hp => (List.not_mem_nil hp).elim
  · split at h
    · cases h
      refine fitsO_ret (fits_ren [] ?_ ?_ ren_nil rfl)
      · exact List.forall_mem_cons.2 ⟨FV.one (FV.same (by assumption) rfl), fun _ hp => (List.not_mem_nil hp).elim⟩
      · exact fun _ hp => (List.not_mem_nil hp).elim
    · cases h
  · cases h
theorem slices_IndexFunc_api_Rule_c91.l2.sound (k : Nat) : LSound (slices_IndexFunc_api_Rule_c91.E k) Try.f105.ntmps Try.f105 (loopAt Try.f105 2) (slices_IndexFunc_api_Rule_c91.l2.L k) :=
  loop_sound (slices_IndexFunc_api_Rule_c91.ok k) mixed rfl (by kernel_rfl) (allL_of (l := []) (by kernel_rfl) allL_nil) slices_IndexFunc_api_Rule_c91.l2.un slices_IndexFunc_api_Rule_c91.l2.mk slices_IndexFunc_api_Rule_c91.l2.fin slices_IndexFunc_api_Rule_c91.l2.re (slices_IndexFunc_api_Rule_c91.l2.once k) k slices_IndexFunc_api_Rule_c91.l2.fit slices_IndexFunc_api_Rule_c91.l2.fitO (slices_IndexFunc_api_Rule_c91.l2.eq k) slices_IndexFunc_api_Rule_c91.l2.finK slices_IndexFunc_api_Rule_c91.l2.finK_eq
theorem slices_IndexFunc_api_Rule_c91.eq (k : Nat) (x : (List Sapi_Rule × Sapi_Policy)) : runF (slices_IndexFunc_api_Rule_c91.E k) (codeOf Try.f105) (slices_IndexFunc_api_Rule_c91.mk x) slices_IndexFunc_api_Rule_c91.re = (slices_IndexFunc_api_Rule_c91.D k).f x := by kernel_rfl
theorem slices_IndexFunc_api_Rule_c91.fit (s : St U) (x : (List Sapi_Rule × Sapi_Policy)) (h : slices_IndexFunc_api_Rule_c91.un s = some x) : Fits s (slices_IndexFunc_api_Rule_c91.mk x) := by
  unfold slices_IndexFunc_api_Rule_c91.un at h
  split at h
  · cases h
    refine fits_ren [] ?_ ?_ ren_nil rfl
    · exact List.forall_mem_cons.2 ⟨FV.one (FV.same (by assumption) rfl), List.forall_mem_cons.2 ⟨FV.one (FV.same (by assumption) rfl), fun _ hp => (List.not_mem_nil hp).elim⟩⟩
    · exact fun _ hp => (List.not_mem_nil hp).elim
  · cases h
theorem slices_IndexFunc_api_Rule_c91.fitR (s : St U) (y : Int) (h : slices_IndexFunc_api_Rule_c91.re s = some y) : Fits s (slices_IndexFunc_api_Rule_c91.fin y) := by
  unfold slices_IndexFunc_api_Rule_c91.re at h
  split at h
  · cases h
    refine fits_ren [] ?_ ?_ ren_nil rfl
    · exact List.forall_mem_cons.2 ⟨FV.one (FV.same (by assumption) rfl), fun _ hp => (List.not_mem_nil hp).elim⟩
    · exact fun _ hp => (List.not_mem_nil hp).elim
  · cases h
theorem slices_IndexFunc_api_Rule_c91.sound (k : Nat) : Sound Try.prog DD 105 (slices_IndexFunc_api_Rule_c91.D k) :=
  fun_sound (E := slices_IndexFunc_api_Rule_c91.E k) (fn := Try.f105) (c := codeOf Try.f105) (slices_IndexFunc_api_Rule_c91.ok k) mixed rfl Try.func105 (by kernel_rfl) (by kernel_rfl) (allL_of (l := [loopAt Try.f105 2]) (by kernel_rfl) (allL_cons (key := 2) (by kernel_rfl) rfl (slices_IndexFunc_api_Rule_c91.l2.sound k) allL_nil)) (slices_IndexFunc_api_Rule_c91.D k) slices_IndexFunc_api_Rule_c91.mk slices_IndexFunc_api_Rule_c91.re (by kernel_rfl) (by kernel_rfl) slices_IndexFunc_api_Rule_c91.fit slices_IndexFunc_api_Rule_c91.fitR (slices_IndexFunc_api_Rule_c91.eq k)
noncomputable def slices_IndexFunc_api_Rule_c91.pk (k : Nat) : Pk Try.prog DD := ⟨105, slices_IndexFunc_api_Rule_c91.D k, slices_IndexFunc_api_Rule_c91.sound k, enter_of Try.func105 (by kernel_rfl) (by kernel_rfl)⟩
/-! ### slices.ContainsFunc[[]pyx/api.Rule,pyx/api.Rule]: function 78 -/
noncomputable def slices_ContainsFunc_api_Rule_c91.f (k : Nat) (a0 : List Sapi_Rule) (a1 : Sapi_Policy) : Option Bool := (slices_IndexFunc_api_Rule_c91.f k a0 (⟨a1.f_Ents, a1.f_Groups, a1.f_Who, a1.f_Up, a1.f_Rules⟩ : Sapi_Policy)).bind fun t1 => (some (decide (t1 ≥ 0)))
noncomputable def slices_ContainsFunc_api_Rule_c91.un (s : St U) : Option (List Sapi_Rule × Sapi_Policy) := match s.get 0, s.get 1 with | .row C.Sapi_Rule x1, .fn 91 [.rp [.row C.Sapi_Ent x2, .row C.u64 x3, .row C.Sapi_Who x4, .row C.i64 x5, .row C.Sapi_Rule x6] 0] => some (x1, (⟨x2, x3, x4, x5, x6⟩ : Sapi_Policy)) | _, _ => none
noncomputable def slices_ContainsFunc_api_Rule_c91.mk (x : (List Sapi_Rule × Sapi_Policy)) : St U := ⟨[(0, .row C.Sapi_Rule x.1), (1, .fn 91 [.rp [.row C.Sapi_Ent x.2.f_Ents, .row C.u64 x.2.f_Groups, .row C.Sapi_Who x.2.f_Who, .row C.i64 x.2.f_Up, .row C.Sapi_Rule x.2.f_Rules] 0])], []⟩
noncomputable def slices_ContainsFunc_api_Rule_c91.fin (y : Bool) : St U := ⟨[(0, .flat (.bool y))], []⟩
noncomputable def slices_ContainsFunc_api_Rule_c91.D (k : Nat) : FDen U := { X := (List Sapi_Rule × Sapi_Policy), Y := Bool, nt := 9, gh := [], un := slices_ContainsFunc_api_Rule_c91.un, f := fun x => slices_ContainsFunc_api_Rule_c91.f k (x.1) (x.2), fin := slices_ContainsFunc_api_Rule_c91.fin, cl := true, clo := fun _ _ => rfl }
noncomputable def slices_ContainsFunc_api_Rule_c91.re (s : St U) : Option Bool := match s.get 0 with | .flat (.bool x1) => some x1 | _ => none
noncomputable def slices_ContainsFunc_api_Rule_c91.jl : List (Nat × JDen U) := []
noncomputable def slices_ContainsFunc_api_Rule_c91.fl (k : Nat) : List (Nat × FDen U) := [(105, slices_IndexFunc_api_Rule_c91.D k)]
noncomputable def slices_ContainsFunc_api_Rule_c91.ll (k : Nat) : List (Nat × LDen U) := []
noncomputable def slices_ContainsFunc_api_Rule_c91.E (k : Nat) : Env U := { P := Try.prog, D := DD, fd := lk (slices_ContainsFunc_api_Rule_c91.fl k), sf := lk sl0, ld := lk (slices_ContainsFunc_api_Rule_c91.ll k), jd := lk slices_ContainsFunc_api_Rule_c91.jl, mode := lk [], elc := lk ec, mpc := lk mc, rts := Try.f78.resultTypes.toList, dyn := fun t => false, vecs := fun d => false, results := Try.f78.results.toList, gh := [], own := false, io := fun g i => false, lds := nl0 }
theorem slices_ContainsFunc_api_Rule_c91.ok (k : Nat) : EnvOk (slices_ContainsFunc_api_Rule_c91.E k) := envOk lawful (slices_ContainsFunc_api_Rule_c91.fl k) sl0 (slices_ContainsFunc_api_Rule_c91.ll k) slices_ContainsFunc_api_Rule_c91.jl _ _ _ _ _ _ _ _ _ _ _ (by
  intro p hp
  simp only [slices_ContainsFunc_api_Rule_c91.fl, List.mem_cons, List.not_mem_nil, or_false] at hp
  rcases hp with rfl
  · exact ⟨slices_IndexFunc_api_Rule_c91.sound k, enter_of Try.func105 (by kernel_rfl) (by kernel_rfl)⟩) sl0_ok (by
  intro p hp
  simp [slices_ContainsFunc_api_Rule_c91.jl] at hp)
theorem slices_ContainsFunc_api_Rule_c91.eq (k : Nat) (x : (List Sapi_Rule × Sapi_Policy)) : runF (slices_ContainsFunc_api_Rule_c91.E k) (codeOf Try.f78) (slices_ContainsFunc_api_Rule_c91.mk x) slices_ContainsFunc_api_Rule_c91.re = (slices_ContainsFunc_api_Rule_c91.D k).f x := by kernel_rfl
theorem slices_ContainsFunc_api_Rule_c91.fit (s : St U) (x : (List Sapi_Rule × Sapi_Policy)) (h : slices_ContainsFunc_api_Rule_c91.un s = some x) : Fits s (slices_ContainsFunc_api_Rule_c91.mk x) := by
  unfold slices_ContainsFunc_api_Rule_c91.un at h
  split at h
  · cases h
    refine fits_ren [] ?_ ?_ ren_nil rfl
    · exact List.forall_mem_cons.2 ⟨FV.one (FV.same (by assumption) rfl), List.forall_mem_cons.2 ⟨FV.one (FV.same (by assumption) rfl), fun _ hp => (List.not_mem_nil hp).elim⟩⟩
    · exact fun _ hp => (List.not_mem_nil hp).elim
  · cases h
theorem slices_ContainsFunc_api_Rule_c91.fitR (s : St U) (y : Bool) (h : slices_ContainsFunc_api_Rule_c91.re s = some y) : Fits s (slices_ContainsFunc_api_Rule_c91.fin y) := by
  unfold slices_ContainsFunc_api_Rule_c91.re at h
  split at h
  · cases h
    refine fits_ren [] ?_ ?_ ren_nil rfl
    · exact List.forall_mem_cons.2 ⟨FV.one (FV.same (by assumption) rfl), fun _ hp => (List.not_mem_nil hp).elim⟩
    · exact fun _ hp => (List.not_mem_nil hp).elim
  · cases h
theorem slices_ContainsFunc_api_Rule_c91.sound (k : Nat) : Sound Try.prog DD 78 (slices_ContainsFunc_api_Rule_c91.D k) :=
  fun_sound (E := slices_ContainsFunc_api_Rule_c91.E k) (fn := Try.f78) (c := codeOf Try.f78) (slices_ContainsFunc_api_Rule_c91.ok k) mixed rfl Try.func78 (by kernel_rfl) (by kernel_rfl) (allL_of (l := []) (by kernel_rfl) allL_nil) (slices_ContainsFunc_api_Rule_c91.D k) slices_ContainsFunc_api_Rule_c91.mk slices_ContainsFunc_api_Rule_c91.re (by kernel_rfl) (by kernel_rfl) slices_ContainsFunc_api_Rule_c91.fit slices_ContainsFunc_api_Rule_c91.fitR (slices_ContainsFunc_api_Rule_c91.eq k)
noncomputable def slices_ContainsFunc_api_Rule_c91.pk (k : Nat) : Pk Try.prog DD := ⟨78, slices_ContainsFunc_api_Rule_c91.D k, slices_ContainsFunc_api_Rule_c91.sound k, enter_of Try.func78 (by kernel_rfl) (by kernel_rfl)⟩
/-! ### pyx/rule.Right: function 53 -/
noncomputable def rule_Right.l4.once (k : Nat) (x : (List Sapi_Ent × Int × Int × List Sapi_Ent × List Int × List Sapi_Who × List Int × List Sapi_Rule)) : Option ((List Sapi_Ent × Int × Int × List Sapi_Ent × List Int × List Sapi_Who × List Int × List Sapi_Rule) ⊕ ((List Sapi_Ent × List Int × List Sapi_Who × List Int × List Sapi_Rule) ⊕ Bool)) := match x with | (x16, x17, x18, x11, x12, x13, x14, x15) => cond (decide (x18 < x17)) (cond (inb x18 (List.length x16)) ((rule_rightEnt.f k (⟨(List.getD x16 (Int.toNat x18) Sapi_Ent.zero).f_Level, (List.getD x16 (Int.toNat x18) Sapi_Ent.zero).f_Scale, (List.getD x16 (Int.toNat x18) Sapi_Ent.zero).f_Parent, (List.getD x16 (Int.toNat x18) Sapi_Ent.zero).f_Share⟩ : Sapi_Ent) x18).bind fun t19 => (cond (!t19) (some (.inr (.inr false))) (some (.inl (x16, x17, IntKind.wrap .i64 (x18 + 1), x11, x12, x13, x14, x15))))) none) (some (.inr (.inl (x11, x12, x13, x14, x15))))
noncomputable def rule_Right.f (k : Nat) (a0 : Sapi_Policy) : Option Bool := (((rule_within.f k (List.length a0.f_Ents : Int) 1 8).bind fun t1 => (cond (!t1) (some (true, a0.f_Ents, a0.f_Groups, a0.f_Who, a0.f_Up, a0.f_Rules)) (cond (decide ((List.length a0.f_Groups : Int) > 4)) (some (true, a0.f_Ents, a0.f_Groups, a0.f_Who, a0.f_Up, a0.f_Rules)) ((rule_within.f k (List.length a0.f_Who : Int) 1 8).bind fun t8 => (cond (!t8) (some (true, a0.f_Ents, a0.f_Groups, a0.f_Who, a0.f_Up, a0.f_Rules)) ((role_Right.f k a0.f_Up).bind fun t9 => (cond (!t9) (some (true, a0.f_Ents, a0.f_Groups, a0.f_Who, a0.f_Up, a0.f_Rules)) (some (decide ((List.length a0.f_Rules : Int) > 32), a0.f_Ents, a0.f_Groups, a0.f_Who, a0.f_Up, a0.f_Rules))))))))) : Option (Bool × List Sapi_Ent × List Int × List Sapi_Who × List Int × List Sapi_Rule)).bind fun y10 => (cond (y10.1) (some false) ((iter (rule_Right.l4.once k) k (y10.2.1, (List.length y10.2.1 : Int), 0, y10.2.1, y10.2.2.1, y10.2.2.2.1, y10.2.2.2.2.1, y10.2.2.2.2.2)).bind fun | .inl y26 => ((slices_ContainsFunc__uint64_uint64_c87.f k y26.2.1 (⟨y26.1, y26.2.1, y26.2.2.1, y26.2.2.2.1, y26.2.2.2.2⟩ : Sapi_Policy)).bind fun t27 => ((slices_ContainsFunc_api_Who_c89.f k y26.2.2.1 ()).bind fun t28 => ((slices_ContainsFunc_api_Rule_c91.f k y26.2.2.2.2 (⟨y26.1, y26.2.1, y26.2.2.1, y26.2.2.2.1, y26.2.2.2.2⟩ : Sapi_Policy)).bind fun t29 => (cond (!t27) (cond (!t28) (some (!t29)) (some false)) (some false))))) | .inr y30 => (some y30)))
noncomputable def rule_Right.i : Lay U Sapi_Policy := (pcOne 0 (tAt (vCd cd_Sapi_Policy))).lay (fun _ => by kernel_rfl)
noncomputable def rule_Right.r : Lay U Bool := (pcOne 0 (tAt vBool)).lay (fun _ => by kernel_rfl)
noncomputable def rule_Right.D (k : Nat) : FDen U := fdn rule_Right.i rule_Right.r Try.f53.ntmps [] true (fun x => rule_Right.f k (x)) (fun _ _ => rfl)
noncomputable def rule_Right.l4.i : Lay U (List Sapi_Ent × Int × Int × List Sapi_Ent × List Int × List Sapi_Who × List Int × List Sapi_Rule) := (lay [(1, sPtr 1 0), (39, sAt (vRow DD C.Sapi_Ent)), (40, sAt (vInt .i64)), (41, sAt (vInt .i64))] [bLit 1 [(vRow DD C.Sapi_Ent), (vRow DD C.u64), (vRow DD C.Sapi_Who), (vRow DD C.i64), (vRow DD C.Sapi_Rule)]] (fun _ => by kernel_rfl))
noncomputable def rule_Right.l4.o : OLay U ((List Sapi_Ent × List Int × List Sapi_Who × List Int × List Sapi_Rule) ⊕ Bool) := oOr (oExit 0 (lay [(1, sPtr 1 0)] [bLit 1 [(vRow DD C.Sapi_Ent), (vRow DD C.u64), (vRow DD C.Sapi_Who), (vRow DD C.i64), (vRow DD C.Sapi_Rule)]] (fun _ => by kernel_rfl))) (oRet rule_Right.r)
noncomputable def rule_Right.j1000 : Jk U := ⟨(Bool × List Sapi_Ent × List Int × List Sapi_Who × List Int × List Sapi_Rule), oNorm (lay [(1, sPtr 1 0), (37, sAt vBool)] [bLit 1 [(vRow DD C.Sapi_Ent), (vRow DD C.u64), (vRow DD C.Sapi_Who), (vRow DD C.i64), (vRow DD C.Sapi_Rule)]] (fun _ => by kernel_rfl))⟩
noncomputable def rule_Right.E (k : Nat) : Env U := mkE Try.f53 [rule_within.pk k, role_Right.pk k, rule_rightEnt.pk k, slices_ContainsFunc__uint64_uint64_c87.pk k, slices_ContainsFunc_api_Who_c89.pk k, slices_ContainsFunc_api_Rule_c91.pk k] [(1000, rule_Right.j1000)] [(4, ldn rule_Right.l4.i rule_Right.l4.o (iter (rule_Right.l4.once k) k))] [] n0 n0 [] false n00 nl0
theorem rule_Right.l4.eq (k : Nat) (x : (List Sapi_Ent × Int × Int × List Sapi_Ent × List Int × List Sapi_Who × List Int × List Sapi_Rule)) : evC (rule_Right.E k) (loopAt Try.f53 4) (rule_Right.l4.i.put x) (headK rule_Right.l4.i.un rule_Right.l4.o.re) = rule_Right.l4.once k x := by kernel_rfl
theorem rule_Right.l4.sound (k : Nat) : LSound (rule_Right.E k) Try.f53.ntmps Try.f53 (loopAt Try.f53 4) (ldn rule_Right.l4.i rule_Right.l4.o (iter (rule_Right.l4.once k) k)) :=
  loopP (mkE_ok _ _ _ _ _ _ _ _ _ _ _) mixed rfl (by kernel_rfl) (allL_of (l := []) (by kernel_rfl) allL_nil) rule_Right.l4.i rule_Right.l4.o (rule_Right.l4.once k) k (rule_Right.l4.eq k)
theorem rule_Right.eq (k : Nat) (x : Sapi_Policy) : runF (rule_Right.E k) (codeOf Try.f53) (rule_Right.i.put x) rule_Right.r.un = rule_Right.f k (x) := by kernel_rfl
theorem rule_Right.sound (k : Nat) : Sound Try.prog DD 53 (rule_Right.D k) :=
  funP (E := rule_Right.E k) (fn := Try.f53) (c := codeOf Try.f53) (mkE_ok _ _ _ _ _ _ _ _ _ _ _) mixed rfl Try.func53 (by kernel_rfl) (by kernel_rfl) (allL_of (l := [loopAt Try.f53 4]) (by kernel_rfl) (allL_cons (key := 4) (by kernel_rfl) rfl (rule_Right.l4.sound k) allL_nil)) rule_Right.i rule_Right.r [] true (fun x => rule_Right.f k (x)) (fun _ _ => rfl) (by kernel_rfl) (rule_Right.eq k)
noncomputable def rule_Right.pk (k : Nat) : Pk Try.prog DD := ⟨53, rule_Right.D k, rule_Right.sound k, enter_of Try.func53 (by kernel_rfl) (by kernel_rfl)⟩
/-! ### pyx/role.bit: function 104 -/
noncomputable def role_bit.f (k : Nat) (a0 : Int) : Option Int := cond (decide (IntKind.wrap .u64 (a0) < 0)) none (some (IntKind.wrap .u64 (1 * 2 ^ (min (Int.toNat (IntKind.wrap .u64 (a0))) 64))))
noncomputable def role_bit.i : Lay U Int := (pcOne 0 (tAt (vInt .i64))).lay (fun _ => by kernel_rfl)
noncomputable def role_bit.r : Lay U Int := (pcOne 0 (tAt (vInt .u64))).lay (fun _ => by kernel_rfl)
noncomputable def role_bit.D (k : Nat) : FDen U := fdn role_bit.i role_bit.r Try.f104.ntmps [] true (fun x => role_bit.f k (x)) (fun _ _ => rfl)
noncomputable def role_bit.E (k : Nat) : Env U := mkE Try.f104 [] [] [] [] n0 n0 [] false n00 nl0
theorem role_bit.eq (k : Nat) (x : Int) : runF (role_bit.E k) (codeOf Try.f104) (role_bit.i.put x) role_bit.r.un = role_bit.f k (x) := by kernel_rfl
theorem role_bit.sound (k : Nat) : Sound Try.prog DD 104 (role_bit.D k) :=
  funP (E := role_bit.E k) (fn := Try.f104) (c := codeOf Try.f104) (mkE_ok _ _ _ _ _ _ _ _ _ _ _) mixed rfl Try.func104 (by kernel_rfl) (by kernel_rfl) (allL_of (l := []) (by kernel_rfl) allL_nil) role_bit.i role_bit.r [] true (fun x => role_bit.f k (x)) (fun _ _ => rfl) (by kernel_rfl) (role_bit.eq k)
noncomputable def role_bit.pk (k : Nat) : Pk Try.prog DD := ⟨104, role_bit.D k, role_bit.sound k, enter_of Try.func104 (by kernel_rfl) (by kernel_rfl)⟩
end
end Go.Proofs.Ythknecaigoilmaa
