import Derived.Test.YtbchcjlllddlpaaF0
/-! Functions, told; their equations with the evaluator; that they are sound. Written by gen.py. -/
namespace Go.Proofs.Ytbchcjlllddlpaa
open Go Go.Ev
noncomputable section
set_option linter.unusedVariables false
set_option linter.unusedSimpArgs false
set_option maxRecDepth 100000
/-! ### pyx/limb.Of: function 78 -/
noncomputable def limb_Of.f (k : Nat) (a0 : Int) : Option (Int × Int) := some (a0, 0)
noncomputable def limb_Of.i : Lay U Int := (pcOne 0 (tAt (vInt .u64))).lay (fun _ => by kernel_rfl)
noncomputable def limb_Of.r : Lay U (Int × Int) := (pcOne 0 (tAt (vCd (Cd.pair (Cd.int .u64) (Cd.int .u64))))).lay (fun _ => by kernel_rfl)
noncomputable def limb_Of.D (k : Nat) : FDen U := fdn limb_Of.i limb_Of.r Try.f78.ntmps [] true (fun x => limb_Of.f k (x)) (fun _ _ => rfl)
noncomputable def limb_Of.E (k : Nat) : Env U := mkE Try.f78 [] [] [] [] n0 n0 [] false n00 nl0 [] nli
theorem limb_Of.eq (k : Nat) (x : Int) : runF (limb_Of.E k) (codeOf Try.f78) (limb_Of.i.put x) limb_Of.r.un = limb_Of.f k (x) := by kernel_rfl
theorem limb_Of.sound (k : Nat) : Sound Try.prog DD 78 (limb_Of.D k) :=
  funP (E := limb_Of.E k) (fn := Try.f78) (c := codeOf Try.f78) (mkE_ok _ _ _ _ _ _ _ _ _ _ _ _ _) mixed rfl Try.func78 (by kernel_rfl) (by kernel_rfl) (allL_of (l := []) (by kernel_rfl) allL_nil) limb_Of.i limb_Of.r [] true (fun x => limb_Of.f k (x)) (fun _ _ => rfl) (by kernel_rfl) (limb_Of.eq k)
noncomputable def limb_Of.pk (k : Nat) : Pk Try.prog DD := ⟨78, limb_Of.D k, limb_Of.sound k, enter_of Try.func78 (by kernel_rfl) (by kernel_rfl)⟩
/-! ### pyx/limb.halves: function 110 -/
noncomputable def limb_halves.f (k : Nat) (a0 : (Int × Int)) : Option (Int × Int × Int × Int) := some (IntKind.wrap .u32 (a0.1), IntKind.wrap .u32 (Int.fdiv a0.1 (2 ^ 32)), IntKind.wrap .u32 (a0.2), IntKind.wrap .u32 (Int.fdiv a0.2 (2 ^ 32)))
noncomputable def limb_halves.i : Lay U (Int × Int) := (pcOne 0 (tAt (vCd (Cd.pair (Cd.int .u64) (Cd.int .u64))))).lay (fun _ => by kernel_rfl)
noncomputable def limb_halves.r : Lay U (Int × Int × Int × Int) := (pcOne 0 (tAt (vCd (Cd.pair (Cd.int .u32) (Cd.pair (Cd.int .u32) (Cd.pair (Cd.int .u32) (Cd.int .u32))))))).lay (fun _ => by kernel_rfl)
noncomputable def limb_halves.D (k : Nat) : FDen U := fdn limb_halves.i limb_halves.r Try.f110.ntmps [] true (fun x => limb_halves.f k (x)) (fun _ _ => rfl)
noncomputable def limb_halves.E (k : Nat) : Env U := mkE Try.f110 [] [] [] [] n0 n0 [] false n00 nl0 [] nli
theorem limb_halves.eq (k : Nat) (x : (Int × Int)) : runF (limb_halves.E k) (codeOf Try.f110) (limb_halves.i.put x) limb_halves.r.un = limb_halves.f k (x) := by kernel_rfl
theorem limb_halves.sound (k : Nat) : Sound Try.prog DD 110 (limb_halves.D k) :=
  funP (E := limb_halves.E k) (fn := Try.f110) (c := codeOf Try.f110) (mkE_ok _ _ _ _ _ _ _ _ _ _ _ _ _) mixed rfl Try.func110 (by kernel_rfl) (by kernel_rfl) (allL_of (l := []) (by kernel_rfl) allL_nil) limb_halves.i limb_halves.r [] true (fun x => limb_halves.f k (x)) (fun _ _ => rfl) (by kernel_rfl) (limb_halves.eq k)
noncomputable def limb_halves.pk (k : Nat) : Pk Try.prog DD := ⟨110, limb_halves.D k, limb_halves.sound k, enter_of Try.func110 (by kernel_rfl) (by kernel_rfl)⟩
/-! ### pyx/limb.Mul: function 80 -/
noncomputable def limb_Mul.l8.once (k : Nat) (x : (Int × Int × Int × Int × Int × Int × Int × Int × Int × Int × Int × Int × Int × List Int × List Int × List Int)) : Option ((Int × Int × Int × Int × Int × Int × Int × Int × Int × Int × Int × Int × Int × List Int × List Int × List Int) ⊕ ((Int × Int × Int × Int × Int × Int × Int × List Int × List Int × List Int))) := match x with | (x14, x15, x16, x17, x18, x19, x20, x21, x22, x23, x24, x25, x26, x11, x12, x13) => cond (decide (x26 < 4)) (cond (inb x26 4) (cond (inb (IntKind.wrap .i64 (x14 + x26)) 8) (cond (Nat.blt (Int.toNat (IntKind.wrap .i64 (x14 + x26))) 8) (cond (inb (IntKind.wrap .i64 (x14 + x26)) 8) (cond (Nat.blt (Int.toNat (IntKind.wrap .i64 (x14 + x26))) 8) (some (.inl (x14, x15, Int.fdiv (IntKind.wrap .u64 ((IntKind.wrap .u64 ((IntKind.wrap .u64 ((IntKind.wrap .u64 (x15)) * (IntKind.wrap .u64 (List.getD [x22, x23, x24, x25] (Int.toNat x26) 0)))) + (List.getD x12 (Int.toNat (IntKind.wrap .i64 (x14 + x26))) 0))) + x16)) (2 ^ 32), x17, x18, x19, x20, x21, x22, x23, x24, x25, IntKind.wrap .i64 (x26 + 1), x11, List.set x12 (Int.toNat (IntKind.wrap .i64 (x14 + x26))) (IntKind.wrap .u64 (IntKind.wrap .u32 (IntKind.wrap .u64 ((IntKind.wrap .u64 ((IntKind.wrap .u64 ((IntKind.wrap .u64 (x15)) * (IntKind.wrap .u64 (List.getD [x22, x23, x24, x25] (Int.toNat x26) 0)))) + (List.getD x12 (Int.toNat (IntKind.wrap .i64 (x14 + x26))) 0))) + x16)))), x13))) none) none) none) none) none) (some (.inr (x14, x16, x17, x18, x19, x20, x21, x11, x12, x13)))
noncomputable def limb_Mul.l4.once (k : Nat) (x : (Int × Int × Int × Int × Int × List Int × List Int × List Int)) : Option ((Int × Int × Int × Int × Int × List Int × List Int × List Int) ⊕ ((List Int × List Int))) := match x with | (x6, x7, x8, x9, x10, x3, x4, x5) => cond (decide (x10 < 4)) (cond (inb x10 4) ((iter (limb_Mul.l8.once k) k (x10, List.getD [x6, x7, x8, x9] (Int.toNat x10) 0, 0, x6, x7, x8, x9, x10, List.getD x5 0 0, List.getD x5 1 0, List.getD x5 2 0, List.getD x5 3 0, 0, x3, x4, x5)).bind fun y37 => (cond (inb (IntKind.wrap .i64 (y37.1 + 4)) 8) (cond (Nat.blt (Int.toNat (IntKind.wrap .i64 (y37.1 + 4))) 8) (some (.inl (y37.2.2.1, y37.2.2.2.1, y37.2.2.2.2.1, y37.2.2.2.2.2.1, IntKind.wrap .i64 (y37.2.2.2.2.2.2.1 + 1), y37.2.2.2.2.2.2.2.1, List.set y37.2.2.2.2.2.2.2.2.1 (Int.toNat (IntKind.wrap .i64 (y37.1 + 4))) y37.2.1, y37.2.2.2.2.2.2.2.2.2))) none) none)) none) (some (.inr (x3, x4)))
noncomputable def limb_Mul.l18.once (k : Nat) (x : (Int × List Int × List Int × List Int)) : Option ((Int × List Int × List Int × List Int) ⊕ ((List Int × List Int))) := match x with | (x44, x41, x42, x43) => cond (decide (x44 < 4)) (cond (inb (IntKind.wrap .i64 (2 * x44)) 8) (cond (Nat.blt (Int.toNat (IntKind.wrap .i64 (2 * x44))) 8) (cond (inb (IntKind.wrap .i64 ((IntKind.wrap .i64 (2 * x44)) + 1)) 8) (cond (Nat.blt (Int.toNat (IntKind.wrap .i64 ((IntKind.wrap .i64 (2 * x44)) + 1))) 8) (cond (inb x44 4) (cond (Nat.blt (Int.toNat x44) 4) (some (.inl (IntKind.wrap .i64 (x44 + 1), x41, x42, List.set x43 (Int.toNat x44) (bits .or .u64 (List.getD x42 (Int.toNat (IntKind.wrap .i64 (2 * x44))) 0) (IntKind.wrap .u64 ((List.getD x42 (Int.toNat (IntKind.wrap .i64 ((IntKind.wrap .i64 (2 * x44)) + 1))) 0) * 2 ^ 32)))))) none) none) none) none) none) none) (some (.inr (x41, x43)))
noncomputable def limb_Mul.f (k : Nat) (a0 : (Int × Int)) (a1 : (Int × Int)) : Option (Int × Int × Int × Int) := (limb_halves.f k (a0.1, a0.2)).bind fun t1 => ((limb_halves.f k (a1.1, a1.2)).bind fun t2 => ((iter (limb_Mul.l4.once k) k (List.getD [t1.1, t1.2.1, t1.2.2.1, t1.2.2.2] 0 0, List.getD [t1.1, t1.2.1, t1.2.2.1, t1.2.2.2] 1 0, List.getD [t1.1, t1.2.1, t1.2.2.1, t1.2.2.2] 2 0, List.getD [t1.1, t1.2.1, t1.2.2.1, t1.2.2.2] 3 0, 0, [0, 0, 0, 0], [0, 0, 0, 0, 0, 0, 0, 0], [t2.1, t2.2.1, t2.2.2.1, t2.2.2.2])).bind fun y40 => ((iter (limb_Mul.l18.once k) k (0, y40.1, y40.2, [0, 0, 0, 0])).bind fun y47 => (some (List.getD [List.getD y47.2 0 0, List.getD y47.2 1 0, List.getD y47.2 2 0, List.getD y47.2 3 0] 0 0, List.getD [List.getD y47.2 0 0, List.getD y47.2 1 0, List.getD y47.2 2 0, List.getD y47.2 3 0] 1 0, List.getD [List.getD y47.2 0 0, List.getD y47.2 1 0, List.getD y47.2 2 0, List.getD y47.2 3 0] 2 0, List.getD [List.getD y47.2 0 0, List.getD y47.2 1 0, List.getD y47.2 2 0, List.getD y47.2 3 0] 3 0)))))
noncomputable def limb_Mul.i : Lay U ((Int × Int) × (Int × Int)) := (pcAnd (pcOne 0 (tAt (vCd (Cd.pair (Cd.int .u64) (Cd.int .u64))))) (pcOne 1 (tAt (vCd (Cd.pair (Cd.int .u64) (Cd.int .u64)))))).lay (fun _ => by kernel_rfl)
noncomputable def limb_Mul.r : Lay U (Int × Int × Int × Int) := (pcOne 0 (tAt (vCd (Cd.pair (Cd.int .u64) (Cd.pair (Cd.int .u64) (Cd.pair (Cd.int .u64) (Cd.int .u64))))))).lay (fun _ => by kernel_rfl)
noncomputable def limb_Mul.D (k : Nat) : FDen U := fdn limb_Mul.i limb_Mul.r Try.f80.ntmps [] true (fun x => limb_Mul.f k (x.1) (x.2)) (fun _ _ => rfl)
noncomputable def limb_Mul.l8.i : Lay U (Int × Int × Int × Int × Int × Int × Int × Int × Int × Int × Int × Int × Int × List Int × List Int × List Int) := (lay [(4, sPtr 4 0), (5, sPtr 5 0), (7, sPtr 7 0), (8, sAt (vInt .i64)), (9, sAt (vInt .u32)), (10, sAt (vInt .u64)), (20, sAgg [(vInt .u32), (vInt .u32), (vInt .u32), (vInt .u32)]), (21, sAt (vInt .i64)), (25, sAgg [(vInt .u32), (vInt .u32), (vInt .u32), (vInt .u32)]), (26, sAt (vInt .i64))] [bArr DD 4 4 C.u64, bArr DD 5 8 C.u64, bArr DD 7 4 C.u32] (fun _ => by kernel_rfl))
noncomputable def limb_Mul.l8.o : OLay U ((Int × Int × Int × Int × Int × Int × Int × List Int × List Int × List Int)) := oExit 2 (lay [(4, sPtr 4 0), (5, sPtr 5 0), (7, sPtr 7 0), (8, sAt (vInt .i64)), (10, sAt (vInt .u64)), (20, sAgg [(vInt .u32), (vInt .u32), (vInt .u32), (vInt .u32)]), (21, sAt (vInt .i64))] [bArr DD 4 4 C.u64, bArr DD 5 8 C.u64, bArr DD 7 4 C.u32] (fun _ => by kernel_rfl))
noncomputable def limb_Mul.l4.i : Lay U (Int × Int × Int × Int × Int × List Int × List Int × List Int) := (lay [(4, sPtr 4 0), (5, sPtr 5 0), (7, sPtr 7 0), (20, sAgg [(vInt .u32), (vInt .u32), (vInt .u32), (vInt .u32)]), (21, sAt (vInt .i64))] [bArr DD 4 4 C.u64, bArr DD 5 8 C.u64, bArr DD 7 4 C.u32] (fun _ => by kernel_rfl))
noncomputable def limb_Mul.l4.o : OLay U ((List Int × List Int)) := oExit 0 (lay [(4, sPtr 4 0), (5, sPtr 5 0)] [bArr DD 4 4 C.u64, bArr DD 5 8 C.u64] (fun _ => by kernel_rfl))
noncomputable def limb_Mul.l18.i : Lay U (Int × List Int × List Int × List Int) := (lay [(4, sPtr 4 0), (5, sPtr 5 0), (14, sPtr 14 0), (58, sAt (vInt .i64))] [bArr DD 4 4 C.u64, bArr DD 5 8 C.u64, bArr DD 14 4 C.u64] (fun _ => by kernel_rfl))
noncomputable def limb_Mul.l18.o : OLay U ((List Int × List Int)) := oExit 4 (lay [(4, sPtr 4 0), (14, sPtr 14 0)] [bArr DD 4 4 C.u64, bArr DD 14 4 C.u64] (fun _ => by kernel_rfl))
noncomputable def limb_Mul.E (k : Nat) : Env U := mkE Try.f80 [limb_halves.pk k] [] [(8, ldn limb_Mul.l8.i limb_Mul.l8.o (iter (limb_Mul.l8.once k) k)), (4, ldn limb_Mul.l4.i limb_Mul.l4.o (iter (limb_Mul.l4.once k) k)), (18, ldn limb_Mul.l18.i limb_Mul.l18.o (iter (limb_Mul.l18.once k) k))] [(91, (4, C.u64)), (150, (8, C.u64)), (152, (4, C.u32))] n0 n0 [] false n00 nl0 [] nli
theorem limb_Mul.l8.eq (k : Nat) (x : (Int × Int × Int × Int × Int × Int × Int × Int × Int × Int × Int × Int × Int × List Int × List Int × List Int)) : evC (limb_Mul.E k) (loopAt Try.f80 8) (limb_Mul.l8.i.put x) (headK limb_Mul.l8.i.un limb_Mul.l8.o.re) = limb_Mul.l8.once k x := by kernel_rfl
theorem limb_Mul.l8.sound (k : Nat) : LSound (limb_Mul.E k) Try.f80.ntmps Try.f80 (.loop (loopAt Try.f80 8)) (ldn limb_Mul.l8.i limb_Mul.l8.o (iter (limb_Mul.l8.once k) k)) :=
  loopP (mkE_ok _ _ _ _ _ _ _ _ _ _ _ _ _) mixed rfl (by kernel_rfl) (allL_of (l := []) (by kernel_rfl) allL_nil) limb_Mul.l8.i limb_Mul.l8.o (limb_Mul.l8.once k) k (limb_Mul.l8.eq k)
theorem limb_Mul.l4.eq (k : Nat) (x : (Int × Int × Int × Int × Int × List Int × List Int × List Int)) : evC (limb_Mul.E k) (loopAt Try.f80 4) (limb_Mul.l4.i.put x) (headK limb_Mul.l4.i.un limb_Mul.l4.o.re) = limb_Mul.l4.once k x := by kernel_rfl
theorem limb_Mul.l4.sound (k : Nat) : LSound (limb_Mul.E k) Try.f80.ntmps Try.f80 (.loop (loopAt Try.f80 4)) (ldn limb_Mul.l4.i limb_Mul.l4.o (iter (limb_Mul.l4.once k) k)) :=
  loopP (mkE_ok _ _ _ _ _ _ _ _ _ _ _ _ _) mixed rfl (by kernel_rfl) (allL_of (l := [.loop (loopAt Try.f80 8)]) (by kernel_rfl) (allL_cons (key := 8) (by kernel_rfl) rfl (limb_Mul.l8.sound k) allL_nil)) limb_Mul.l4.i limb_Mul.l4.o (limb_Mul.l4.once k) k (limb_Mul.l4.eq k)
theorem limb_Mul.l18.eq (k : Nat) (x : (Int × List Int × List Int × List Int)) : evC (limb_Mul.E k) (loopAt Try.f80 18) (limb_Mul.l18.i.put x) (headK limb_Mul.l18.i.un limb_Mul.l18.o.re) = limb_Mul.l18.once k x := by kernel_rfl
theorem limb_Mul.l18.sound (k : Nat) : LSound (limb_Mul.E k) Try.f80.ntmps Try.f80 (.loop (loopAt Try.f80 18)) (ldn limb_Mul.l18.i limb_Mul.l18.o (iter (limb_Mul.l18.once k) k)) :=
  loopP (mkE_ok _ _ _ _ _ _ _ _ _ _ _ _ _) mixed rfl (by kernel_rfl) (allL_of (l := []) (by kernel_rfl) allL_nil) limb_Mul.l18.i limb_Mul.l18.o (limb_Mul.l18.once k) k (limb_Mul.l18.eq k)
theorem limb_Mul.eq (k : Nat) (x : ((Int × Int) × (Int × Int))) : runF (limb_Mul.E k) (codeOf Try.f80) (limb_Mul.i.put x) limb_Mul.r.un = limb_Mul.f k (x.1) (x.2) := by kernel_rfl
theorem limb_Mul.sound (k : Nat) : Sound Try.prog DD 80 (limb_Mul.D k) :=
  funP (E := limb_Mul.E k) (fn := Try.f80) (c := codeOf Try.f80) (mkE_ok _ _ _ _ _ _ _ _ _ _ _ _ _) mixed rfl Try.func80 (by kernel_rfl) (by kernel_rfl) (allL_of (l := [.loop (loopAt Try.f80 4), .loop (loopAt Try.f80 18)]) (by kernel_rfl) (allL_cons (key := 4) (by kernel_rfl) rfl (limb_Mul.l4.sound k) (allL_cons (key := 18) (by kernel_rfl) rfl (limb_Mul.l18.sound k) allL_nil))) limb_Mul.i limb_Mul.r [] true (fun x => limb_Mul.f k (x.1) (x.2)) (fun _ _ => rfl) (by kernel_rfl) (limb_Mul.eq k)
noncomputable def limb_Mul.pk (k : Nat) : Pk Try.prog DD := ⟨80, limb_Mul.D k, limb_Mul.sound k, enter_of Try.func80 (by kernel_rfl) (by kernel_rfl)⟩
/-! ### pyx/limb.Short: function 82 -/
noncomputable def limb_Short.f (k : Nat) (a0 : (Int × Int × Int × Int)) : Option ((Int × Int) × Bool) := ((cond (a0.2.2.1 != 0) (some (true, a0.1, a0.2.1, a0.2.2.1, a0.2.2.2, 0, 0)) (some (a0.2.2.2 != 0, a0.1, a0.2.1, a0.2.2.1, a0.2.2.2, 0, 0))) : Option (Bool × Int × Int × Int × Int × Int × Int)).bind fun y8 => (cond (y8.1) (some ((0, 0), false)) (some ((y8.2.1, y8.2.2.1), true)))
noncomputable def limb_Short.i : Lay U (Int × Int × Int × Int) := (pcOne 0 (tAt (vCd (Cd.pair (Cd.int .u64) (Cd.pair (Cd.int .u64) (Cd.pair (Cd.int .u64) (Cd.int .u64))))))).lay (fun _ => by kernel_rfl)
noncomputable def limb_Short.r : Lay U ((Int × Int) × Bool) := (pcTup 0 (tqCons (tAt (vCd (Cd.pair (Cd.int .u64) (Cd.int .u64)))) (tqOne (tAt vBool)))).lay (fun _ => by kernel_rfl)
noncomputable def limb_Short.D (k : Nat) : FDen U := fdn limb_Short.i limb_Short.r Try.f82.ntmps [] true (fun x => limb_Short.f k (x)) (fun _ _ => rfl)
noncomputable def limb_Short.j1000 : Jk U := ⟨(Bool × Int × Int × Int × Int × Int × Int), oNorm (lay [(1, sPtr 1 0), (2, sPtr 2 0), (11, sAt vBool)] [bLit 1 [(vInt .u64), (vInt .u64), (vInt .u64), (vInt .u64)], bLit 2 [(vInt .u64), (vInt .u64)]] (fun _ => by kernel_rfl))⟩
noncomputable def limb_Short.E (k : Nat) : Env U := mkE Try.f82 [] [(1000, limb_Short.j1000)] [] [] n0 n0 [] false n00 nl0 [] nli
theorem limb_Short.eq (k : Nat) (x : (Int × Int × Int × Int)) : runF (limb_Short.E k) (codeOf Try.f82) (limb_Short.i.put x) limb_Short.r.un = limb_Short.f k (x) := by kernel_rfl
theorem limb_Short.sound (k : Nat) : Sound Try.prog DD 82 (limb_Short.D k) :=
  funP (E := limb_Short.E k) (fn := Try.f82) (c := codeOf Try.f82) (mkE_ok _ _ _ _ _ _ _ _ _ _ _ _ _) mixed rfl Try.func82 (by kernel_rfl) (by kernel_rfl) (allL_of (l := []) (by kernel_rfl) allL_nil) limb_Short.i limb_Short.r [] true (fun x => limb_Short.f k (x)) (fun _ _ => rfl) (by kernel_rfl) (limb_Short.eq k)
noncomputable def limb_Short.pk (k : Nat) : Pk Try.prog DD := ⟨82, limb_Short.D k, limb_Short.sound k, enter_of Try.func82 (by kernel_rfl) (by kernel_rfl)⟩
/-! ### pyx/limb.Ten: function 111 -/
noncomputable def limb_Ten.l5.once (k : Nat) (x : (Int × Int × Int × Int × Int × Int)) : Option ((Int × Int × Int × Int × Int × Int) ⊕ ((Int × Int × Int × Int))) := match x with | (x11, x12, x7, x8, x9, x10) => cond (decide (x12 < x11)) ((limb_Of.f k 10).bind fun t13 => ((limb_Mul.f k (x9, x10) (t13.1, t13.2)).bind fun t14 => ((limb_Short.f k (t14.1, t14.2.1, t14.2.2.1, t14.2.2.2)).bind fun t15 => (some (.inl (x11, IntKind.wrap .i64 (x12 + 1), x7, x8, t15.1.1, t15.1.2)))))) (some (.inr (x7, x8, x9, x10)))
noncomputable def limb_Ten.f (k : Nat) (a0 : Int) : Option ((Int × Int) × Bool) := ((cond (decide (a0 < 0)) (some (a0, true, 0, 0)) (some (a0, decide (a0 > 38), 0, 0))) : Option (Int × Bool × Int × Int)).bind fun y5 => (cond (y5.2.1) (some ((0, 0), false)) ((limb_Of.f k 1).bind fun t6 => ((iter (limb_Ten.l5.once k) k (y5.1, 0, y5.2.2.1, y5.2.2.2, t6.1, t6.2)).bind fun y20 => (some ((y20.2.2.1, y20.2.2.2), true)))))
noncomputable def limb_Ten.i : Lay U Int := (pcOne 0 (tAt (vInt .i64))).lay (fun _ => by kernel_rfl)
noncomputable def limb_Ten.r : Lay U ((Int × Int) × Bool) := (pcTup 0 (tqCons (tAt (vCd (Cd.pair (Cd.int .u64) (Cd.int .u64)))) (tqOne (tAt vBool)))).lay (fun _ => by kernel_rfl)
noncomputable def limb_Ten.D (k : Nat) : FDen U := fdn limb_Ten.i limb_Ten.r Try.f111.ntmps [] true (fun x => limb_Ten.f k (x)) (fun _ _ => rfl)
noncomputable def limb_Ten.l5.i : Lay U (Int × Int × Int × Int × Int × Int) := (lay [(2, sPtr 2 0), (4, sPtr 4 0), (13, sAt (vInt .i64)), (14, sAt (vInt .i64))] [bLit 2 [(vInt .u64), (vInt .u64)], bLit 4 [(vInt .u64), (vInt .u64)]] (fun _ => by kernel_rfl))
noncomputable def limb_Ten.l5.o : OLay U ((Int × Int × Int × Int)) := oExit 0 (lay [(2, sPtr 2 0), (4, sPtr 4 0)] [bLit 2 [(vInt .u64), (vInt .u64)], bLit 4 [(vInt .u64), (vInt .u64)]] (fun _ => by kernel_rfl))
noncomputable def limb_Ten.j1000 : Jk U := ⟨(Int × Bool × Int × Int), oNorm (lay [(2, sPtr 2 0), (0, sAt (vInt .i64)), (10, sAt vBool)] [bLit 2 [(vInt .u64), (vInt .u64)]] (fun _ => by kernel_rfl))⟩
noncomputable def limb_Ten.E (k : Nat) : Env U := mkE Try.f111 [limb_Of.pk k, limb_Mul.pk k, limb_Short.pk k] [(1000, limb_Ten.j1000)] [(5, ldn limb_Ten.l5.i limb_Ten.l5.o (iter (limb_Ten.l5.once k) k))] [] n0 n0 [] false n00 nl0 [] nli
theorem limb_Ten.l5.eq (k : Nat) (x : (Int × Int × Int × Int × Int × Int)) : evC (limb_Ten.E k) (loopAt Try.f111 5) (limb_Ten.l5.i.put x) (headK limb_Ten.l5.i.un limb_Ten.l5.o.re) = limb_Ten.l5.once k x := by kernel_rfl
theorem limb_Ten.l5.sound (k : Nat) : LSound (limb_Ten.E k) Try.f111.ntmps Try.f111 (.loop (loopAt Try.f111 5)) (ldn limb_Ten.l5.i limb_Ten.l5.o (iter (limb_Ten.l5.once k) k)) :=
  loopP (mkE_ok _ _ _ _ _ _ _ _ _ _ _ _ _) mixed rfl (by kernel_rfl) (allL_of (l := []) (by kernel_rfl) allL_nil) limb_Ten.l5.i limb_Ten.l5.o (limb_Ten.l5.once k) k (limb_Ten.l5.eq k)
theorem limb_Ten.eq (k : Nat) (x : Int) : runF (limb_Ten.E k) (codeOf Try.f111) (limb_Ten.i.put x) limb_Ten.r.un = limb_Ten.f k (x) := by kernel_rfl
theorem limb_Ten.sound (k : Nat) : Sound Try.prog DD 111 (limb_Ten.D k) :=
  funP (E := limb_Ten.E k) (fn := Try.f111) (c := codeOf Try.f111) (mkE_ok _ _ _ _ _ _ _ _ _ _ _ _ _) mixed rfl Try.func111 (by kernel_rfl) (by kernel_rfl) (allL_of (l := [.loop (loopAt Try.f111 5)]) (by kernel_rfl) (allL_cons (key := 5) (by kernel_rfl) rfl (limb_Ten.l5.sound k) allL_nil)) limb_Ten.i limb_Ten.r [] true (fun x => limb_Ten.f k (x)) (fun _ _ => rfl) (by kernel_rfl) (limb_Ten.eq k)
noncomputable def limb_Ten.pk (k : Nat) : Pk Try.prog DD := ⟨111, limb_Ten.D k, limb_Ten.sound k, enter_of Try.func111 (by kernel_rfl) (by kernel_rfl)⟩
/-! ### pyx/dec.ten: function 81 -/
noncomputable def dec_ten.f (k : Nat) (a0 : Int) : Option (Int × Int) := (limb_Ten.f k a0).bind fun t1 => (some (t1.1.1, t1.1.2))
noncomputable def dec_ten.i : Lay U Int := (pcOne 0 (tAt (vInt .i64))).lay (fun _ => by kernel_rfl)
noncomputable def dec_ten.r : Lay U (Int × Int) := (pcOne 0 (tAt (vCd (Cd.pair (Cd.int .u64) (Cd.int .u64))))).lay (fun _ => by kernel_rfl)
noncomputable def dec_ten.D (k : Nat) : FDen U := fdn dec_ten.i dec_ten.r Try.f81.ntmps [] true (fun x => dec_ten.f k (x)) (fun _ _ => rfl)
noncomputable def dec_ten.E (k : Nat) : Env U := mkE Try.f81 [limb_Ten.pk k] [] [] [] n0 n0 [] false n00 nl0 [] nli
theorem dec_ten.eq (k : Nat) (x : Int) : runF (dec_ten.E k) (codeOf Try.f81) (dec_ten.i.put x) dec_ten.r.un = dec_ten.f k (x) := by kernel_rfl
theorem dec_ten.sound (k : Nat) : Sound Try.prog DD 81 (dec_ten.D k) :=
  funP (E := dec_ten.E k) (fn := Try.f81) (c := codeOf Try.f81) (mkE_ok _ _ _ _ _ _ _ _ _ _ _ _ _) mixed rfl Try.func81 (by kernel_rfl) (by kernel_rfl) (allL_of (l := []) (by kernel_rfl) allL_nil) dec_ten.i dec_ten.r [] true (fun x => dec_ten.f k (x)) (fun _ _ => rfl) (by kernel_rfl) (dec_ten.eq k)
noncomputable def dec_ten.pk (k : Nat) : Pk Try.prog DD := ⟨81, dec_ten.D k, dec_ten.sound k, enter_of Try.func81 (by kernel_rfl) (by kernel_rfl)⟩
/-! ### pyx/limb.Cmp: function 109 -/
noncomputable def limb_Cmp.l2.once (k : Nat) (x : (Int × List Int × List Int)) : Option ((Int × List Int × List Int) ⊕ (Unit ⊕ Int)) := match x with | (x3, x1, x2) => cond (decide (x3 ≥ 0)) (cond (inb x3 2) (cond (Nat.blt (Int.toNat x3) 2) (cond (inb x3 2) (cond (Nat.blt (Int.toNat x3) 2) (cond ((List.getD x1 (Int.toNat x3) 0) != (List.getD x2 (Int.toNat x3) 0)) (cond (inb x3 2) (cond (Nat.blt (Int.toNat x3) 2) (cond (inb x3 2) (cond (Nat.blt (Int.toNat x3) 2) (cond (decide ((List.getD x1 (Int.toNat x3) 0) < (List.getD x2 (Int.toNat x3) 0))) (some (.inr (.inr (-1)))) (some (.inr (.inr 1)))) none) none) none) none) (some (.inl (IntKind.wrap .i64 (x3 - 1), x1, x2)))) none) none) none) none) (some (.inr (.inl ())))
noncomputable def limb_Cmp.f (k : Nat) (a0 : (Int × Int)) (a1 : (Int × Int)) : Option Int := (iter (limb_Cmp.l2.once k) k (1, [a0.1, a0.2], [a1.1, a1.2])).bind fun | .inl y5 => (some 0) | .inr y6 => (some y6)
noncomputable def limb_Cmp.i : Lay U ((Int × Int) × (Int × Int)) := (pcAnd (pcOne 0 (tAt (vCd (Cd.pair (Cd.int .u64) (Cd.int .u64))))) (pcOne 1 (tAt (vCd (Cd.pair (Cd.int .u64) (Cd.int .u64)))))).lay (fun _ => by kernel_rfl)
noncomputable def limb_Cmp.r : Lay U Int := (pcOne 0 (tAt (vInt .i64))).lay (fun _ => by kernel_rfl)
noncomputable def limb_Cmp.D (k : Nat) : FDen U := fdn limb_Cmp.i limb_Cmp.r Try.f109.ntmps [] true (fun x => limb_Cmp.f k (x.1) (x.2)) (fun _ _ => rfl)
noncomputable def limb_Cmp.l2.i : Lay U (Int × List Int × List Int) := (lay [(2, sPtr 2 0), (3, sPtr 3 0), (5, sAt (vInt .i64))] [bArr DD 2 2 C.u64, bArr DD 3 2 C.u64] (fun _ => by kernel_rfl))
noncomputable def limb_Cmp.l2.o : OLay U (Unit ⊕ Int) := oOr (oExit 0 (lay [] [] (fun _ => by kernel_rfl))) (oRet limb_Cmp.r)
noncomputable def limb_Cmp.E (k : Nat) : Env U := mkE Try.f109 [] [] [(2, ldn limb_Cmp.l2.i limb_Cmp.l2.o (iter (limb_Cmp.l2.once k) k))] [(35, (2, C.u64))] n0 n0 [] false n00 nl0 [] nli
theorem limb_Cmp.l2.eq (k : Nat) (x : (Int × List Int × List Int)) : evC (limb_Cmp.E k) (loopAt Try.f109 2) (limb_Cmp.l2.i.put x) (headK limb_Cmp.l2.i.un limb_Cmp.l2.o.re) = limb_Cmp.l2.once k x := by kernel_rfl
theorem limb_Cmp.l2.sound (k : Nat) : LSound (limb_Cmp.E k) Try.f109.ntmps Try.f109 (.loop (loopAt Try.f109 2)) (ldn limb_Cmp.l2.i limb_Cmp.l2.o (iter (limb_Cmp.l2.once k) k)) :=
  loopP (mkE_ok _ _ _ _ _ _ _ _ _ _ _ _ _) mixed rfl (by kernel_rfl) (allL_of (l := []) (by kernel_rfl) allL_nil) limb_Cmp.l2.i limb_Cmp.l2.o (limb_Cmp.l2.once k) k (limb_Cmp.l2.eq k)
theorem limb_Cmp.eq (k : Nat) (x : ((Int × Int) × (Int × Int))) : runF (limb_Cmp.E k) (codeOf Try.f109) (limb_Cmp.i.put x) limb_Cmp.r.un = limb_Cmp.f k (x.1) (x.2) := by kernel_rfl
theorem limb_Cmp.sound (k : Nat) : Sound Try.prog DD 109 (limb_Cmp.D k) :=
  funP (E := limb_Cmp.E k) (fn := Try.f109) (c := codeOf Try.f109) (mkE_ok _ _ _ _ _ _ _ _ _ _ _ _ _) mixed rfl Try.func109 (by kernel_rfl) (by kernel_rfl) (allL_of (l := [.loop (loopAt Try.f109 2)]) (by kernel_rfl) (allL_cons (key := 2) (by kernel_rfl) rfl (limb_Cmp.l2.sound k) allL_nil)) limb_Cmp.i limb_Cmp.r [] true (fun x => limb_Cmp.f k (x.1) (x.2)) (fun _ _ => rfl) (by kernel_rfl) (limb_Cmp.eq k)
noncomputable def limb_Cmp.pk (k : Nat) : Pk Try.prog DD := ⟨109, limb_Cmp.D k, limb_Cmp.sound k, enter_of Try.func109 (by kernel_rfl) (by kernel_rfl)⟩
/-! ### pyx/dec.small: function 79 -/
noncomputable def dec_small.f (k : Nat) (a0 : (Int × Int)) : Option Bool := (dec_ten.f k 30).bind fun t1 => ((limb_Cmp.f k (a0.1, a0.2) (t1.1, t1.2)).bind fun t2 => (some (decide (t2 < 0))))
noncomputable def dec_small.i : Lay U (Int × Int) := (pcOne 0 (tAt (vCd (Cd.pair (Cd.int .u64) (Cd.int .u64))))).lay (fun _ => by kernel_rfl)
noncomputable def dec_small.r : Lay U Bool := (pcOne 0 (tAt vBool)).lay (fun _ => by kernel_rfl)
noncomputable def dec_small.D (k : Nat) : FDen U := fdn dec_small.i dec_small.r Try.f79.ntmps [] true (fun x => dec_small.f k (x)) (fun _ _ => rfl)
noncomputable def dec_small.E (k : Nat) : Env U := mkE Try.f79 [dec_ten.pk k, limb_Cmp.pk k] [] [] [] n0 n0 [] false n00 nl0 [] nli
theorem dec_small.eq (k : Nat) (x : (Int × Int)) : runF (dec_small.E k) (codeOf Try.f79) (dec_small.i.put x) dec_small.r.un = dec_small.f k (x) := by kernel_rfl
theorem dec_small.sound (k : Nat) : Sound Try.prog DD 79 (dec_small.D k) :=
  funP (E := dec_small.E k) (fn := Try.f79) (c := codeOf Try.f79) (mkE_ok _ _ _ _ _ _ _ _ _ _ _ _ _) mixed rfl Try.func79 (by kernel_rfl) (by kernel_rfl) (allL_of (l := []) (by kernel_rfl) allL_nil) dec_small.i dec_small.r [] true (fun x => dec_small.f k (x)) (fun _ _ => rfl) (by kernel_rfl) (dec_small.eq k)
noncomputable def dec_small.pk (k : Nat) : Pk Try.prog DD := ⟨79, dec_small.D k, dec_small.sound k, enter_of Try.func79 (by kernel_rfl) (by kernel_rfl)⟩
/-! ### pyx/dec.nought: function 37 -/
noncomputable def dec_nought.f (k : Nat) (a0 : (Int × Int)) : Option Bool := some ((a0.1 == 0) && (a0.2 == 0))
noncomputable def dec_nought.i : Lay U (Int × Int) := (pcOne 0 (tAt (vCd (Cd.pair (Cd.int .u64) (Cd.int .u64))))).lay (fun _ => by kernel_rfl)
noncomputable def dec_nought.r : Lay U Bool := (pcOne 0 (tAt vBool)).lay (fun _ => by kernel_rfl)
noncomputable def dec_nought.D (k : Nat) : FDen U := fdn dec_nought.i dec_nought.r Try.f37.ntmps [] true (fun x => dec_nought.f k (x)) (fun _ _ => rfl)
noncomputable def dec_nought.E (k : Nat) : Env U := mkE Try.f37 [] [] [] [] n0 n0 [] false n00 nl0 [] nli
theorem dec_nought.eq (k : Nat) (x : (Int × Int)) : runF (dec_nought.E k) (codeOf Try.f37) (dec_nought.i.put x) dec_nought.r.un = dec_nought.f k (x) := by kernel_rfl
theorem dec_nought.sound (k : Nat) : Sound Try.prog DD 37 (dec_nought.D k) :=
  funP (E := dec_nought.E k) (fn := Try.f37) (c := codeOf Try.f37) (mkE_ok _ _ _ _ _ _ _ _ _ _ _ _ _) mixed rfl Try.func37 (by kernel_rfl) (by kernel_rfl) (allL_of (l := []) (by kernel_rfl) allL_nil) dec_nought.i dec_nought.r [] true (fun x => dec_nought.f k (x)) (fun _ _ => rfl) (by kernel_rfl) (dec_nought.eq k)
noncomputable def dec_nought.pk (k : Nat) : Pk Try.prog DD := ⟨37, dec_nought.D k, dec_nought.sound k, enter_of Try.func37 (by kernel_rfl) (by kernel_rfl)⟩
/-! ### pyx/dec.Right: function 36 -/
noncomputable def dec_Right.f (k : Nat) (a0 : Sapi_Dec) : Option Bool := (dec_small.f k (a0.f_C.1, a0.f_C.2)).bind fun t1 => (cond (t1) (cond (decide (a0.f_Scale ≥ 0)) (cond (decide (a0.f_Scale ≤ 9)) (cond (a0.f_Neg) ((dec_nought.f k (a0.f_C.1, a0.f_C.2)).bind fun t2 => (some (!t2))) (some true)) (some false)) (some false)) (some false))
noncomputable def dec_Right.i : Lay U Sapi_Dec := (pcOne 0 (tAt (vCd cd_Sapi_Dec))).lay (fun _ => by kernel_rfl)
noncomputable def dec_Right.r : Lay U Bool := (pcOne 0 (tAt vBool)).lay (fun _ => by kernel_rfl)
noncomputable def dec_Right.D (k : Nat) : FDen U := fdn dec_Right.i dec_Right.r Try.f36.ntmps [] true (fun x => dec_Right.f k (x)) (fun _ _ => rfl)
noncomputable def dec_Right.E (k : Nat) : Env U := mkE Try.f36 [dec_small.pk k, dec_nought.pk k] [] [] [] n0 n0 [] false n00 nl0 [] nli
theorem dec_Right.eq (k : Nat) (x : Sapi_Dec) : runF (dec_Right.E k) (codeOf Try.f36) (dec_Right.i.put x) dec_Right.r.un = dec_Right.f k (x) := by kernel_rfl
theorem dec_Right.sound (k : Nat) : Sound Try.prog DD 36 (dec_Right.D k) :=
  funP (E := dec_Right.E k) (fn := Try.f36) (c := codeOf Try.f36) (mkE_ok _ _ _ _ _ _ _ _ _ _ _ _ _) mixed rfl Try.func36 (by kernel_rfl) (by kernel_rfl) (allL_of (l := []) (by kernel_rfl) allL_nil) dec_Right.i dec_Right.r [] true (fun x => dec_Right.f k (x)) (fun _ _ => rfl) (by kernel_rfl) (dec_Right.eq k)
noncomputable def dec_Right.pk (k : Nat) : Pk Try.prog DD := ⟨36, dec_Right.D k, dec_Right.sound k, enter_of Try.func36 (by kernel_rfl) (by kernel_rfl)⟩
/-! ### pyx/dec.Sign: function 12 -/
noncomputable def dec_Sign.f (k : Nat) (a0 : Sapi_Dec) : Option Int := (((dec_Right.f k (⟨a0.f_Neg, (a0.f_C.1, a0.f_C.2), a0.f_Scale⟩ : Sapi_Dec)).bind fun t1 => (cond (!t1) (some (true, a0.f_Neg, a0.f_C.1, a0.f_C.2, a0.f_Scale)) ((dec_nought.f k (a0.f_C.1, a0.f_C.2)).bind fun t7 => (some (t7, a0.f_Neg, a0.f_C.1, a0.f_C.2, a0.f_Scale))))) : Option (Bool × Bool × Int × Int × Int)).bind fun y8 => (cond (y8.1) (some 0) (cond (y8.2.1) (some (-1)) (some 1)))
noncomputable def dec_Sign.i : Lay U Sapi_Dec := (pcOne 0 (tAt (vCd cd_Sapi_Dec))).lay (fun _ => by kernel_rfl)
noncomputable def dec_Sign.r : Lay U Int := (pcOne 0 (tAt (vInt .i64))).lay (fun _ => by kernel_rfl)
noncomputable def dec_Sign.D (k : Nat) : FDen U := fdn dec_Sign.i dec_Sign.r Try.f12.ntmps [] true (fun x => dec_Sign.f k (x)) (fun _ _ => rfl)
noncomputable def dec_Sign.j1000 : Jk U := ⟨(Bool × Bool × Int × Int × Int), oNorm (lay [(1, sPtr 1 0), (3, sAt vBool)] [bLit 1 [vBool, (vInt .u64), (vInt .u64), (vInt .i64)]] (fun _ => by kernel_rfl))⟩
noncomputable def dec_Sign.E (k : Nat) : Env U := mkE Try.f12 [dec_Right.pk k, dec_nought.pk k] [(1000, dec_Sign.j1000)] [] [] n0 n0 [] false n00 nl0 [] nli
theorem dec_Sign.eq (k : Nat) (x : Sapi_Dec) : runF (dec_Sign.E k) (codeOf Try.f12) (dec_Sign.i.put x) dec_Sign.r.un = dec_Sign.f k (x) := by kernel_rfl
theorem dec_Sign.sound (k : Nat) : Sound Try.prog DD 12 (dec_Sign.D k) :=
  funP (E := dec_Sign.E k) (fn := Try.f12) (c := codeOf Try.f12) (mkE_ok _ _ _ _ _ _ _ _ _ _ _ _ _) mixed rfl Try.func12 (by kernel_rfl) (by kernel_rfl) (allL_of (l := []) (by kernel_rfl) allL_nil) dec_Sign.i dec_Sign.r [] true (fun x => dec_Sign.f k (x)) (fun _ _ => rfl) (by kernel_rfl) (dec_Sign.eq k)
noncomputable def dec_Sign.pk (k : Nat) : Pk Try.prog DD := ⟨12, dec_Sign.D k, dec_Sign.sound k, enter_of Try.func12 (by kernel_rfl) (by kernel_rfl)⟩
/-! ### pyx/rate.New: function 18 -/
noncomputable def rate_New.f (k : Nat)  : Option Srate_Table := some (⟨([] : List (Srate_Key × Sapi_Dec))⟩ : Srate_Table)
noncomputable def rate_New.i : Lay U Unit := (pcUnit).lay (fun _ => by kernel_rfl)
noncomputable def rate_New.r : Lay U Srate_Table := (pcOne 0 (io_Srate_Table_m 3 6000000000000)).lay (fun _ => by kernel_rfl)
noncomputable def rate_New.D (k : Nat) : FDen U := fdn rate_New.i rate_New.r Try.f18.ntmps [] false (fun x => rate_New.f k ) (fun h => by cases h)
noncomputable def rate_New.E (k : Nat) : Env U := mkE Try.f18 [] [] [] [] n0 n0 [] false n00 nl0 [] nli
theorem rate_New.eq (k : Nat) (x : Unit) : runF (rate_New.E k) (codeOf Try.f18) (rate_New.i.put x) rate_New.r.un = rate_New.f k  := by kernel_rfl
theorem rate_New.sound (k : Nat) : Sound Try.prog DD 18 (rate_New.D k) :=
  funP (E := rate_New.E k) (fn := Try.f18) (c := codeOf Try.f18) (mkE_ok _ _ _ _ _ _ _ _ _ _ _ _ _) mixed rfl Try.func18 (by kernel_rfl) (by kernel_rfl) (allL_of (l := []) (by kernel_rfl) allL_nil) rate_New.i rate_New.r [] false (fun x => rate_New.f k ) (fun h => by cases h) (by kernel_rfl) (rate_New.eq k)
noncomputable def rate_New.pk (k : Nat) : Pk Try.prog DD := ⟨18, rate_New.D k, rate_New.sound k, enter_of Try.func18 (by kernel_rfl) (by kernel_rfl)⟩
/-! ### pyx/dec.Of: function 33 -/
noncomputable def dec_Of.f (k : Nat) (a0 : Int) (a1 : Int) : Option Sapi_Dec := ((cond (decide (a0 < 0)) (some (a0, a1, IntKind.wrap .u64 (0 - (IntKind.wrap .u64 (a0))), false, 0, 0, 0)) (some (a0, a1, IntKind.wrap .u64 (a0), false, 0, 0, 0))) : Option (Int × Int × Int × Bool × Int × Int × Int)).bind fun y8 => ((limb_Of.f k y8.2.2.1).bind fun t9 => (some (⟨decide (y8.1 < 0), (t9.1, t9.2), (if (if 9 < y8.2.1 then 9 else y8.2.1) > 0 then (if 9 < y8.2.1 then 9 else y8.2.1) else 0)⟩ : Sapi_Dec)))
noncomputable def dec_Of.i : Lay U (Int × Int) := (pcAnd (pcOne 0 (tAt (vInt .i64))) (pcOne 1 (tAt (vInt .i64)))).lay (fun _ => by kernel_rfl)
noncomputable def dec_Of.r : Lay U Sapi_Dec := (pcOne 0 (tAt (vCd cd_Sapi_Dec))).lay (fun _ => by kernel_rfl)
noncomputable def dec_Of.D (k : Nat) : FDen U := fdn dec_Of.i dec_Of.r Try.f33.ntmps [] true (fun x => dec_Of.f k (x.1) (x.2)) (fun _ _ => rfl)
noncomputable def dec_Of.j3001 : Jk U := ⟨(Int × Int × Int × Bool × Int × Int × Int), oNorm (lay [(4, sPtr 4 0), (0, sAt (vInt .i64)), (1, sAt (vInt .i64)), (5, sAt (vInt .u64))] [bLit 4 [vBool, (vInt .u64), (vInt .u64), (vInt .i64)]] (fun _ => by kernel_rfl))⟩
noncomputable def dec_Of.E (k : Nat) : Env U := mkE Try.f33 [limb_Of.pk k] [(3001, dec_Of.j3001)] [] [] n0 n0 [] false n00 nl0 [] nli
theorem dec_Of.eq (k : Nat) (x : (Int × Int)) : runF (dec_Of.E k) (codeOf Try.f33) (dec_Of.i.put x) dec_Of.r.un = dec_Of.f k (x.1) (x.2) := by kernel_rfl
theorem dec_Of.sound (k : Nat) : Sound Try.prog DD 33 (dec_Of.D k) :=
  funP (E := dec_Of.E k) (fn := Try.f33) (c := codeOf Try.f33) (mkE_ok _ _ _ _ _ _ _ _ _ _ _ _ _) mixed rfl Try.func33 (by kernel_rfl) (by kernel_rfl) (allL_of (l := []) (by kernel_rfl) allL_nil) dec_Of.i dec_Of.r [] true (fun x => dec_Of.f k (x.1) (x.2)) (fun _ _ => rfl) (by kernel_rfl) (dec_Of.eq k)
noncomputable def dec_Of.pk (k : Nat) : Pk Try.prog DD := ⟨33, dec_Of.D k, dec_Of.sound k, enter_of Try.func33 (by kernel_rfl) (by kernel_rfl)⟩
/-! ### pyx/dec.wide: function 38 -/
noncomputable def dec_wide.f (k : Nat) (a0 : Sapi_Dec) (a1 : Int) : Option (Int × Int × Int × Int) := (dec_ten.f k (IntKind.wrap .i64 (a1 - a0.f_Scale))).bind fun t1 => ((limb_Mul.f k (a0.f_C.1, a0.f_C.2) (t1.1, t1.2)).bind fun t2 => (some (t2.1, t2.2.1, t2.2.2.1, t2.2.2.2)))
noncomputable def dec_wide.i : Lay U (Sapi_Dec × Int) := (pcAnd (pcOne 0 (tAt (vCd cd_Sapi_Dec))) (pcOne 1 (tAt (vInt .i64)))).lay (fun _ => by kernel_rfl)
noncomputable def dec_wide.r : Lay U (Int × Int × Int × Int) := (pcOne 0 (tAt (vCd (Cd.pair (Cd.int .u64) (Cd.pair (Cd.int .u64) (Cd.pair (Cd.int .u64) (Cd.int .u64))))))).lay (fun _ => by kernel_rfl)
noncomputable def dec_wide.D (k : Nat) : FDen U := fdn dec_wide.i dec_wide.r Try.f38.ntmps [] true (fun x => dec_wide.f k (x.1) (x.2)) (fun _ _ => rfl)
noncomputable def dec_wide.E (k : Nat) : Env U := mkE Try.f38 [dec_ten.pk k, limb_Mul.pk k] [] [] [] n0 n0 [] false n00 nl0 [] nli
theorem dec_wide.eq (k : Nat) (x : (Sapi_Dec × Int)) : runF (dec_wide.E k) (codeOf Try.f38) (dec_wide.i.put x) dec_wide.r.un = dec_wide.f k (x.1) (x.2) := by kernel_rfl
theorem dec_wide.sound (k : Nat) : Sound Try.prog DD 38 (dec_wide.D k) :=
  funP (E := dec_wide.E k) (fn := Try.f38) (c := codeOf Try.f38) (mkE_ok _ _ _ _ _ _ _ _ _ _ _ _ _) mixed rfl Try.func38 (by kernel_rfl) (by kernel_rfl) (allL_of (l := []) (by kernel_rfl) allL_nil) dec_wide.i dec_wide.r [] true (fun x => dec_wide.f k (x.1) (x.2)) (fun _ _ => rfl) (by kernel_rfl) (dec_wide.eq k)
noncomputable def dec_wide.pk (k : Nat) : Pk Try.prog DD := ⟨38, dec_wide.D k, dec_wide.sound k, enter_of Try.func38 (by kernel_rfl) (by kernel_rfl)⟩
end
end Go.Proofs.Ytbchcjlllddlpaa
