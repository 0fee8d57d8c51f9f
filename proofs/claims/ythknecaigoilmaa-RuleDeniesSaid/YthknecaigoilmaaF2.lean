import Derived.Test.YthknecaigoilmaaF1
/-! Functions, told; their equations with the evaluator; that they are sound. Written by gen.py. -/
namespace Go.Proofs.Ythknecaigoilmaa
open Go Go.Ev
noncomputable section
set_option linter.unusedVariables false
set_option linter.unusedSimpArgs false
set_option maxRecDepth 100000
/-! ### pyx/limb.halves: function 66 -/
noncomputable def limb_halves.f (k : Nat) (a0 : (Int × Int)) : Option (Int × Int × Int × Int) := some (IntKind.wrap .u32 (a0.1), IntKind.wrap .u32 (Int.fdiv a0.1 (2 ^ 32)), IntKind.wrap .u32 (a0.2), IntKind.wrap .u32 (Int.fdiv a0.2 (2 ^ 32)))
noncomputable def limb_halves.un (s : St U) : Option (Int × Int) := match s.get 0 with | .agg [.flat (.int .u64 x1), .flat (.int .u64 x2)] => some (x1, x2) | _ => none
noncomputable def limb_halves.mk (x : (Int × Int)) : St U := ⟨[(0, .agg [.flat (.int .u64 x.1), .flat (.int .u64 x.2)])], []⟩
noncomputable def limb_halves.fin (y : (Int × Int × Int × Int)) : St U := ⟨[(0, .agg [.flat (.int .u32 y.1), .flat (.int .u32 y.2.1), .flat (.int .u32 y.2.2.1), .flat (.int .u32 y.2.2.2)])], []⟩
noncomputable def limb_halves.D (k : Nat) : FDen U := { X := (Int × Int), Y := (Int × Int × Int × Int), nt := 18, gh := [], un := limb_halves.un, f := fun x => limb_halves.f k (x), fin := limb_halves.fin, cl := true, clo := fun _ _ => rfl }
noncomputable def limb_halves.re (s : St U) : Option (Int × Int × Int × Int) := match s.get 0 with | .agg [.flat (.int .u32 x1), .flat (.int .u32 x2), .flat (.int .u32 x3), .flat (.int .u32 x4)] => some (x1, x2, x3, x4) | _ => none
noncomputable def limb_halves.jl : List (Nat × JDen U) := []
noncomputable def limb_halves.fl (k : Nat) : List (Nat × FDen U) := []
noncomputable def limb_halves.ll (k : Nat) : List (Nat × LDen U) := []
noncomputable def limb_halves.E (k : Nat) : Env U := { P := Try.prog, D := DD, fd := lk (limb_halves.fl k), ld := lk (limb_halves.ll k), jd := lk limb_halves.jl, mode := lk [], elc := lk ec, mpc := lk mc, rts := Try.f66.resultTypes.toList, dyn := fun t => false, vecs := fun d => false, results := Try.f66.results.toList, gh := [], own := false, io := fun g i => false }
theorem limb_halves.ok (k : Nat) : EnvOk (limb_halves.E k) := envOk lawful (limb_halves.fl k) (limb_halves.ll k) limb_halves.jl _ _ _ _ _ _ _ _ _ _ (by
  intro p hp
  simp [limb_halves.fl] at hp) (by
  intro p hp
  simp [limb_halves.jl] at hp)
theorem limb_halves.eq (k : Nat) (x : (Int × Int)) : runF (limb_halves.E k) (codeOf Try.f66) (limb_halves.mk x) limb_halves.re = (limb_halves.D k).f x := by kernel_rfl
theorem limb_halves.fit (s : St U) (x : (Int × Int)) (h : limb_halves.un s = some x) : Fits s (limb_halves.mk x) := by
  unfold limb_halves.un at h
  split at h
  · cases h
    refine fits_ren [] ?_ ?_ ren_nil rfl
    · exact List.forall_mem_cons.2 ⟨FV.one (FV.same (by assumption) rfl), fun _ hp => (List.not_mem_nil hp).elim⟩
    · exact fun _ hp => (List.not_mem_nil hp).elim
  · cases h
theorem limb_halves.fitR (s : St U) (y : (Int × Int × Int × Int)) (h : limb_halves.re s = some y) : Fits s (limb_halves.fin y) := by
  unfold limb_halves.re at h
  split at h
  · cases h
    refine fits_ren [] ?_ ?_ ren_nil rfl
    · exact List.forall_mem_cons.2 ⟨FV.one (FV.same (by assumption) rfl), fun _ hp => (List.not_mem_nil hp).elim⟩
    · exact fun _ hp => (List.not_mem_nil hp).elim
  · cases h
theorem limb_halves.sound (k : Nat) : Sound Try.prog DD 66 (limb_halves.D k) :=
  fun_sound (E := limb_halves.E k) (fn := Try.f66) (c := codeOf Try.f66) (limb_halves.ok k) mixed rfl Try.func66 (by kernel_rfl) (by kernel_rfl) (allL_of (l := []) (by kernel_rfl) allL_nil) (limb_halves.D k) limb_halves.mk limb_halves.re (by kernel_rfl) (by kernel_rfl) limb_halves.fit limb_halves.fitR (limb_halves.eq k)
/-! ### pyx/limb.Mul: function 25 -/
noncomputable def limb_Mul.l8.once (k : Nat) (x : (Int × Int × Int × Int × Int × Int × Int × Int × Int × Int × Int × Int × Int × List Int × List Int × List Int)) : Option ((Int × Int × Int × Int × Int × Int × Int × Int × Int × Int × Int × Int × Int × List Int × List Int × List Int) ⊕ ((Int × Int × Int × Int × Int × Int × Int × List Int × List Int × List Int))) := match x with | (x14, x15, x16, x17, x18, x19, x20, x21, x22, x23, x24, x25, x26, x11, x12, x13) => cond (decide (x26 < 4)) (cond (inb x26 4) (cond (inb (IntKind.wrap .i64 (x14 + x26)) 8) (cond (Nat.blt (Int.toNat (IntKind.wrap .i64 (x14 + x26))) 8) (cond (inb (IntKind.wrap .i64 (x14 + x26)) 8) (cond (Nat.blt (Int.toNat (IntKind.wrap .i64 (x14 + x26))) 8) (some (.inl (x14, x15, Int.fdiv (IntKind.wrap .u64 ((IntKind.wrap .u64 ((IntKind.wrap .u64 ((IntKind.wrap .u64 (x15)) * (IntKind.wrap .u64 (List.getD [x22, x23, x24, x25] (Int.toNat x26) 0)))) + (List.getD x12 (Int.toNat (IntKind.wrap .i64 (x14 + x26))) 0))) + x16)) (2 ^ 32), x17, x18, x19, x20, x21, x22, x23, x24, x25, IntKind.wrap .i64 (x26 + 1), x11, List.set x12 (Int.toNat (IntKind.wrap .i64 (x14 + x26))) (IntKind.wrap .u64 (IntKind.wrap .u32 (IntKind.wrap .u64 ((IntKind.wrap .u64 ((IntKind.wrap .u64 ((IntKind.wrap .u64 (x15)) * (IntKind.wrap .u64 (List.getD [x22, x23, x24, x25] (Int.toNat x26) 0)))) + (List.getD x12 (Int.toNat (IntKind.wrap .i64 (x14 + x26))) 0))) + x16)))), x13))) none) none) none) none) none) (some (.inr (x14, x16, x17, x18, x19, x20, x21, x11, x12, x13)))
noncomputable def limb_Mul.l4.once (k : Nat) (x : (Int × Int × Int × Int × Int × List Int × List Int × List Int)) : Option ((Int × Int × Int × Int × Int × List Int × List Int × List Int) ⊕ ((List Int × List Int))) := match x with | (x6, x7, x8, x9, x10, x3, x4, x5) => cond (decide (x10 < 4)) (cond (inb x10 4) ((iter (limb_Mul.l8.once k) k (x10, List.getD [x6, x7, x8, x9] (Int.toNat x10) 0, 0, x6, x7, x8, x9, x10, List.getD x5 0 0, List.getD x5 1 0, List.getD x5 2 0, List.getD x5 3 0, 0, x3, x4, x5)).bind fun y37 => (cond (inb (IntKind.wrap .i64 (y37.1 + 4)) 8) (cond (Nat.blt (Int.toNat (IntKind.wrap .i64 (y37.1 + 4))) 8) (some (.inl (y37.2.2.1, y37.2.2.2.1, y37.2.2.2.2.1, y37.2.2.2.2.2.1, IntKind.wrap .i64 (y37.2.2.2.2.2.2.1 + 1), y37.2.2.2.2.2.2.2.1, List.set y37.2.2.2.2.2.2.2.2.1 (Int.toNat (IntKind.wrap .i64 (y37.1 + 4))) y37.2.1, y37.2.2.2.2.2.2.2.2.2))) none) none)) none) (some (.inr (x3, x4)))
noncomputable def limb_Mul.l18.once (k : Nat) (x : (Int × List Int × List Int × List Int)) : Option ((Int × List Int × List Int × List Int) ⊕ ((List Int × List Int))) := match x with | (x44, x41, x42, x43) => cond (decide (x44 < 4)) (cond (inb (IntKind.wrap .i64 (2 * x44)) 8) (cond (Nat.blt (Int.toNat (IntKind.wrap .i64 (2 * x44))) 8) (cond (inb (IntKind.wrap .i64 ((IntKind.wrap .i64 (2 * x44)) + 1)) 8) (cond (Nat.blt (Int.toNat (IntKind.wrap .i64 ((IntKind.wrap .i64 (2 * x44)) + 1))) 8) (cond (inb x44 4) (cond (Nat.blt (Int.toNat x44) 4) (some (.inl (IntKind.wrap .i64 (x44 + 1), x41, x42, List.set x43 (Int.toNat x44) (bits .or .u64 (List.getD x42 (Int.toNat (IntKind.wrap .i64 (2 * x44))) 0) (IntKind.wrap .u64 ((List.getD x42 (Int.toNat (IntKind.wrap .i64 ((IntKind.wrap .i64 (2 * x44)) + 1))) 0) * 2 ^ 32)))))) none) none) none) none) none) none) (some (.inr (x41, x43)))
noncomputable def limb_Mul.f (k : Nat) (a0 : (Int × Int)) (a1 : (Int × Int)) : Option (Int × Int × Int × Int) := (limb_halves.f k (a0.1, a0.2)).bind fun t1 => ((limb_halves.f k (a1.1, a1.2)).bind fun t2 => ((iter (limb_Mul.l4.once k) k (List.getD [t1.1, t1.2.1, t1.2.2.1, t1.2.2.2] 0 0, List.getD [t1.1, t1.2.1, t1.2.2.1, t1.2.2.2] 1 0, List.getD [t1.1, t1.2.1, t1.2.2.1, t1.2.2.2] 2 0, List.getD [t1.1, t1.2.1, t1.2.2.1, t1.2.2.2] 3 0, 0, [0, 0, 0, 0], [0, 0, 0, 0, 0, 0, 0, 0], [t2.1, t2.2.1, t2.2.2.1, t2.2.2.2])).bind fun y40 => ((iter (limb_Mul.l18.once k) k (0, y40.1, y40.2, [0, 0, 0, 0])).bind fun y47 => (some (List.getD [List.getD y47.2 0 0, List.getD y47.2 1 0, List.getD y47.2 2 0, List.getD y47.2 3 0] 0 0, List.getD [List.getD y47.2 0 0, List.getD y47.2 1 0, List.getD y47.2 2 0, List.getD y47.2 3 0] 1 0, List.getD [List.getD y47.2 0 0, List.getD y47.2 1 0, List.getD y47.2 2 0, List.getD y47.2 3 0] 2 0, List.getD [List.getD y47.2 0 0, List.getD y47.2 1 0, List.getD y47.2 2 0, List.getD y47.2 3 0] 3 0)))))
noncomputable def limb_Mul.un (s : St U) : Option ((Int × Int) × (Int × Int)) := match s.get 0, s.get 1 with | .agg [.flat (.int .u64 x1), .flat (.int .u64 x2)], .agg [.flat (.int .u64 x3), .flat (.int .u64 x4)] => some ((x1, x2), (x3, x4)) | _, _ => none
noncomputable def limb_Mul.mk (x : ((Int × Int) × (Int × Int))) : St U := ⟨[(0, .agg [.flat (.int .u64 x.1.1), .flat (.int .u64 x.1.2)]), (1, .agg [.flat (.int .u64 x.2.1), .flat (.int .u64 x.2.2)])], []⟩
noncomputable def limb_Mul.fin (y : (Int × Int × Int × Int)) : St U := ⟨[(0, .agg [.flat (.int .u64 y.1), .flat (.int .u64 y.2.1), .flat (.int .u64 y.2.2.1), .flat (.int .u64 y.2.2.2)])], []⟩
noncomputable def limb_Mul.D (k : Nat) : FDen U := { X := ((Int × Int) × (Int × Int)), Y := (Int × Int × Int × Int), nt := 76, gh := [], un := limb_Mul.un, f := fun x => limb_Mul.f k (x.1) (x.2), fin := limb_Mul.fin, cl := true, clo := fun _ _ => rfl }
noncomputable def limb_Mul.re (s : St U) : Option (Int × Int × Int × Int) := match s.get 0 with | .agg [.flat (.int .u64 x1), .flat (.int .u64 x2), .flat (.int .u64 x3), .flat (.int .u64 x4)] => some (x1, x2, x3, x4) | _ => none
noncomputable def limb_Mul.l8.mk (x : (Int × Int × Int × Int × Int × Int × Int × Int × Int × Int × Int × Int × Int × List Int × List Int × List Int)) : St U := match x with | (x14, x15, x16, x17, x18, x19, x20, x21, x22, x23, x24, x25, x26, x11, x12, x13) => ⟨[(4, .ptr 4 0), (5, .ptr 5 0), (7, .ptr 7 0), (8, .flat (.int .i64 x14)), (9, .flat (.int .u32 x15)), (10, .flat (.int .u64 x16)), (20, .agg [.flat (.int .u32 x17), .flat (.int .u32 x18), .flat (.int .u32 x19), .flat (.int .u32 x20)]), (21, .flat (.int .i64 x21)), (25, .agg [.flat (.int .u32 x22), .flat (.int .u32 x23), .flat (.int .u32 x24), .flat (.int .u32 x25)]), (26, .flat (.int .i64 x26))], [(4, .arr 4 C.u64 x11), (5, .arr 8 C.u64 x12), (7, .arr 4 C.u32 x13)]⟩
noncomputable def limb_Mul.l8.un (s : St U) : Option (Int × Int × Int × Int × Int × Int × Int × Int × Int × Int × Int × Int × Int × List Int × List Int × List Int) := match s.get 4, s.get 5, s.get 7, s.get 8, s.get 9, s.get 10, s.get 20, s.get 21, s.get 25, s.get 26, lk s.o 4, lk s.o 5, lk s.o 7 with | .ptr 4 0, .ptr 5 0, .ptr 7 0, .flat (.int .i64 x14), .flat (.int .u32 x15), .flat (.int .u64 x16), .agg [.flat (.int .u32 x17), .flat (.int .u32 x18), .flat (.int .u32 x19), .flat (.int .u32 x20)], .flat (.int .i64 x21), .agg [.flat (.int .u32 x22), .flat (.int .u32 x23), .flat (.int .u32 x24), .flat (.int .u32 x25)], .flat (.int .i64 x26), some (.arr 4 C.u64 x11), some (.arr 8 C.u64 x12), some (.arr 4 C.u32 x13) => some (x14, x15, x16, x17, x18, x19, x20, x21, x22, x23, x24, x25, x26, x11, x12, x13) | _, _, _, _, _, _, _, _, _, _, _, _, _ => none
noncomputable def limb_Mul.l8.fin (y : (Int × Int × Int × Int × Int × Int × Int × List Int × List Int × List Int)) : Out U := match y with | (x30, x31, x32, x33, x34, x35, x36, x27, x28, x29) => .exit 2 ⟨[(4, .ptr 4 0), (5, .ptr 5 0), (7, .ptr 7 0), (8, .flat (.int .i64 x30)), (10, .flat (.int .u64 x31)), (20, .agg [.flat (.int .u32 x32), .flat (.int .u32 x33), .flat (.int .u32 x34), .flat (.int .u32 x35)]), (21, .flat (.int .i64 x36))], [(4, .arr 4 C.u64 x27), (5, .arr 8 C.u64 x28), (7, .arr 4 C.u32 x29)]⟩
noncomputable def limb_Mul.l8.finK {ρ : Type} (y : (Int × Int × Int × Int × Int × Int × Int × List Int × List Int × List Int)) (K : Out U → Option ρ) : Option ρ := match y with | (x30, x31, x32, x33, x34, x35, x36, x27, x28, x29) => K (.exit 2 ⟨[(4, .ptr 4 0), (5, .ptr 5 0), (7, .ptr 7 0), (8, .flat (.int .i64 x30)), (10, .flat (.int .u64 x31)), (20, .agg [.flat (.int .u32 x32), .flat (.int .u32 x33), .flat (.int .u32 x34), .flat (.int .u32 x35)]), (21, .flat (.int .i64 x36))], [(4, .arr 4 C.u64 x27), (5, .arr 8 C.u64 x28), (7, .arr 4 C.u32 x29)]⟩)
theorem limb_Mul.l8.finK_eq {ρ : Type} (y : (Int × Int × Int × Int × Int × Int × Int × List Int × List Int × List Int)) (K : Out U → Option ρ) : limb_Mul.l8.finK y K = K (limb_Mul.l8.fin y) := by
  unfold limb_Mul.l8.finK limb_Mul.l8.fin
  first | rfl | (split <;> rfl)
noncomputable def limb_Mul.l8.re : Out U → Option ((Int × Int × Int × Int × Int × Int × Int × List Int × List Int × List Int)) | .exit 2 s => (match s.get 4, s.get 5, s.get 7, s.get 8, s.get 10, s.get 20, s.get 21, lk s.o 4, lk s.o 5, lk s.o 7 with | .ptr 4 0, .ptr 5 0, .ptr 7 0, .flat (.int .i64 x30), .flat (.int .u64 x31), .agg [.flat (.int .u32 x32), .flat (.int .u32 x33), .flat (.int .u32 x34), .flat (.int .u32 x35)], .flat (.int .i64 x36), some (.arr 4 C.u64 x27), some (.arr 8 C.u64 x28), some (.arr 4 C.u32 x29) => some (x30, x31, x32, x33, x34, x35, x36, x27, x28, x29) | _, _, _, _, _, _, _, _, _, _ => none) | _ => none
noncomputable def limb_Mul.l8.L (k : Nat) : LDen U := { X := (Int × Int × Int × Int × Int × Int × Int × Int × Int × Int × Int × Int × Int × List Int × List Int × List Int), Y := (Int × Int × Int × Int × Int × Int × Int × List Int × List Int × List Int), un := limb_Mul.l8.un, f := iter (limb_Mul.l8.once k) k, fin := limb_Mul.l8.fin, finK := limb_Mul.l8.finK, finK_eq := limb_Mul.l8.finK_eq }
noncomputable def limb_Mul.l4.mk (x : (Int × Int × Int × Int × Int × List Int × List Int × List Int)) : St U := match x with | (x6, x7, x8, x9, x10, x3, x4, x5) => ⟨[(4, .ptr 4 0), (5, .ptr 5 0), (7, .ptr 7 0), (20, .agg [.flat (.int .u32 x6), .flat (.int .u32 x7), .flat (.int .u32 x8), .flat (.int .u32 x9)]), (21, .flat (.int .i64 x10))], [(4, .arr 4 C.u64 x3), (5, .arr 8 C.u64 x4), (7, .arr 4 C.u32 x5)]⟩
noncomputable def limb_Mul.l4.un (s : St U) : Option (Int × Int × Int × Int × Int × List Int × List Int × List Int) := match s.get 4, s.get 5, s.get 7, s.get 20, s.get 21, lk s.o 4, lk s.o 5, lk s.o 7 with | .ptr 4 0, .ptr 5 0, .ptr 7 0, .agg [.flat (.int .u32 x6), .flat (.int .u32 x7), .flat (.int .u32 x8), .flat (.int .u32 x9)], .flat (.int .i64 x10), some (.arr 4 C.u64 x3), some (.arr 8 C.u64 x4), some (.arr 4 C.u32 x5) => some (x6, x7, x8, x9, x10, x3, x4, x5) | _, _, _, _, _, _, _, _ => none
noncomputable def limb_Mul.l4.fin (y : (List Int × List Int)) : Out U := match y with | (x38, x39) => .exit 0 ⟨[(4, .ptr 4 0), (5, .ptr 5 0)], [(4, .arr 4 C.u64 x38), (5, .arr 8 C.u64 x39)]⟩
noncomputable def limb_Mul.l4.finK {ρ : Type} (y : (List Int × List Int)) (K : Out U → Option ρ) : Option ρ := match y with | (x38, x39) => K (.exit 0 ⟨[(4, .ptr 4 0), (5, .ptr 5 0)], [(4, .arr 4 C.u64 x38), (5, .arr 8 C.u64 x39)]⟩)
theorem limb_Mul.l4.finK_eq {ρ : Type} (y : (List Int × List Int)) (K : Out U → Option ρ) : limb_Mul.l4.finK y K = K (limb_Mul.l4.fin y) := by
  unfold limb_Mul.l4.finK limb_Mul.l4.fin
  first | rfl | (split <;> rfl)
noncomputable def limb_Mul.l4.re : Out U → Option ((List Int × List Int)) | .exit 0 s => (match s.get 4, s.get 5, lk s.o 4, lk s.o 5 with | .ptr 4 0, .ptr 5 0, some (.arr 4 C.u64 x38), some (.arr 8 C.u64 x39) => some (x38, x39) | _, _, _, _ => none) | _ => none
noncomputable def limb_Mul.l4.L (k : Nat) : LDen U := { X := (Int × Int × Int × Int × Int × List Int × List Int × List Int), Y := (List Int × List Int), un := limb_Mul.l4.un, f := iter (limb_Mul.l4.once k) k, fin := limb_Mul.l4.fin, finK := limb_Mul.l4.finK, finK_eq := limb_Mul.l4.finK_eq }
noncomputable def limb_Mul.l18.mk (x : (Int × List Int × List Int × List Int)) : St U := match x with | (x44, x41, x42, x43) => ⟨[(4, .ptr 4 0), (5, .ptr 5 0), (14, .ptr 14 0), (58, .flat (.int .i64 x44))], [(4, .arr 4 C.u64 x41), (5, .arr 8 C.u64 x42), (14, .arr 4 C.u64 x43)]⟩
noncomputable def limb_Mul.l18.un (s : St U) : Option (Int × List Int × List Int × List Int) := match s.get 4, s.get 5, s.get 14, s.get 58, lk s.o 4, lk s.o 5, lk s.o 14 with | .ptr 4 0, .ptr 5 0, .ptr 14 0, .flat (.int .i64 x44), some (.arr 4 C.u64 x41), some (.arr 8 C.u64 x42), some (.arr 4 C.u64 x43) => some (x44, x41, x42, x43) | _, _, _, _, _, _, _ => none
noncomputable def limb_Mul.l18.fin (y : (List Int × List Int)) : Out U := match y with | (x45, x46) => .exit 4 ⟨[(4, .ptr 4 0), (14, .ptr 14 0)], [(4, .arr 4 C.u64 x45), (14, .arr 4 C.u64 x46)]⟩
noncomputable def limb_Mul.l18.finK {ρ : Type} (y : (List Int × List Int)) (K : Out U → Option ρ) : Option ρ := match y with | (x45, x46) => K (.exit 4 ⟨[(4, .ptr 4 0), (14, .ptr 14 0)], [(4, .arr 4 C.u64 x45), (14, .arr 4 C.u64 x46)]⟩)
theorem limb_Mul.l18.finK_eq {ρ : Type} (y : (List Int × List Int)) (K : Out U → Option ρ) : limb_Mul.l18.finK y K = K (limb_Mul.l18.fin y) := by
  unfold limb_Mul.l18.finK limb_Mul.l18.fin
  first | rfl | (split <;> rfl)
noncomputable def limb_Mul.l18.re : Out U → Option ((List Int × List Int)) | .exit 4 s => (match s.get 4, s.get 14, lk s.o 4, lk s.o 14 with | .ptr 4 0, .ptr 14 0, some (.arr 4 C.u64 x45), some (.arr 4 C.u64 x46) => some (x45, x46) | _, _, _, _ => none) | _ => none
noncomputable def limb_Mul.l18.L (k : Nat) : LDen U := { X := (Int × List Int × List Int × List Int), Y := (List Int × List Int), un := limb_Mul.l18.un, f := iter (limb_Mul.l18.once k) k, fin := limb_Mul.l18.fin, finK := limb_Mul.l18.finK, finK_eq := limb_Mul.l18.finK_eq }
noncomputable def limb_Mul.jl : List (Nat × JDen U) := []
noncomputable def limb_Mul.fl (k : Nat) : List (Nat × FDen U) := [(66, limb_halves.D k)]
noncomputable def limb_Mul.ll (k : Nat) : List (Nat × LDen U) := [(8, limb_Mul.l8.L k), (4, limb_Mul.l4.L k), (18, limb_Mul.l18.L k)]
noncomputable def limb_Mul.E (k : Nat) : Env U := { P := Try.prog, D := DD, fd := lk (limb_Mul.fl k), ld := lk (limb_Mul.ll k), jd := lk limb_Mul.jl, mode := lk [(30, (4, C.u64)), (93, (8, C.u64)), (95, (4, C.u32))], elc := lk ec, mpc := lk mc, rts := Try.f25.resultTypes.toList, dyn := fun t => false, vecs := fun d => false, results := Try.f25.results.toList, gh := [], own := false, io := fun g i => false }
theorem limb_Mul.ok (k : Nat) : EnvOk (limb_Mul.E k) := envOk lawful (limb_Mul.fl k) (limb_Mul.ll k) limb_Mul.jl _ _ _ _ _ _ _ _ _ _ (by
  intro p hp
  simp only [limb_Mul.fl, List.mem_cons, List.not_mem_nil, or_false] at hp
  rcases hp with rfl
  · exact ⟨limb_halves.sound k, enter_of Try.func66 (by kernel_rfl) (by kernel_rfl)⟩) (by
  intro p hp
  simp [limb_Mul.jl] at hp)
theorem limb_Mul.l8.eq (k : Nat) (x : (Int × Int × Int × Int × Int × Int × Int × Int × Int × Int × Int × Int × Int × List Int × List Int × List Int)) : evC (limb_Mul.E k) (loopAt Try.f25 8) (limb_Mul.l8.mk x) (headK limb_Mul.l8.un limb_Mul.l8.re) = limb_Mul.l8.once k x := by kernel_rfl
theorem limb_Mul.l8.fit (s : St U) (x : (Int × Int × Int × Int × Int × Int × Int × Int × Int × Int × Int × Int × Int × List Int × List Int × List Int)) (h : limb_Mul.l8.un s = some x) : Fits s (limb_Mul.l8.mk x) := by
  unfold limb_Mul.l8.un at h
  split at h
  · cases h
    refine fits_ren [] ?_ ?_ ren_nil rfl
    · exact List.forall_mem_cons.2 ⟨FV.one (FV.ptr (by assumption)), List.forall_mem_cons.2 ⟨FV.one (FV.ptr (by assumption)), List.forall_mem_cons.2 ⟨FV.one (FV.ptr (by assumption)), List.forall_mem_cons.2 ⟨FV.one (FV.same (by assumption) rfl), List.forall_mem_cons.2 ⟨FV.one (FV.same (by assumption) rfl), List.forall_mem_cons.2 ⟨FV.one (FV.same (by assumption) rfl), List.forall_mem_cons.2 ⟨FV.one (FV.same (by assumption) rfl), List.forall_mem_cons.2 ⟨FV.one (FV.same (by assumption) rfl), List.forall_mem_cons.2 ⟨FV.one (FV.same (by assumption) rfl), List.forall_mem_cons.2 ⟨FV.one (FV.same (by assumption) rfl), fun _ hp => (List.not_mem_nil hp).elim⟩⟩⟩⟩⟩⟩⟩⟩⟩⟩
    · exact List.forall_mem_cons.2 ⟨(show lk (St.o _) 4 = some _ from by assumption), List.forall_mem_cons.2 ⟨(show lk (St.o _) 5 = some _ from by assumption), List.forall_mem_cons.2 ⟨(show lk (St.o _) 7 = some _ from by assumption), fun _ hp => (List.not_mem_nil hp).elim⟩⟩⟩
  · cases h
theorem limb_Mul.l8.fitO (o : Out U) (y : (Int × Int × Int × Int × Int × Int × Int × List Int × List Int × List Int)) (h : limb_Mul.l8.re o = some y) : FitsO o (limb_Mul.l8.fin y) := by
  unfold limb_Mul.l8.re at h
  split at h
  · split at h
    · cases h
      refine fitsO_exit (fits_ren [] ?_ ?_ ren_nil rfl)
      · exact List.forall_mem_cons.2 ⟨FV.one (FV.ptr (by assumption)), List.forall_mem_cons.2 ⟨FV.one (FV.ptr (by assumption)), List.forall_mem_cons.2 ⟨FV.one (FV.ptr (by assumption)), List.forall_mem_cons.2 ⟨FV.one (FV.same (by assumption) rfl), List.forall_mem_cons.2 ⟨FV.one (FV.same (by assumption) rfl), List.forall_mem_cons.2 ⟨FV.one (FV.same (by assumption) rfl), List.forall_mem_cons.2 ⟨FV.one (FV.same (by assumption) rfl), fun _ hp => (List.not_mem_nil hp).elim⟩⟩⟩⟩⟩⟩⟩
      · exact List.forall_mem_cons.2 ⟨(show lk (St.o _) 4 = some _ from by assumption), List.forall_mem_cons.2 ⟨(show lk (St.o _) 5 = some _ from by assumption), List.forall_mem_cons.2 ⟨(show lk (St.o _) 7 = some _ from by assumption), fun _ hp => (List.not_mem_nil hp).elim⟩⟩⟩
    · cases h
  · cases h
theorem limb_Mul.l8.sound (k : Nat) : LSound (limb_Mul.E k) Try.f25.ntmps Try.f25 (loopAt Try.f25 8) (limb_Mul.l8.L k) :=
  loop_sound (limb_Mul.ok k) mixed rfl (by kernel_rfl) (allL_of (l := []) (by kernel_rfl) allL_nil) limb_Mul.l8.un limb_Mul.l8.mk limb_Mul.l8.fin limb_Mul.l8.re (limb_Mul.l8.once k) k limb_Mul.l8.fit limb_Mul.l8.fitO (limb_Mul.l8.eq k) limb_Mul.l8.finK limb_Mul.l8.finK_eq
theorem limb_Mul.l4.eq (k : Nat) (x : (Int × Int × Int × Int × Int × List Int × List Int × List Int)) : evC (limb_Mul.E k) (loopAt Try.f25 4) (limb_Mul.l4.mk x) (headK limb_Mul.l4.un limb_Mul.l4.re) = limb_Mul.l4.once k x := by kernel_rfl
theorem limb_Mul.l4.fit (s : St U) (x : (Int × Int × Int × Int × Int × List Int × List Int × List Int)) (h : limb_Mul.l4.un s = some x) : Fits s (limb_Mul.l4.mk x) := by
  unfold limb_Mul.l4.un at h
  split at h
  · cases h
    refine fits_ren [] ?_ ?_ ren_nil rfl
    · exact List.forall_mem_cons.2 ⟨FV.one (FV.ptr (by assumption)), List.forall_mem_cons.2 ⟨FV.one (FV.ptr (by assumption)), List.forall_mem_cons.2 ⟨FV.one (FV.ptr (by assumption)), List.forall_mem_cons.2 ⟨FV.one (FV.same (by assumption) rfl), List.forall_mem_cons.2 ⟨FV.one (FV.same (by assumption) rfl), fun _ hp => (List.not_mem_nil hp).elim⟩⟩⟩⟩⟩
    · exact List.forall_mem_cons.2 ⟨(show lk (St.o _) 4 = some _ from by assumption), List.forall_mem_cons.2 ⟨(show lk (St.o _) 5 = some _ from by assumption), List.forall_mem_cons.2 ⟨(show lk (St.o _) 7 = some _ from by assumption), fun _ hp => (List.not_mem_nil hp).elim⟩⟩⟩
  · cases h
theorem limb_Mul.l4.fitO (o : Out U) (y : (List Int × List Int)) (h : limb_Mul.l4.re o = some y) : FitsO o (limb_Mul.l4.fin y) := by
  unfold limb_Mul.l4.re at h
  split at h
  · split at h
    · cases h
      refine fitsO_exit (fits_ren [] ?_ ?_ ren_nil rfl)
      · exact List.forall_mem_cons.2 ⟨FV.one (FV.ptr (by assumption)), List.forall_mem_cons.2 ⟨FV.one (FV.ptr (by assumption)), fun _ hp => (List.not_mem_nil hp).elim⟩⟩
      · exact List.forall_mem_cons.2 ⟨(show lk (St.o _) 4 = some _ from by assumption), List.forall_mem_cons.2 ⟨(show lk (St.o _) 5 = some _ from by assumption), fun _ hp => (List.not_mem_nil hp).elim⟩⟩
    · cases h
  · cases h
theorem limb_Mul.l4.sound (k : Nat) : LSound (limb_Mul.E k) Try.f25.ntmps Try.f25 (loopAt Try.f25 4) (limb_Mul.l4.L k) :=
  loop_sound (limb_Mul.ok k) mixed rfl (by kernel_rfl) (allL_of (l := [loopAt Try.f25 8]) (by kernel_rfl) (allL_cons (key := 8) (by kernel_rfl) rfl (limb_Mul.l8.sound k) allL_nil)) limb_Mul.l4.un limb_Mul.l4.mk limb_Mul.l4.fin limb_Mul.l4.re (limb_Mul.l4.once k) k limb_Mul.l4.fit limb_Mul.l4.fitO (limb_Mul.l4.eq k) limb_Mul.l4.finK limb_Mul.l4.finK_eq
theorem limb_Mul.l18.eq (k : Nat) (x : (Int × List Int × List Int × List Int)) : evC (limb_Mul.E k) (loopAt Try.f25 18) (limb_Mul.l18.mk x) (headK limb_Mul.l18.un limb_Mul.l18.re) = limb_Mul.l18.once k x := by kernel_rfl
theorem limb_Mul.l18.fit (s : St U) (x : (Int × List Int × List Int × List Int)) (h : limb_Mul.l18.un s = some x) : Fits s (limb_Mul.l18.mk x) := by
  unfold limb_Mul.l18.un at h
  split at h
  · cases h
    refine fits_ren [] ?_ ?_ ren_nil rfl
    · exact List.forall_mem_cons.2 ⟨FV.one (FV.ptr (by assumption)), List.forall_mem_cons.2 ⟨FV.one (FV.ptr (by assumption)), List.forall_mem_cons.2 ⟨FV.one (FV.ptr (by assumption)), List.forall_mem_cons.2 ⟨FV.one (FV.same (by assumption) rfl), fun _ hp => (List.not_mem_nil hp).elim⟩⟩⟩⟩
    · exact List.forall_mem_cons.2 ⟨(show lk (St.o _) 4 = some _ from by assumption), List.forall_mem_cons.2 ⟨(show lk (St.o _) 5 = some _ from by assumption), List.forall_mem_cons.2 ⟨(show lk (St.o _) 14 = some _ from by assumption), fun _ hp => (List.not_mem_nil hp).elim⟩⟩⟩
  · cases h
theorem limb_Mul.l18.fitO (o : Out U) (y : (List Int × List Int)) (h : limb_Mul.l18.re o = some y) : FitsO o (limb_Mul.l18.fin y) := by
  unfold limb_Mul.l18.re at h
  split at h
  · split at h
    · cases h
      refine fitsO_exit (fits_ren [] ?_ ?_ ren_nil rfl)
      · exact List.forall_mem_cons.2 ⟨FV.one (FV.ptr (by assumption)), List.forall_mem_cons.2 ⟨FV.one (FV.ptr (by assumption)), fun _ hp => (List.not_mem_nil hp).elim⟩⟩
      · exact List.forall_mem_cons.2 ⟨(show lk (St.o _) 4 = some _ from by assumption), List.forall_mem_cons.2 ⟨(show lk (St.o _) 14 = some _ from by assumption), fun _ hp => (List.not_mem_nil hp).elim⟩⟩
    · cases h
  · cases h
theorem limb_Mul.l18.sound (k : Nat) : LSound (limb_Mul.E k) Try.f25.ntmps Try.f25 (loopAt Try.f25 18) (limb_Mul.l18.L k) :=
  loop_sound (limb_Mul.ok k) mixed rfl (by kernel_rfl) (allL_of (l := []) (by kernel_rfl) allL_nil) limb_Mul.l18.un limb_Mul.l18.mk limb_Mul.l18.fin limb_Mul.l18.re (limb_Mul.l18.once k) k limb_Mul.l18.fit limb_Mul.l18.fitO (limb_Mul.l18.eq k) limb_Mul.l18.finK limb_Mul.l18.finK_eq
theorem limb_Mul.eq (k : Nat) (x : ((Int × Int) × (Int × Int))) : runF (limb_Mul.E k) (codeOf Try.f25) (limb_Mul.mk x) limb_Mul.re = (limb_Mul.D k).f x := by kernel_rfl
theorem limb_Mul.fit (s : St U) (x : ((Int × Int) × (Int × Int))) (h : limb_Mul.un s = some x) : Fits s (limb_Mul.mk x) := by
  unfold limb_Mul.un at h
  split at h
  · cases h
    refine fits_ren [] ?_ ?_ ren_nil rfl
    · exact List.forall_mem_cons.2 ⟨FV.one (FV.same (by assumption) rfl), List.forall_mem_cons.2 ⟨FV.one (FV.same (by assumption) rfl), fun _ hp => (List.not_mem_nil hp).elim⟩⟩
    · exact fun _ hp => (List.not_mem_nil hp).elim
  · cases h
theorem limb_Mul.fitR (s : St U) (y : (Int × Int × Int × Int)) (h : limb_Mul.re s = some y) : Fits s (limb_Mul.fin y) := by
  unfold limb_Mul.re at h
  split at h
  · cases h
    refine fits_ren [] ?_ ?_ ren_nil rfl
    · exact List.forall_mem_cons.2 ⟨FV.one (FV.same (by assumption) rfl), fun _ hp => (List.not_mem_nil hp).elim⟩
    · exact fun _ hp => (List.not_mem_nil hp).elim
  · cases h
theorem limb_Mul.sound (k : Nat) : Sound Try.prog DD 25 (limb_Mul.D k) :=
  fun_sound (E := limb_Mul.E k) (fn := Try.f25) (c := codeOf Try.f25) (limb_Mul.ok k) mixed rfl Try.func25 (by kernel_rfl) (by kernel_rfl) (allL_of (l := [loopAt Try.f25 4, loopAt Try.f25 18]) (by kernel_rfl) (allL_cons (key := 4) (by kernel_rfl) rfl (limb_Mul.l4.sound k) (allL_cons (key := 18) (by kernel_rfl) rfl (limb_Mul.l18.sound k) allL_nil))) (limb_Mul.D k) limb_Mul.mk limb_Mul.re (by kernel_rfl) (by kernel_rfl) limb_Mul.fit limb_Mul.fitR (limb_Mul.eq k)
/-! ### pyx/limb.Short: function 29 -/
noncomputable def limb_Short.f (k : Nat) (a0 : (Int × Int × Int × Int)) : Option ((Int × Int) × Bool) := ((cond (a0.2.2.1 != 0) (some (true, a0.1, a0.2.1, a0.2.2.1, a0.2.2.2, 0, 0)) (some (a0.2.2.2 != 0, a0.1, a0.2.1, a0.2.2.1, a0.2.2.2, 0, 0))) : Option (Bool × Int × Int × Int × Int × Int × Int)).bind fun y8 => (cond (y8.1) (some ((0, 0), false)) (some ((y8.2.1, y8.2.2.1), true)))
noncomputable def limb_Short.un (s : St U) : Option (Int × Int × Int × Int) := match s.get 0 with | .agg [.flat (.int .u64 x1), .flat (.int .u64 x2), .flat (.int .u64 x3), .flat (.int .u64 x4)] => some (x1, x2, x3, x4) | _ => none
noncomputable def limb_Short.mk (x : (Int × Int × Int × Int)) : St U := ⟨[(0, .agg [.flat (.int .u64 x.1), .flat (.int .u64 x.2.1), .flat (.int .u64 x.2.2.1), .flat (.int .u64 x.2.2.2)])], []⟩
noncomputable def limb_Short.fin (y : ((Int × Int) × Bool)) : St U := ⟨[(0, .tup [.agg [.flat (.int .u64 y.1.1), .flat (.int .u64 y.1.2)], .flat (.bool y.2)])], []⟩
noncomputable def limb_Short.D (k : Nat) : FDen U := { X := (Int × Int × Int × Int), Y := ((Int × Int) × Bool), nt := 18, gh := [], un := limb_Short.un, f := fun x => limb_Short.f k (x), fin := limb_Short.fin, cl := true, clo := fun _ _ => rfl }
noncomputable def limb_Short.re (s : St U) : Option ((Int × Int) × Bool) := match s.get 0 with | .tup [.agg [.flat (.int .u64 x1), .flat (.int .u64 x2)], .flat (.bool x3)] => some ((x1, x2), x3) | _ => none
noncomputable def limb_Short.j1000.fin (y : (Bool × Int × Int × Int × Int × Int × Int)) : Out U := match y with | (x7, x1, x2, x3, x4, x5, x6) => .norm ⟨[(1, .ptr 1 0), (2, .ptr 2 0), (11, .flat (.bool x7))], [(1, .lit [.flat (.int .u64 x1), .flat (.int .u64 x2), .flat (.int .u64 x3), .flat (.int .u64 x4)]), (2, .lit [.flat (.int .u64 x5), .flat (.int .u64 x6)])]⟩
noncomputable def limb_Short.j1000.finK {ρ : Type} (y : (Bool × Int × Int × Int × Int × Int × Int)) (K : Out U → Option ρ) : Option ρ := match y with | (x7, x1, x2, x3, x4, x5, x6) => K (.norm ⟨[(1, .ptr 1 0), (2, .ptr 2 0), (11, .flat (.bool x7))], [(1, .lit [.flat (.int .u64 x1), .flat (.int .u64 x2), .flat (.int .u64 x3), .flat (.int .u64 x4)]), (2, .lit [.flat (.int .u64 x5), .flat (.int .u64 x6)])]⟩)
theorem limb_Short.j1000.finK_eq {ρ : Type} (y : (Bool × Int × Int × Int × Int × Int × Int)) (K : Out U → Option ρ) : limb_Short.j1000.finK y K = K (limb_Short.j1000.fin y) := by
  unfold limb_Short.j1000.finK limb_Short.j1000.fin
  first | rfl | (split <;> rfl)
noncomputable def limb_Short.j1000.re : Out U → Option ((Bool × Int × Int × Int × Int × Int × Int)) | .norm s => (match s.get 1, s.get 2, s.get 11, lk s.o 1, lk s.o 2 with | .ptr 1 0, .ptr 2 0, .flat (.bool x7), some (.lit [.flat (.int .u64 x1), .flat (.int .u64 x2), .flat (.int .u64 x3), .flat (.int .u64 x4)]), some (.lit [.flat (.int .u64 x5), .flat (.int .u64 x6)]) => some (x7, x1, x2, x3, x4, x5, x6) | _, _, _, _, _ => none) | _ => none
noncomputable def limb_Short.j1000.J : JDen U := { Y := (Bool × Int × Int × Int × Int × Int × Int), re := limb_Short.j1000.re, fin := limb_Short.j1000.fin, finK := limb_Short.j1000.finK, finK_eq := limb_Short.j1000.finK_eq }
theorem limb_Short.j1000.fit (o : Out U) (y : (Bool × Int × Int × Int × Int × Int × Int)) (h : limb_Short.j1000.re o = some y) : FitsO o (limb_Short.j1000.fin y) := by
  unfold limb_Short.j1000.re at h
  split at h
  · split at h
    · cases h
      refine fitsO_norm (fits_ren [] ?_ ?_ ren_nil rfl)
      · exact List.forall_mem_cons.2 ⟨FV.one (FV.ptr (by assumption)), List.forall_mem_cons.2 ⟨FV.one (FV.ptr (by assumption)), List.forall_mem_cons.2 ⟨FV.one (FV.same (by assumption) rfl), fun _ hp => (List.not_mem_nil hp).elim⟩⟩⟩
      · exact List.forall_mem_cons.2 ⟨(FO.same (show lk (St.o _) 1 = some _ from by assumption) rfl), List.forall_mem_cons.2 ⟨(FO.same (show lk (St.o _) 2 = some _ from by assumption) rfl), fun _ hp => (List.not_mem_nil hp).elim⟩⟩
    · cases h
  · cases h
noncomputable def limb_Short.jl : List (Nat × JDen U) := [(1000, limb_Short.j1000.J)]
noncomputable def limb_Short.fl (k : Nat) : List (Nat × FDen U) := []
noncomputable def limb_Short.ll (k : Nat) : List (Nat × LDen U) := []
noncomputable def limb_Short.E (k : Nat) : Env U := { P := Try.prog, D := DD, fd := lk (limb_Short.fl k), ld := lk (limb_Short.ll k), jd := lk limb_Short.jl, mode := lk [], elc := lk ec, mpc := lk mc, rts := Try.f29.resultTypes.toList, dyn := fun t => false, vecs := fun d => false, results := Try.f29.results.toList, gh := [], own := false, io := fun g i => false }
theorem limb_Short.ok (k : Nat) : EnvOk (limb_Short.E k) := envOk lawful (limb_Short.fl k) (limb_Short.ll k) limb_Short.jl _ _ _ _ _ _ _ _ _ _ (by
  intro p hp
  simp [limb_Short.fl] at hp) (by
  intro p hp
  simp only [limb_Short.jl, List.mem_cons, List.not_mem_nil, or_false] at hp
  rcases hp with rfl
  · exact limb_Short.j1000.fit)
theorem limb_Short.eq (k : Nat) (x : (Int × Int × Int × Int)) : runF (limb_Short.E k) (codeOf Try.f29) (limb_Short.mk x) limb_Short.re = (limb_Short.D k).f x := by kernel_rfl
theorem limb_Short.fit (s : St U) (x : (Int × Int × Int × Int)) (h : limb_Short.un s = some x) : Fits s (limb_Short.mk x) := by
  unfold limb_Short.un at h
  split at h
  · cases h
    refine fits_ren [] ?_ ?_ ren_nil rfl
    · exact List.forall_mem_cons.2 ⟨FV.one (FV.same (by assumption) rfl), fun _ hp => (List.not_mem_nil hp).elim⟩
    · exact fun _ hp => (List.not_mem_nil hp).elim
  · cases h
theorem limb_Short.fitR (s : St U) (y : ((Int × Int) × Bool)) (h : limb_Short.re s = some y) : Fits s (limb_Short.fin y) := by
  unfold limb_Short.re at h
  split at h
  · cases h
    refine fits_ren [] ?_ ?_ ren_nil rfl
    · exact List.forall_mem_cons.2 ⟨FV.tup (by assumption) (FTs.cons (FVA.one (FV.same rfl rfl)) (FTs.cons (FVA.one (FV.same rfl rfl)) (FTs.nil))), fun _ hp => (List.not_mem_nil hp).elim⟩
    · exact fun _ hp => (List.not_mem_nil hp).elim
  · cases h
theorem limb_Short.sound (k : Nat) : Sound Try.prog DD 29 (limb_Short.D k) :=
  fun_sound (E := limb_Short.E k) (fn := Try.f29) (c := codeOf Try.f29) (limb_Short.ok k) mixed rfl Try.func29 (by kernel_rfl) (by kernel_rfl) (allL_of (l := []) (by kernel_rfl) allL_nil) (limb_Short.D k) limb_Short.mk limb_Short.re (by kernel_rfl) (by kernel_rfl) limb_Short.fit limb_Short.fitR (limb_Short.eq k)
/-! ### pyx/limb.Ten: function 28 -/
noncomputable def limb_Ten.l5.once (k : Nat) (x : (Int × Int × Int × Int × Int × Int)) : Option ((Int × Int × Int × Int × Int × Int) ⊕ ((Int × Int × Int × Int))) := match x with | (x11, x12, x7, x8, x9, x10) => cond (decide (x12 < x11)) ((limb_Of.f k 10).bind fun t13 => ((limb_Mul.f k (x9, x10) (t13.1, t13.2)).bind fun t14 => ((limb_Short.f k (t14.1, t14.2.1, t14.2.2.1, t14.2.2.2)).bind fun t15 => (some (.inl (x11, IntKind.wrap .i64 (x12 + 1), x7, x8, t15.1.1, t15.1.2)))))) (some (.inr (x7, x8, x9, x10)))
noncomputable def limb_Ten.f (k : Nat) (a0 : Int) : Option ((Int × Int) × Bool) := ((cond (decide (a0 < 0)) (some (a0, true, 0, 0)) (some (a0, decide (a0 > 38), 0, 0))) : Option (Int × Bool × Int × Int)).bind fun y5 => (cond (y5.2.1) (some ((0, 0), false)) ((limb_Of.f k 1).bind fun t6 => ((iter (limb_Ten.l5.once k) k (y5.1, 0, y5.2.2.1, y5.2.2.2, t6.1, t6.2)).bind fun y20 => (some ((y20.2.2.1, y20.2.2.2), true)))))
noncomputable def limb_Ten.un (s : St U) : Option Int := match s.get 0 with | .flat (.int .i64 x1) => some x1 | _ => none
noncomputable def limb_Ten.mk (x : Int) : St U := ⟨[(0, .flat (.int .i64 x))], []⟩
noncomputable def limb_Ten.fin (y : ((Int × Int) × Bool)) : St U := ⟨[(0, .tup [.agg [.flat (.int .u64 y.1.1), .flat (.int .u64 y.1.2)], .flat (.bool y.2)])], []⟩
noncomputable def limb_Ten.D (k : Nat) : FDen U := { X := Int, Y := ((Int × Int) × Bool), nt := 25, gh := [], un := limb_Ten.un, f := fun x => limb_Ten.f k (x), fin := limb_Ten.fin, cl := true, clo := fun _ _ => rfl }
noncomputable def limb_Ten.re (s : St U) : Option ((Int × Int) × Bool) := match s.get 0 with | .tup [.agg [.flat (.int .u64 x1), .flat (.int .u64 x2)], .flat (.bool x3)] => some ((x1, x2), x3) | _ => none
noncomputable def limb_Ten.l5.mk (x : (Int × Int × Int × Int × Int × Int)) : St U := match x with | (x11, x12, x7, x8, x9, x10) => ⟨[(2, .ptr 2 0), (4, .ptr 4 0), (13, .flat (.int .i64 x11)), (14, .flat (.int .i64 x12))], [(2, .lit [.flat (.int .u64 x7), .flat (.int .u64 x8)]), (4, .lit [.flat (.int .u64 x9), .flat (.int .u64 x10)])]⟩
noncomputable def limb_Ten.l5.un (s : St U) : Option (Int × Int × Int × Int × Int × Int) := match s.get 2, s.get 4, s.get 13, s.get 14, lk s.o 2, lk s.o 4 with | .ptr 2 0, .ptr 4 0, .flat (.int .i64 x11), .flat (.int .i64 x12), some (.lit [.flat (.int .u64 x7), .flat (.int .u64 x8)]), some (.lit [.flat (.int .u64 x9), .flat (.int .u64 x10)]) => some (x11, x12, x7, x8, x9, x10) | _, _, _, _, _, _ => none
noncomputable def limb_Ten.l5.fin (y : (Int × Int × Int × Int)) : Out U := match y with | (x16, x17, x18, x19) => .exit 0 ⟨[(2, .ptr 2 0), (4, .ptr 4 0)], [(2, .lit [.flat (.int .u64 x16), .flat (.int .u64 x17)]), (4, .lit [.flat (.int .u64 x18), .flat (.int .u64 x19)])]⟩
noncomputable def limb_Ten.l5.finK {ρ : Type} (y : (Int × Int × Int × Int)) (K : Out U → Option ρ) : Option ρ := match y with | (x16, x17, x18, x19) => K (.exit 0 ⟨[(2, .ptr 2 0), (4, .ptr 4 0)], [(2, .lit [.flat (.int .u64 x16), .flat (.int .u64 x17)]), (4, .lit [.flat (.int .u64 x18), .flat (.int .u64 x19)])]⟩)
theorem limb_Ten.l5.finK_eq {ρ : Type} (y : (Int × Int × Int × Int)) (K : Out U → Option ρ) : limb_Ten.l5.finK y K = K (limb_Ten.l5.fin y) := by
  unfold limb_Ten.l5.finK limb_Ten.l5.fin
  first | rfl | (split <;> rfl)
noncomputable def limb_Ten.l5.re : Out U → Option ((Int × Int × Int × Int)) | .exit 0 s => (match s.get 2, s.get 4, lk s.o 2, lk s.o 4 with | .ptr 2 0, .ptr 4 0, some (.lit [.flat (.int .u64 x16), .flat (.int .u64 x17)]), some (.lit [.flat (.int .u64 x18), .flat (.int .u64 x19)]) => some (x16, x17, x18, x19) | _, _, _, _ => none) | _ => none
noncomputable def limb_Ten.l5.L (k : Nat) : LDen U := { X := (Int × Int × Int × Int × Int × Int), Y := (Int × Int × Int × Int), un := limb_Ten.l5.un, f := iter (limb_Ten.l5.once k) k, fin := limb_Ten.l5.fin, finK := limb_Ten.l5.finK, finK_eq := limb_Ten.l5.finK_eq }
noncomputable def limb_Ten.j1000.fin (y : (Int × Bool × Int × Int)) : Out U := match y with | (x1, x4, x2, x3) => .norm ⟨[(2, .ptr 2 0), (0, .flat (.int .i64 x1)), (10, .flat (.bool x4))], [(2, .lit [.flat (.int .u64 x2), .flat (.int .u64 x3)])]⟩
noncomputable def limb_Ten.j1000.finK {ρ : Type} (y : (Int × Bool × Int × Int)) (K : Out U → Option ρ) : Option ρ := match y with | (x1, x4, x2, x3) => K (.norm ⟨[(2, .ptr 2 0), (0, .flat (.int .i64 x1)), (10, .flat (.bool x4))], [(2, .lit [.flat (.int .u64 x2), .flat (.int .u64 x3)])]⟩)
theorem limb_Ten.j1000.finK_eq {ρ : Type} (y : (Int × Bool × Int × Int)) (K : Out U → Option ρ) : limb_Ten.j1000.finK y K = K (limb_Ten.j1000.fin y) := by
  unfold limb_Ten.j1000.finK limb_Ten.j1000.fin
  first | rfl | (split <;> rfl)
noncomputable def limb_Ten.j1000.re : Out U → Option ((Int × Bool × Int × Int)) | .norm s => (match s.get 2, s.get 0, s.get 10, lk s.o 2 with | .ptr 2 0, .flat (.int .i64 x1), .flat (.bool x4), some (.lit [.flat (.int .u64 x2), .flat (.int .u64 x3)]) => some (x1, x4, x2, x3) | _, _, _, _ => none) | _ => none
noncomputable def limb_Ten.j1000.J : JDen U := { Y := (Int × Bool × Int × Int), re := limb_Ten.j1000.re, fin := limb_Ten.j1000.fin, finK := limb_Ten.j1000.finK, finK_eq := limb_Ten.j1000.finK_eq }
theorem limb_Ten.j1000.fit (o : Out U) (y : (Int × Bool × Int × Int)) (h : limb_Ten.j1000.re o = some y) : FitsO o (limb_Ten.j1000.fin y) := by
  unfold limb_Ten.j1000.re at h
  split at h
  · split at h
    · cases h
      refine fitsO_norm (fits_ren [] ?_ ?_ ren_nil rfl)
      · exact List.forall_mem_cons.2 ⟨FV.one (FV.ptr (by assumption)), List.forall_mem_cons.2 ⟨FV.one (FV.same (by assumption) rfl), List.forall_mem_cons.2 ⟨FV.one (FV.same (by assumption) rfl), fun _ hp => (List.not_mem_nil hp).elim⟩⟩⟩
      · exact List.forall_mem_cons.2 ⟨(FO.same (show lk (St.o _) 2 = some _ from by assumption) rfl), fun _ hp => (List.not_mem_nil hp).elim⟩
    · cases h
  · cases h
noncomputable def limb_Ten.jl : List (Nat × JDen U) := [(1000, limb_Ten.j1000.J)]
noncomputable def limb_Ten.fl (k : Nat) : List (Nat × FDen U) := [(26, limb_Of.D k), (25, limb_Mul.D k), (29, limb_Short.D k)]
noncomputable def limb_Ten.ll (k : Nat) : List (Nat × LDen U) := [(5, limb_Ten.l5.L k)]
noncomputable def limb_Ten.E (k : Nat) : Env U := { P := Try.prog, D := DD, fd := lk (limb_Ten.fl k), ld := lk (limb_Ten.ll k), jd := lk limb_Ten.jl, mode := lk [], elc := lk ec, mpc := lk mc, rts := Try.f28.resultTypes.toList, dyn := fun t => false, vecs := fun d => false, results := Try.f28.results.toList, gh := [], own := false, io := fun g i => false }
theorem limb_Ten.ok (k : Nat) : EnvOk (limb_Ten.E k) := envOk lawful (limb_Ten.fl k) (limb_Ten.ll k) limb_Ten.jl _ _ _ _ _ _ _ _ _ _ (by
  intro p hp
  simp only [limb_Ten.fl, List.mem_cons, List.not_mem_nil, or_false] at hp
  rcases hp with rfl | rfl | rfl
  · exact ⟨limb_Of.sound k, enter_of Try.func26 (by kernel_rfl) (by kernel_rfl)⟩
  · exact ⟨limb_Mul.sound k, enter_of Try.func25 (by kernel_rfl) (by kernel_rfl)⟩
  · exact ⟨limb_Short.sound k, enter_of Try.func29 (by kernel_rfl) (by kernel_rfl)⟩) (by
  intro p hp
  simp only [limb_Ten.jl, List.mem_cons, List.not_mem_nil, or_false] at hp
  rcases hp with rfl
  · exact limb_Ten.j1000.fit)
theorem limb_Ten.l5.eq (k : Nat) (x : (Int × Int × Int × Int × Int × Int)) : evC (limb_Ten.E k) (loopAt Try.f28 5) (limb_Ten.l5.mk x) (headK limb_Ten.l5.un limb_Ten.l5.re) = limb_Ten.l5.once k x := by kernel_rfl
theorem limb_Ten.l5.fit (s : St U) (x : (Int × Int × Int × Int × Int × Int)) (h : limb_Ten.l5.un s = some x) : Fits s (limb_Ten.l5.mk x) := by
  unfold limb_Ten.l5.un at h
  split at h
  · cases h
    refine fits_ren [] ?_ ?_ ren_nil rfl
    · exact List.forall_mem_cons.2 ⟨FV.one (FV.ptr (by assumption)), List.forall_mem_cons.2 ⟨FV.one (FV.ptr (by assumption)), List.forall_mem_cons.2 ⟨FV.one (FV.same (by assumption) rfl), List.forall_mem_cons.2 ⟨FV.one (FV.same (by assumption) rfl), fun _ hp => (List.not_mem_nil hp).elim⟩⟩⟩⟩
    · exact List.forall_mem_cons.2 ⟨(FO.same (show lk (St.o _) 2 = some _ from by assumption) rfl), List.forall_mem_cons.2 ⟨(FO.same (show lk (St.o _) 4 = some _ from by assumption) rfl), fun _ hp => (List.not_mem_nil hp).elim⟩⟩
  · cases h
theorem limb_Ten.l5.fitO (o : Out U) (y : (Int × Int × Int × Int)) (h : limb_Ten.l5.re o = some y) : FitsO o (limb_Ten.l5.fin y) := by
  unfold limb_Ten.l5.re at h
  split at h
  · split at h
    · cases h
      refine fitsO_exit (fits_ren [] ?_ ?_ ren_nil rfl)
      · exact List.forall_mem_cons.2 ⟨FV.one (FV.ptr (by assumption)), List.forall_mem_cons.2 ⟨FV.one (FV.ptr (by assumption)), fun _ hp => (List.not_mem_nil hp).elim⟩⟩
      · exact List.forall_mem_cons.2 ⟨(FO.same (show lk (St.o _) 2 = some _ from by assumption) rfl), List.forall_mem_cons.2 ⟨(FO.same (show lk (St.o _) 4 = some _ from by assumption) rfl), fun _ hp => (List.not_mem_nil hp).elim⟩⟩
    · cases h
  · cases h
theorem limb_Ten.l5.sound (k : Nat) : LSound (limb_Ten.E k) Try.f28.ntmps Try.f28 (loopAt Try.f28 5) (limb_Ten.l5.L k) :=
  loop_sound (limb_Ten.ok k) mixed rfl (by kernel_rfl) (allL_of (l := []) (by kernel_rfl) allL_nil) limb_Ten.l5.un limb_Ten.l5.mk limb_Ten.l5.fin limb_Ten.l5.re (limb_Ten.l5.once k) k limb_Ten.l5.fit limb_Ten.l5.fitO (limb_Ten.l5.eq k) limb_Ten.l5.finK limb_Ten.l5.finK_eq
theorem limb_Ten.eq (k : Nat) (x : Int) : runF (limb_Ten.E k) (codeOf Try.f28) (limb_Ten.mk x) limb_Ten.re = (limb_Ten.D k).f x := by kernel_rfl
theorem limb_Ten.fit (s : St U) (x : Int) (h : limb_Ten.un s = some x) : Fits s (limb_Ten.mk x) := by
  unfold limb_Ten.un at h
  split at h
  · cases h
    refine fits_ren [] ?_ ?_ ren_nil rfl
    · exact List.forall_mem_cons.2 ⟨FV.one (FV.same (by assumption) rfl), fun _ hp => (List.not_mem_nil hp).elim⟩
    · exact fun _ hp => (List.not_mem_nil hp).elim
  · cases h
theorem limb_Ten.fitR (s : St U) (y : ((Int × Int) × Bool)) (h : limb_Ten.re s = some y) : Fits s (limb_Ten.fin y) := by
  unfold limb_Ten.re at h
  split at h
  · cases h
    refine fits_ren [] ?_ ?_ ren_nil rfl
    · exact List.forall_mem_cons.2 ⟨FV.tup (by assumption) (FTs.cons (FVA.one (FV.same rfl rfl)) (FTs.cons (FVA.one (FV.same rfl rfl)) (FTs.nil))), fun _ hp => (List.not_mem_nil hp).elim⟩
    · exact fun _ hp => (List.not_mem_nil hp).elim
  · cases h
theorem limb_Ten.sound (k : Nat) : Sound Try.prog DD 28 (limb_Ten.D k) :=
  fun_sound (E := limb_Ten.E k) (fn := Try.f28) (c := codeOf Try.f28) (limb_Ten.ok k) mixed rfl Try.func28 (by kernel_rfl) (by kernel_rfl) (allL_of (l := [loopAt Try.f28 5]) (by kernel_rfl) (allL_cons (key := 5) (by kernel_rfl) rfl (limb_Ten.l5.sound k) allL_nil)) (limb_Ten.D k) limb_Ten.mk limb_Ten.re (by kernel_rfl) (by kernel_rfl) limb_Ten.fit limb_Ten.fitR (limb_Ten.eq k)
/-! ### pyx/dec.ten: function 118 -/
noncomputable def dec_ten.f (k : Nat) (a0 : Int) : Option (Int × Int) := (limb_Ten.f k a0).bind fun t1 => (some (t1.1.1, t1.1.2))
noncomputable def dec_ten.un (s : St U) : Option Int := match s.get 0 with | .flat (.int .i64 x1) => some x1 | _ => none
noncomputable def dec_ten.mk (x : Int) : St U := ⟨[(0, .flat (.int .i64 x))], []⟩
noncomputable def dec_ten.fin (y : (Int × Int)) : St U := ⟨[(0, .agg [.flat (.int .u64 y.1), .flat (.int .u64 y.2)])], []⟩
noncomputable def dec_ten.D (k : Nat) : FDen U := { X := Int, Y := (Int × Int), nt := 11, gh := [], un := dec_ten.un, f := fun x => dec_ten.f k (x), fin := dec_ten.fin, cl := true, clo := fun _ _ => rfl }
noncomputable def dec_ten.re (s : St U) : Option (Int × Int) := match s.get 0 with | .agg [.flat (.int .u64 x1), .flat (.int .u64 x2)] => some (x1, x2) | _ => none
noncomputable def dec_ten.jl : List (Nat × JDen U) := []
noncomputable def dec_ten.fl (k : Nat) : List (Nat × FDen U) := [(28, limb_Ten.D k)]
noncomputable def dec_ten.ll (k : Nat) : List (Nat × LDen U) := []
noncomputable def dec_ten.E (k : Nat) : Env U := { P := Try.prog, D := DD, fd := lk (dec_ten.fl k), ld := lk (dec_ten.ll k), jd := lk dec_ten.jl, mode := lk [], elc := lk ec, mpc := lk mc, rts := Try.f118.resultTypes.toList, dyn := fun t => false, vecs := fun d => false, results := Try.f118.results.toList, gh := [], own := false, io := fun g i => false }
theorem dec_ten.ok (k : Nat) : EnvOk (dec_ten.E k) := envOk lawful (dec_ten.fl k) (dec_ten.ll k) dec_ten.jl _ _ _ _ _ _ _ _ _ _ (by
  intro p hp
  simp only [dec_ten.fl, List.mem_cons, List.not_mem_nil, or_false] at hp
  rcases hp with rfl
  · exact ⟨limb_Ten.sound k, enter_of Try.func28 (by kernel_rfl) (by kernel_rfl)⟩) (by
  intro p hp
  simp [dec_ten.jl] at hp)
theorem dec_ten.eq (k : Nat) (x : Int) : runF (dec_ten.E k) (codeOf Try.f118) (dec_ten.mk x) dec_ten.re = (dec_ten.D k).f x := by kernel_rfl
theorem dec_ten.fit (s : St U) (x : Int) (h : dec_ten.un s = some x) : Fits s (dec_ten.mk x) := by
  unfold dec_ten.un at h
  split at h
  · cases h
    refine fits_ren [] ?_ ?_ ren_nil rfl
    · exact List.forall_mem_cons.2 ⟨FV.one (FV.same (by assumption) rfl), fun _ hp => (List.not_mem_nil hp).elim⟩
    · exact fun _ hp => (List.not_mem_nil hp).elim
  · cases h
theorem dec_ten.fitR (s : St U) (y : (Int × Int)) (h : dec_ten.re s = some y) : Fits s (dec_ten.fin y) := by
  unfold dec_ten.re at h
  split at h
  · cases h
    refine fits_ren [] ?_ ?_ ren_nil rfl
    · exact List.forall_mem_cons.2 ⟨FV.one (FV.same (by assumption) rfl), fun _ hp => (List.not_mem_nil hp).elim⟩
    · exact fun _ hp => (List.not_mem_nil hp).elim
  · cases h
theorem dec_ten.sound (k : Nat) : Sound Try.prog DD 118 (dec_ten.D k) :=
  fun_sound (E := dec_ten.E k) (fn := Try.f118) (c := codeOf Try.f118) (dec_ten.ok k) mixed rfl Try.func118 (by kernel_rfl) (by kernel_rfl) (allL_of (l := []) (by kernel_rfl) allL_nil) (dec_ten.D k) dec_ten.mk dec_ten.re (by kernel_rfl) (by kernel_rfl) dec_ten.fit dec_ten.fitR (dec_ten.eq k)
/-! ### pyx/limb.Cmp: function 19 -/
noncomputable def limb_Cmp.l2.once (k : Nat) (x : (Int × List Int × List Int)) : Option ((Int × List Int × List Int) ⊕ (Unit ⊕ Int)) := match x with | (x3, x1, x2) => cond (decide (x3 ≥ 0)) (cond (inb x3 2) (cond (Nat.blt (Int.toNat x3) 2) (cond (inb x3 2) (cond (Nat.blt (Int.toNat x3) 2) (cond ((List.getD x1 (Int.toNat x3) 0) != (List.getD x2 (Int.toNat x3) 0)) (cond (inb x3 2) (cond (Nat.blt (Int.toNat x3) 2) (cond (inb x3 2) (cond (Nat.blt (Int.toNat x3) 2) (cond (decide ((List.getD x1 (Int.toNat x3) 0) < (List.getD x2 (Int.toNat x3) 0))) (some (.inr (.inr (-1)))) (some (.inr (.inr 1)))) none) none) none) none) (some (.inl (IntKind.wrap .i64 (x3 - 1), x1, x2)))) none) none) none) none) (some (.inr (.inl ())))
noncomputable def limb_Cmp.f (k : Nat) (a0 : (Int × Int)) (a1 : (Int × Int)) : Option Int := (iter (limb_Cmp.l2.once k) k (1, [a0.1, a0.2], [a1.1, a1.2])).bind fun | .inl y5 => (some 0) | .inr y6 => (some y6)
noncomputable def limb_Cmp.un (s : St U) : Option ((Int × Int) × (Int × Int)) := match s.get 0, s.get 1 with | .agg [.flat (.int .u64 x1), .flat (.int .u64 x2)], .agg [.flat (.int .u64 x3), .flat (.int .u64 x4)] => some ((x1, x2), (x3, x4)) | _, _ => none
noncomputable def limb_Cmp.mk (x : ((Int × Int) × (Int × Int))) : St U := ⟨[(0, .agg [.flat (.int .u64 x.1.1), .flat (.int .u64 x.1.2)]), (1, .agg [.flat (.int .u64 x.2.1), .flat (.int .u64 x.2.2)])], []⟩
noncomputable def limb_Cmp.fin (y : Int) : St U := ⟨[(0, .flat (.int .i64 y))], []⟩
noncomputable def limb_Cmp.D (k : Nat) : FDen U := { X := ((Int × Int) × (Int × Int)), Y := Int, nt := 24, gh := [], un := limb_Cmp.un, f := fun x => limb_Cmp.f k (x.1) (x.2), fin := limb_Cmp.fin, cl := true, clo := fun _ _ => rfl }
noncomputable def limb_Cmp.re (s : St U) : Option Int := match s.get 0 with | .flat (.int .i64 x1) => some x1 | _ => none
noncomputable def limb_Cmp.l2.mk (x : (Int × List Int × List Int)) : St U := match x with | (x3, x1, x2) => ⟨[(2, .ptr 2 0), (3, .ptr 3 0), (5, .flat (.int .i64 x3))], [(2, .arr 2 C.u64 x1), (3, .arr 2 C.u64 x2)]⟩
noncomputable def limb_Cmp.l2.un (s : St U) : Option (Int × List Int × List Int) := match s.get 2, s.get 3, s.get 5, lk s.o 2, lk s.o 3 with | .ptr 2 0, .ptr 3 0, .flat (.int .i64 x3), some (.arr 2 C.u64 x1), some (.arr 2 C.u64 x2) => some (x3, x1, x2) | _, _, _, _, _ => none
noncomputable def limb_Cmp.l2.fin (y : Unit ⊕ Int) : Out U := match y with | .inl () => .exit 0 ⟨[], []⟩ | .inr z => .ret (⟨[(0, .flat (.int .i64 z))], []⟩)
noncomputable def limb_Cmp.l2.finK {ρ : Type} (y : Unit ⊕ Int) (K : Out U → Option ρ) : Option ρ := match y with | .inl () => K (.exit 0 ⟨[], []⟩) | .inr z => K (.ret (⟨[(0, .flat (.int .i64 z))], []⟩))
theorem limb_Cmp.l2.finK_eq {ρ : Type} (y : Unit ⊕ Int) (K : Out U → Option ρ) : limb_Cmp.l2.finK y K = K (limb_Cmp.l2.fin y) := by
  unfold limb_Cmp.l2.finK limb_Cmp.l2.fin
  first | rfl | (split <;> rfl)
noncomputable def limb_Cmp.l2.re : Out U → Option (Unit ⊕ Int) | .exit 0 s => (some (.inl ())) | .ret s => (match s.get 0 with | .flat (.int .i64 x1) => some (.inr x1) | _ => none) | _ => none
noncomputable def limb_Cmp.l2.L (k : Nat) : LDen U := { X := (Int × List Int × List Int), Y := Unit ⊕ Int, un := limb_Cmp.l2.un, f := iter (limb_Cmp.l2.once k) k, fin := limb_Cmp.l2.fin, finK := limb_Cmp.l2.finK, finK_eq := limb_Cmp.l2.finK_eq }
noncomputable def limb_Cmp.jl : List (Nat × JDen U) := []
noncomputable def limb_Cmp.fl (k : Nat) : List (Nat × FDen U) := []
noncomputable def limb_Cmp.ll (k : Nat) : List (Nat × LDen U) := [(2, limb_Cmp.l2.L k)]
noncomputable def limb_Cmp.E (k : Nat) : Env U := { P := Try.prog, D := DD, fd := lk (limb_Cmp.fl k), ld := lk (limb_Cmp.ll k), jd := lk limb_Cmp.jl, mode := lk [(23, (2, C.u64))], elc := lk ec, mpc := lk mc, rts := Try.f19.resultTypes.toList, dyn := fun t => false, vecs := fun d => false, results := Try.f19.results.toList, gh := [], own := false, io := fun g i => false }
theorem limb_Cmp.ok (k : Nat) : EnvOk (limb_Cmp.E k) := envOk lawful (limb_Cmp.fl k) (limb_Cmp.ll k) limb_Cmp.jl _ _ _ _ _ _ _ _ _ _ (by
  intro p hp
  simp [limb_Cmp.fl] at hp) (by
  intro p hp
  simp [limb_Cmp.jl] at hp)
theorem limb_Cmp.l2.eq (k : Nat) (x : (Int × List Int × List Int)) : evC (limb_Cmp.E k) (loopAt Try.f19 2) (limb_Cmp.l2.mk x) (headK limb_Cmp.l2.un limb_Cmp.l2.re) = limb_Cmp.l2.once k x := by kernel_rfl
theorem limb_Cmp.l2.fit (s : St U) (x : (Int × List Int × List Int)) (h : limb_Cmp.l2.un s = some x) : Fits s (limb_Cmp.l2.mk x) := by
  unfold limb_Cmp.l2.un at h
  split at h
  · cases h
    refine fits_ren [] ?_ ?_ ren_nil rfl
    · exact List.forall_mem_cons.2 ⟨FV.one (FV.ptr (by assumption)), List.forall_mem_cons.2 ⟨FV.one (FV.ptr (by assumption)), List.forall_mem_cons.2 ⟨FV.one (FV.same (by assumption) rfl), fun _ hp => (List.not_mem_nil hp).elim⟩⟩⟩
    · exact List.forall_mem_cons.2 ⟨(show lk (St.o _) 2 = some _ from by assumption), List.forall_mem_cons.2 ⟨(show lk (St.o _) 3 = some _ from by assumption), fun _ hp => (List.not_mem_nil hp).elim⟩⟩
  · cases h
theorem limb_Cmp.l2.fitO (o : Out U) (y : Unit ⊕ Int) (h : limb_Cmp.l2.re o = some y) : FitsO o (limb_Cmp.l2.fin y) := by
  unfold limb_Cmp.l2.re at h
  split at h
  · cases h
    refine fitsO_exit (fits_ren [] ?_ ?_ ren_nil rfl)
    · exact fun _ hp => (List.not_mem_nil hp).elim
    · exact fun _ hp => (List.not_mem_nil hp).elim
  · split at h
    · cases h
      refine fitsO_ret (fits_ren [] ?_ ?_ ren_nil rfl)
      · exact List.forall_mem_cons.2 ⟨FV.one (FV.same (by assumption) rfl), fun _ hp => (List.not_mem_nil hp).elim⟩
      · exact fun _ hp => (List.not_mem_nil hp).elim
    · cases h
  · cases h
theorem limb_Cmp.l2.sound (k : Nat) : LSound (limb_Cmp.E k) Try.f19.ntmps Try.f19 (loopAt Try.f19 2) (limb_Cmp.l2.L k) :=
  loop_sound (limb_Cmp.ok k) mixed rfl (by kernel_rfl) (allL_of (l := []) (by kernel_rfl) allL_nil) limb_Cmp.l2.un limb_Cmp.l2.mk limb_Cmp.l2.fin limb_Cmp.l2.re (limb_Cmp.l2.once k) k limb_Cmp.l2.fit limb_Cmp.l2.fitO (limb_Cmp.l2.eq k) limb_Cmp.l2.finK limb_Cmp.l2.finK_eq
theorem limb_Cmp.eq (k : Nat) (x : ((Int × Int) × (Int × Int))) : runF (limb_Cmp.E k) (codeOf Try.f19) (limb_Cmp.mk x) limb_Cmp.re = (limb_Cmp.D k).f x := by kernel_rfl
theorem limb_Cmp.fit (s : St U) (x : ((Int × Int) × (Int × Int))) (h : limb_Cmp.un s = some x) : Fits s (limb_Cmp.mk x) := by
  unfold limb_Cmp.un at h
  split at h
  · cases h
    refine fits_ren [] ?_ ?_ ren_nil rfl
    · exact List.forall_mem_cons.2 ⟨FV.one (FV.same (by assumption) rfl), List.forall_mem_cons.2 ⟨FV.one (FV.same (by assumption) rfl), fun _ hp => (List.not_mem_nil hp).elim⟩⟩
    · exact fun _ hp => (List.not_mem_nil hp).elim
  · cases h
theorem limb_Cmp.fitR (s : St U) (y : Int) (h : limb_Cmp.re s = some y) : Fits s (limb_Cmp.fin y) := by
  unfold limb_Cmp.re at h
  split at h
  · cases h
    refine fits_ren [] ?_ ?_ ren_nil rfl
    · exact List.forall_mem_cons.2 ⟨FV.one (FV.same (by assumption) rfl), fun _ hp => (List.not_mem_nil hp).elim⟩
    · exact fun _ hp => (List.not_mem_nil hp).elim
  · cases h
theorem limb_Cmp.sound (k : Nat) : Sound Try.prog DD 19 (limb_Cmp.D k) :=
  fun_sound (E := limb_Cmp.E k) (fn := Try.f19) (c := codeOf Try.f19) (limb_Cmp.ok k) mixed rfl Try.func19 (by kernel_rfl) (by kernel_rfl) (allL_of (l := [loopAt Try.f19 2]) (by kernel_rfl) (allL_cons (key := 2) (by kernel_rfl) rfl (limb_Cmp.l2.sound k) allL_nil)) (limb_Cmp.D k) limb_Cmp.mk limb_Cmp.re (by kernel_rfl) (by kernel_rfl) limb_Cmp.fit limb_Cmp.fitR (limb_Cmp.eq k)
/-! ### pyx/dec.small: function 117 -/
noncomputable def dec_small.f (k : Nat) (a0 : (Int × Int)) : Option Bool := (dec_ten.f k 30).bind fun t1 => ((limb_Cmp.f k (a0.1, a0.2) (t1.1, t1.2)).bind fun t2 => (some (decide (t2 < 0))))
noncomputable def dec_small.un (s : St U) : Option (Int × Int) := match s.get 0 with | .agg [.flat (.int .u64 x1), .flat (.int .u64 x2)] => some (x1, x2) | _ => none
noncomputable def dec_small.mk (x : (Int × Int)) : St U := ⟨[(0, .agg [.flat (.int .u64 x.1), .flat (.int .u64 x.2)])], []⟩
noncomputable def dec_small.fin (y : Bool) : St U := ⟨[(0, .flat (.bool y))], []⟩
noncomputable def dec_small.D (k : Nat) : FDen U := { X := (Int × Int), Y := Bool, nt := 7, gh := [], un := dec_small.un, f := fun x => dec_small.f k (x), fin := dec_small.fin, cl := true, clo := fun _ _ => rfl }
noncomputable def dec_small.re (s : St U) : Option Bool := match s.get 0 with | .flat (.bool x1) => some x1 | _ => none
noncomputable def dec_small.jl : List (Nat × JDen U) := []
noncomputable def dec_small.fl (k : Nat) : List (Nat × FDen U) := [(118, dec_ten.D k), (19, limb_Cmp.D k)]
noncomputable def dec_small.ll (k : Nat) : List (Nat × LDen U) := []
noncomputable def dec_small.E (k : Nat) : Env U := { P := Try.prog, D := DD, fd := lk (dec_small.fl k), ld := lk (dec_small.ll k), jd := lk dec_small.jl, mode := lk [], elc := lk ec, mpc := lk mc, rts := Try.f117.resultTypes.toList, dyn := fun t => false, vecs := fun d => false, results := Try.f117.results.toList, gh := [], own := false, io := fun g i => false }
theorem dec_small.ok (k : Nat) : EnvOk (dec_small.E k) := envOk lawful (dec_small.fl k) (dec_small.ll k) dec_small.jl _ _ _ _ _ _ _ _ _ _ (by
  intro p hp
  simp only [dec_small.fl, List.mem_cons, List.not_mem_nil, or_false] at hp
  rcases hp with rfl | rfl
  · exact ⟨dec_ten.sound k, enter_of Try.func118 (by kernel_rfl) (by kernel_rfl)⟩
  · exact ⟨limb_Cmp.sound k, enter_of Try.func19 (by kernel_rfl) (by kernel_rfl)⟩) (by
  intro p hp
  simp [dec_small.jl] at hp)
theorem dec_small.eq (k : Nat) (x : (Int × Int)) : runF (dec_small.E k) (codeOf Try.f117) (dec_small.mk x) dec_small.re = (dec_small.D k).f x := by kernel_rfl
theorem dec_small.fit (s : St U) (x : (Int × Int)) (h : dec_small.un s = some x) : Fits s (dec_small.mk x) := by
  unfold dec_small.un at h
  split at h
  · cases h
    refine fits_ren [] ?_ ?_ ren_nil rfl
    · exact List.forall_mem_cons.2 ⟨FV.one (FV.same (by assumption) rfl), fun _ hp => (List.not_mem_nil hp).elim⟩
    · exact fun _ hp => (List.not_mem_nil hp).elim
  · cases h
theorem dec_small.fitR (s : St U) (y : Bool) (h : dec_small.re s = some y) : Fits s (dec_small.fin y) := by
  unfold dec_small.re at h
  split at h
  · cases h
    refine fits_ren [] ?_ ?_ ren_nil rfl
    · exact List.forall_mem_cons.2 ⟨FV.one (FV.same (by assumption) rfl), fun _ hp => (List.not_mem_nil hp).elim⟩
    · exact fun _ hp => (List.not_mem_nil hp).elim
  · cases h
theorem dec_small.sound (k : Nat) : Sound Try.prog DD 117 (dec_small.D k) :=
  fun_sound (E := dec_small.E k) (fn := Try.f117) (c := codeOf Try.f117) (dec_small.ok k) mixed rfl Try.func117 (by kernel_rfl) (by kernel_rfl) (allL_of (l := []) (by kernel_rfl) allL_nil) (dec_small.D k) dec_small.mk dec_small.re (by kernel_rfl) (by kernel_rfl) dec_small.fit dec_small.fitR (dec_small.eq k)
/-! ### pyx/dec.nought: function 100 -/
noncomputable def dec_nought.f (k : Nat) (a0 : (Int × Int)) : Option Bool := some ((a0.1 == 0) && (a0.2 == 0))
noncomputable def dec_nought.un (s : St U) : Option (Int × Int) := match s.get 0 with | .agg [.flat (.int .u64 x1), .flat (.int .u64 x2)] => some (x1, x2) | _ => none
noncomputable def dec_nought.mk (x : (Int × Int)) : St U := ⟨[(0, .agg [.flat (.int .u64 x.1), .flat (.int .u64 x.2)])], []⟩
noncomputable def dec_nought.fin (y : Bool) : St U := ⟨[(0, .flat (.bool y))], []⟩
noncomputable def dec_nought.D (k : Nat) : FDen U := { X := (Int × Int), Y := Bool, nt := 6, gh := [], un := dec_nought.un, f := fun x => dec_nought.f k (x), fin := dec_nought.fin, cl := true, clo := fun _ _ => rfl }
noncomputable def dec_nought.re (s : St U) : Option Bool := match s.get 0 with | .flat (.bool x1) => some x1 | _ => none
noncomputable def dec_nought.jl : List (Nat × JDen U) := []
noncomputable def dec_nought.fl (k : Nat) : List (Nat × FDen U) := []
noncomputable def dec_nought.ll (k : Nat) : List (Nat × LDen U) := []
noncomputable def dec_nought.E (k : Nat) : Env U := { P := Try.prog, D := DD, fd := lk (dec_nought.fl k), ld := lk (dec_nought.ll k), jd := lk dec_nought.jl, mode := lk [], elc := lk ec, mpc := lk mc, rts := Try.f100.resultTypes.toList, dyn := fun t => false, vecs := fun d => false, results := Try.f100.results.toList, gh := [], own := false, io := fun g i => false }
theorem dec_nought.ok (k : Nat) : EnvOk (dec_nought.E k) := envOk lawful (dec_nought.fl k) (dec_nought.ll k) dec_nought.jl _ _ _ _ _ _ _ _ _ _ (by
  intro p hp
  simp [dec_nought.fl] at hp) (by
  intro p hp
  simp [dec_nought.jl] at hp)
theorem dec_nought.eq (k : Nat) (x : (Int × Int)) : runF (dec_nought.E k) (codeOf Try.f100) (dec_nought.mk x) dec_nought.re = (dec_nought.D k).f x := by kernel_rfl
theorem dec_nought.fit (s : St U) (x : (Int × Int)) (h : dec_nought.un s = some x) : Fits s (dec_nought.mk x) := by
  unfold dec_nought.un at h
  split at h
  · cases h
    refine fits_ren [] ?_ ?_ ren_nil rfl
    · exact List.forall_mem_cons.2 ⟨FV.one (FV.same (by assumption) rfl), fun _ hp => (List.not_mem_nil hp).elim⟩
    · exact fun _ hp => (List.not_mem_nil hp).elim
  · cases h
theorem dec_nought.fitR (s : St U) (y : Bool) (h : dec_nought.re s = some y) : Fits s (dec_nought.fin y) := by
  unfold dec_nought.re at h
  split at h
  · cases h
    refine fits_ren [] ?_ ?_ ren_nil rfl
    · exact List.forall_mem_cons.2 ⟨FV.one (FV.same (by assumption) rfl), fun _ hp => (List.not_mem_nil hp).elim⟩
    · exact fun _ hp => (List.not_mem_nil hp).elim
  · cases h
theorem dec_nought.sound (k : Nat) : Sound Try.prog DD 100 (dec_nought.D k) :=
  fun_sound (E := dec_nought.E k) (fn := Try.f100) (c := codeOf Try.f100) (dec_nought.ok k) mixed rfl Try.func100 (by kernel_rfl) (by kernel_rfl) (allL_of (l := []) (by kernel_rfl) allL_nil) (dec_nought.D k) dec_nought.mk dec_nought.re (by kernel_rfl) (by kernel_rfl) dec_nought.fit dec_nought.fitR (dec_nought.eq k)
/-! ### pyx/dec.Right: function 99 -/
noncomputable def dec_Right.f (k : Nat) (a0 : Sapi_Dec) : Option Bool := (dec_small.f k (a0.f_C.1, a0.f_C.2)).bind fun t1 => (cond (t1) (cond (decide (a0.f_Scale ≥ 0)) (cond (decide (a0.f_Scale ≤ 9)) (cond (a0.f_Neg) ((dec_nought.f k (a0.f_C.1, a0.f_C.2)).bind fun t2 => (some (!t2))) (some true)) (some false)) (some false)) (some false))
noncomputable def dec_Right.un (s : St U) : Option Sapi_Dec := match s.get 0 with | .agg [.flat (.bool x1), .flat (.int .u64 x2), .flat (.int .u64 x3), .flat (.int .i64 x4)] => some (⟨x1, (x2, x3), x4⟩ : Sapi_Dec) | _ => none
noncomputable def dec_Right.mk (x : Sapi_Dec) : St U := ⟨[(0, .agg [.flat (.bool x.f_Neg), .flat (.int .u64 x.f_C.1), .flat (.int .u64 x.f_C.2), .flat (.int .i64 x.f_Scale)])], []⟩
noncomputable def dec_Right.fin (y : Bool) : St U := ⟨[(0, .flat (.bool y))], []⟩
noncomputable def dec_Right.D (k : Nat) : FDen U := { X := Sapi_Dec, Y := Bool, nt := 26, gh := [], un := dec_Right.un, f := fun x => dec_Right.f k (x), fin := dec_Right.fin, cl := true, clo := fun _ _ => rfl }
noncomputable def dec_Right.re (s : St U) : Option Bool := match s.get 0 with | .flat (.bool x1) => some x1 | _ => none
noncomputable def dec_Right.jl : List (Nat × JDen U) := []
noncomputable def dec_Right.fl (k : Nat) : List (Nat × FDen U) := [(117, dec_small.D k), (100, dec_nought.D k)]
noncomputable def dec_Right.ll (k : Nat) : List (Nat × LDen U) := []
noncomputable def dec_Right.E (k : Nat) : Env U := { P := Try.prog, D := DD, fd := lk (dec_Right.fl k), ld := lk (dec_Right.ll k), jd := lk dec_Right.jl, mode := lk [], elc := lk ec, mpc := lk mc, rts := Try.f99.resultTypes.toList, dyn := fun t => false, vecs := fun d => false, results := Try.f99.results.toList, gh := [], own := false, io := fun g i => false }
theorem dec_Right.ok (k : Nat) : EnvOk (dec_Right.E k) := envOk lawful (dec_Right.fl k) (dec_Right.ll k) dec_Right.jl _ _ _ _ _ _ _ _ _ _ (by
  intro p hp
  simp only [dec_Right.fl, List.mem_cons, List.not_mem_nil, or_false] at hp
  rcases hp with rfl | rfl
  · exact ⟨dec_small.sound k, enter_of Try.func117 (by kernel_rfl) (by kernel_rfl)⟩
  · exact ⟨dec_nought.sound k, enter_of Try.func100 (by kernel_rfl) (by kernel_rfl)⟩) (by
  intro p hp
  simp [dec_Right.jl] at hp)
theorem dec_Right.eq (k : Nat) (x : Sapi_Dec) : runF (dec_Right.E k) (codeOf Try.f99) (dec_Right.mk x) dec_Right.re = (dec_Right.D k).f x := by kernel_rfl
theorem dec_Right.fit (s : St U) (x : Sapi_Dec) (h : dec_Right.un s = some x) : Fits s (dec_Right.mk x) := by
  unfold dec_Right.un at h
  split at h
  · cases h
    refine fits_ren [] ?_ ?_ ren_nil rfl
    · exact List.forall_mem_cons.2 ⟨FV.one (FV.same (by assumption) rfl), fun _ hp => (List.not_mem_nil hp).elim⟩
    · exact fun _ hp => (List.not_mem_nil hp).elim
  · cases h
theorem dec_Right.fitR (s : St U) (y : Bool) (h : dec_Right.re s = some y) : Fits s (dec_Right.fin y) := by
  unfold dec_Right.re at h
  split at h
  · cases h
    refine fits_ren [] ?_ ?_ ren_nil rfl
    · exact List.forall_mem_cons.2 ⟨FV.one (FV.same (by assumption) rfl), fun _ hp => (List.not_mem_nil hp).elim⟩
    · exact fun _ hp => (List.not_mem_nil hp).elim
  · cases h
theorem dec_Right.sound (k : Nat) : Sound Try.prog DD 99 (dec_Right.D k) :=
  fun_sound (E := dec_Right.E k) (fn := Try.f99) (c := codeOf Try.f99) (dec_Right.ok k) mixed rfl Try.func99 (by kernel_rfl) (by kernel_rfl) (allL_of (l := []) (by kernel_rfl) allL_nil) (dec_Right.D k) dec_Right.mk dec_Right.re (by kernel_rfl) (by kernel_rfl) dec_Right.fit dec_Right.fitR (dec_Right.eq k)
/-! ### pyx/dec.Sign: function 61 -/
noncomputable def dec_Sign.f (k : Nat) (a0 : Sapi_Dec) : Option Int := (((dec_Right.f k (⟨a0.f_Neg, (a0.f_C.1, a0.f_C.2), a0.f_Scale⟩ : Sapi_Dec)).bind fun t1 => (cond (!t1) (some (true, a0.f_Neg, a0.f_C.1, a0.f_C.2, a0.f_Scale)) ((dec_nought.f k (a0.f_C.1, a0.f_C.2)).bind fun t7 => (some (t7, a0.f_Neg, a0.f_C.1, a0.f_C.2, a0.f_Scale))))) : Option (Bool × Bool × Int × Int × Int)).bind fun y8 => (cond (y8.1) (some 0) (cond (y8.2.1) (some (-1)) (some 1)))
noncomputable def dec_Sign.un (s : St U) : Option Sapi_Dec := match s.get 0 with | .agg [.flat (.bool x1), .flat (.int .u64 x2), .flat (.int .u64 x3), .flat (.int .i64 x4)] => some (⟨x1, (x2, x3), x4⟩ : Sapi_Dec) | _ => none
noncomputable def dec_Sign.mk (x : Sapi_Dec) : St U := ⟨[(0, .agg [.flat (.bool x.f_Neg), .flat (.int .u64 x.f_C.1), .flat (.int .u64 x.f_C.2), .flat (.int .i64 x.f_Scale)])], []⟩
noncomputable def dec_Sign.fin (y : Int) : St U := ⟨[(0, .flat (.int .i64 y))], []⟩
noncomputable def dec_Sign.D (k : Nat) : FDen U := { X := Sapi_Dec, Y := Int, nt := 15, gh := [], un := dec_Sign.un, f := fun x => dec_Sign.f k (x), fin := dec_Sign.fin, cl := true, clo := fun _ _ => rfl }
noncomputable def dec_Sign.re (s : St U) : Option Int := match s.get 0 with | .flat (.int .i64 x1) => some x1 | _ => none
noncomputable def dec_Sign.j1000.fin (y : (Bool × Bool × Int × Int × Int)) : Out U := match y with | (x6, x2, x3, x4, x5) => .norm ⟨[(1, .ptr 1 0), (3, .flat (.bool x6))], [(1, .lit [.flat (.bool x2), .flat (.int .u64 x3), .flat (.int .u64 x4), .flat (.int .i64 x5)])]⟩
noncomputable def dec_Sign.j1000.finK {ρ : Type} (y : (Bool × Bool × Int × Int × Int)) (K : Out U → Option ρ) : Option ρ := match y with | (x6, x2, x3, x4, x5) => K (.norm ⟨[(1, .ptr 1 0), (3, .flat (.bool x6))], [(1, .lit [.flat (.bool x2), .flat (.int .u64 x3), .flat (.int .u64 x4), .flat (.int .i64 x5)])]⟩)
theorem dec_Sign.j1000.finK_eq {ρ : Type} (y : (Bool × Bool × Int × Int × Int)) (K : Out U → Option ρ) : dec_Sign.j1000.finK y K = K (dec_Sign.j1000.fin y) := by
  unfold dec_Sign.j1000.finK dec_Sign.j1000.fin
  first | rfl | (split <;> rfl)
noncomputable def dec_Sign.j1000.re : Out U → Option ((Bool × Bool × Int × Int × Int)) | .norm s => (match s.get 1, s.get 3, lk s.o 1 with | .ptr 1 0, .flat (.bool x6), some (.lit [.flat (.bool x2), .flat (.int .u64 x3), .flat (.int .u64 x4), .flat (.int .i64 x5)]) => some (x6, x2, x3, x4, x5) | _, _, _ => none) | _ => none
noncomputable def dec_Sign.j1000.J : JDen U := { Y := (Bool × Bool × Int × Int × Int), re := dec_Sign.j1000.re, fin := dec_Sign.j1000.fin, finK := dec_Sign.j1000.finK, finK_eq := dec_Sign.j1000.finK_eq }
theorem dec_Sign.j1000.fit (o : Out U) (y : (Bool × Bool × Int × Int × Int)) (h : dec_Sign.j1000.re o = some y) : FitsO o (dec_Sign.j1000.fin y) := by
  unfold dec_Sign.j1000.re at h
  split at h
  · split at h
    · cases h
      refine fitsO_norm (fits_ren [] ?_ ?_ ren_nil rfl)
      · exact List.forall_mem_cons.2 ⟨FV.one (FV.ptr (by assumption)), List.forall_mem_cons.2 ⟨FV.one (FV.same (by assumption) rfl), fun _ hp => (List.not_mem_nil hp).elim⟩⟩
      · exact List.forall_mem_cons.2 ⟨(FO.same (show lk (St.o _) 1 = some _ from by assumption) rfl), fun _ hp => (List.not_mem_nil hp).elim⟩
    · cases h
  · cases h
noncomputable def dec_Sign.jl : List (Nat × JDen U) := [(1000, dec_Sign.j1000.J)]
noncomputable def dec_Sign.fl (k : Nat) : List (Nat × FDen U) := [(99, dec_Right.D k), (100, dec_nought.D k)]
noncomputable def dec_Sign.ll (k : Nat) : List (Nat × LDen U) := []
noncomputable def dec_Sign.E (k : Nat) : Env U := { P := Try.prog, D := DD, fd := lk (dec_Sign.fl k), ld := lk (dec_Sign.ll k), jd := lk dec_Sign.jl, mode := lk [], elc := lk ec, mpc := lk mc, rts := Try.f61.resultTypes.toList, dyn := fun t => false, vecs := fun d => false, results := Try.f61.results.toList, gh := [], own := false, io := fun g i => false }
theorem dec_Sign.ok (k : Nat) : EnvOk (dec_Sign.E k) := envOk lawful (dec_Sign.fl k) (dec_Sign.ll k) dec_Sign.jl _ _ _ _ _ _ _ _ _ _ (by
  intro p hp
  simp only [dec_Sign.fl, List.mem_cons, List.not_mem_nil, or_false] at hp
  rcases hp with rfl | rfl
  · exact ⟨dec_Right.sound k, enter_of Try.func99 (by kernel_rfl) (by kernel_rfl)⟩
  · exact ⟨dec_nought.sound k, enter_of Try.func100 (by kernel_rfl) (by kernel_rfl)⟩) (by
  intro p hp
  simp only [dec_Sign.jl, List.mem_cons, List.not_mem_nil, or_false] at hp
  rcases hp with rfl
  · exact dec_Sign.j1000.fit)
theorem dec_Sign.eq (k : Nat) (x : Sapi_Dec) : runF (dec_Sign.E k) (codeOf Try.f61) (dec_Sign.mk x) dec_Sign.re = (dec_Sign.D k).f x := by kernel_rfl
theorem dec_Sign.fit (s : St U) (x : Sapi_Dec) (h : dec_Sign.un s = some x) : Fits s (dec_Sign.mk x) := by
  unfold dec_Sign.un at h
  split at h
  · cases h
    refine fits_ren [] ?_ ?_ ren_nil rfl
    · exact List.forall_mem_cons.2 ⟨FV.one (FV.same (by assumption) rfl), fun _ hp => (List.not_mem_nil hp).elim⟩
    · exact fun _ hp => (List.not_mem_nil hp).elim
  · cases h
theorem dec_Sign.fitR (s : St U) (y : Int) (h : dec_Sign.re s = some y) : Fits s (dec_Sign.fin y) := by
  unfold dec_Sign.re at h
  split at h
  · cases h
    refine fits_ren [] ?_ ?_ ren_nil rfl
    · exact List.forall_mem_cons.2 ⟨FV.one (FV.same (by assumption) rfl), fun _ hp => (List.not_mem_nil hp).elim⟩
    · exact fun _ hp => (List.not_mem_nil hp).elim
  · cases h
theorem dec_Sign.sound (k : Nat) : Sound Try.prog DD 61 (dec_Sign.D k) :=
  fun_sound (E := dec_Sign.E k) (fn := Try.f61) (c := codeOf Try.f61) (dec_Sign.ok k) mixed rfl Try.func61 (by kernel_rfl) (by kernel_rfl) (allL_of (l := []) (by kernel_rfl) allL_nil) (dec_Sign.D k) dec_Sign.mk dec_Sign.re (by kernel_rfl) (by kernel_rfl) dec_Sign.fit dec_Sign.fitR (dec_Sign.eq k)
/-! ### pyx/rule.rightRule: function 92 -/
noncomputable def rule_rightRule.f (k : Nat) (a0 : Sapi_Policy) (a1 : Sapi_Rule) : Option Bool := (rule_within.f k a1.f_Role 0 (IntKind.wrap .i64 ((List.length a0.f_Up : Int) - 1))).bind fun t1 => (cond (!t1) (some false) (((cond (a1.f_Tag == 1) (some (a1.f_Tag, a1.f_Tag == 1, a0.f_Ents, a0.f_Groups, a0.f_Who, a0.f_Up, a0.f_Rules, (⟨a1.f_Tag, a1.f_Role, a1.f_Verb, a1.f_Ent, a1.f_Group, a1.f_Line, (⟨a1.f_Unit.f_Neg, (a1.f_Unit.f_C.1, a1.f_Unit.f_C.2), a1.f_Unit.f_Scale⟩ : Sapi_Dec), (⟨a1.f_To.f_Set, a1.f_To.f_Level⟩ : Sapi_Label)⟩ : Sapi_Rule))) (some (a1.f_Tag, a1.f_Tag == 2, a0.f_Ents, a0.f_Groups, a0.f_Who, a0.f_Up, a0.f_Rules, (⟨a1.f_Tag, a1.f_Role, a1.f_Verb, a1.f_Ent, a1.f_Group, a1.f_Line, (⟨a1.f_Unit.f_Neg, (a1.f_Unit.f_C.1, a1.f_Unit.f_C.2), a1.f_Unit.f_Scale⟩ : Sapi_Dec), (⟨a1.f_To.f_Set, a1.f_To.f_Level⟩ : Sapi_Label)⟩ : Sapi_Rule)))) : Option (Int × Bool × List Sapi_Ent × List Int × List Sapi_Who × List Int × List Sapi_Rule × Sapi_Rule)).bind fun y10 => (cond (y10.2.1) (((cond (y10.2.2.2.2.2.2.2.f_Group == 0) (cond (y10.2.2.2.2.2.2.2.f_Line == 0) (cond ((y10.2.2.2.2.2.2.2.f_Unit.f_Neg == false) && ((y10.2.2.2.2.2.2.2.f_Unit.f_C.1 == 0) && ((y10.2.2.2.2.2.2.2.f_Unit.f_C.2 == 0) && (y10.2.2.2.2.2.2.2.f_Unit.f_Scale == 0)))) (some ((y10.2.2.2.2.2.2.2.f_To.f_Set == 0) && (y10.2.2.2.2.2.2.2.f_To.f_Level == 0), y10.2.2.1, y10.2.2.2.1, y10.2.2.2.2.1, y10.2.2.2.2.2.1, y10.2.2.2.2.2.2.1, (⟨y10.2.2.2.2.2.2.2.f_Tag, y10.2.2.2.2.2.2.2.f_Role, y10.2.2.2.2.2.2.2.f_Verb, y10.2.2.2.2.2.2.2.f_Ent, y10.2.2.2.2.2.2.2.f_Group, y10.2.2.2.2.2.2.2.f_Line, (⟨y10.2.2.2.2.2.2.2.f_Unit.f_Neg, (y10.2.2.2.2.2.2.2.f_Unit.f_C.1, y10.2.2.2.2.2.2.2.f_Unit.f_C.2), y10.2.2.2.2.2.2.2.f_Unit.f_Scale⟩ : Sapi_Dec), (⟨y10.2.2.2.2.2.2.2.f_To.f_Set, y10.2.2.2.2.2.2.2.f_To.f_Level⟩ : Sapi_Label)⟩ : Sapi_Rule))) (some (false, y10.2.2.1, y10.2.2.2.1, y10.2.2.2.2.1, y10.2.2.2.2.2.1, y10.2.2.2.2.2.2.1, (⟨y10.2.2.2.2.2.2.2.f_Tag, y10.2.2.2.2.2.2.2.f_Role, y10.2.2.2.2.2.2.2.f_Verb, y10.2.2.2.2.2.2.2.f_Ent, y10.2.2.2.2.2.2.2.f_Group, y10.2.2.2.2.2.2.2.f_Line, (⟨y10.2.2.2.2.2.2.2.f_Unit.f_Neg, (y10.2.2.2.2.2.2.2.f_Unit.f_C.1, y10.2.2.2.2.2.2.2.f_Unit.f_C.2), y10.2.2.2.2.2.2.2.f_Unit.f_Scale⟩ : Sapi_Dec), (⟨y10.2.2.2.2.2.2.2.f_To.f_Set, y10.2.2.2.2.2.2.2.f_To.f_Level⟩ : Sapi_Label)⟩ : Sapi_Rule)))) (some (false, y10.2.2.1, y10.2.2.2.1, y10.2.2.2.2.1, y10.2.2.2.2.2.1, y10.2.2.2.2.2.2.1, (⟨y10.2.2.2.2.2.2.2.f_Tag, y10.2.2.2.2.2.2.2.f_Role, y10.2.2.2.2.2.2.2.f_Verb, y10.2.2.2.2.2.2.2.f_Ent, y10.2.2.2.2.2.2.2.f_Group, y10.2.2.2.2.2.2.2.f_Line, (⟨y10.2.2.2.2.2.2.2.f_Unit.f_Neg, (y10.2.2.2.2.2.2.2.f_Unit.f_C.1, y10.2.2.2.2.2.2.2.f_Unit.f_C.2), y10.2.2.2.2.2.2.2.f_Unit.f_Scale⟩ : Sapi_Dec), (⟨y10.2.2.2.2.2.2.2.f_To.f_Set, y10.2.2.2.2.2.2.2.f_To.f_Level⟩ : Sapi_Label)⟩ : Sapi_Rule)))) (some (false, y10.2.2.1, y10.2.2.2.1, y10.2.2.2.2.1, y10.2.2.2.2.2.1, y10.2.2.2.2.2.2.1, (⟨y10.2.2.2.2.2.2.2.f_Tag, y10.2.2.2.2.2.2.2.f_Role, y10.2.2.2.2.2.2.2.f_Verb, y10.2.2.2.2.2.2.2.f_Ent, y10.2.2.2.2.2.2.2.f_Group, y10.2.2.2.2.2.2.2.f_Line, (⟨y10.2.2.2.2.2.2.2.f_Unit.f_Neg, (y10.2.2.2.2.2.2.2.f_Unit.f_C.1, y10.2.2.2.2.2.2.2.f_Unit.f_C.2), y10.2.2.2.2.2.2.2.f_Unit.f_Scale⟩ : Sapi_Dec), (⟨y10.2.2.2.2.2.2.2.f_To.f_Set, y10.2.2.2.2.2.2.2.f_To.f_Level⟩ : Sapi_Label)⟩ : Sapi_Rule)))) : Option (Bool × List Sapi_Ent × List Int × List Sapi_Who × List Int × List Sapi_Rule × Sapi_Rule)).bind fun y18 => (cond (y18.1) ((rule_within.f k y18.2.2.2.2.2.2.f_Verb 1 3).bind fun t19 => (cond (t19) ((rule_within.f k y18.2.2.2.2.2.2.f_Ent (-1) (IntKind.wrap .i64 ((List.length y18.2.1 : Int) - 1))).bind fun t20 => (some t20)) (some false))) (some false))) (cond (y10.1 == 3) ((((dec_Sign.f k (⟨y10.2.2.2.2.2.2.2.f_Unit.f_Neg, (y10.2.2.2.2.2.2.2.f_Unit.f_C.1, y10.2.2.2.2.2.2.2.f_Unit.f_C.2), y10.2.2.2.2.2.2.2.f_Unit.f_Scale⟩ : Sapi_Dec)).bind fun t21 => (cond (decide (t21 > 0)) (some (decide (y10.2.2.2.2.2.2.2.f_Unit.f_Scale ≤ 2), y10.2.2.1, y10.2.2.2.1, y10.2.2.2.2.1, y10.2.2.2.2.2.1, y10.2.2.2.2.2.2.1, (⟨y10.2.2.2.2.2.2.2.f_Tag, y10.2.2.2.2.2.2.2.f_Role, y10.2.2.2.2.2.2.2.f_Verb, y10.2.2.2.2.2.2.2.f_Ent, y10.2.2.2.2.2.2.2.f_Group, y10.2.2.2.2.2.2.2.f_Line, (⟨y10.2.2.2.2.2.2.2.f_Unit.f_Neg, (y10.2.2.2.2.2.2.2.f_Unit.f_C.1, y10.2.2.2.2.2.2.2.f_Unit.f_C.2), y10.2.2.2.2.2.2.2.f_Unit.f_Scale⟩ : Sapi_Dec), (⟨y10.2.2.2.2.2.2.2.f_To.f_Set, y10.2.2.2.2.2.2.2.f_To.f_Level⟩ : Sapi_Label)⟩ : Sapi_Rule))) (some (false, y10.2.2.1, y10.2.2.2.1, y10.2.2.2.2.1, y10.2.2.2.2.2.1, y10.2.2.2.2.2.2.1, (⟨y10.2.2.2.2.2.2.2.f_Tag, y10.2.2.2.2.2.2.2.f_Role, y10.2.2.2.2.2.2.2.f_Verb, y10.2.2.2.2.2.2.2.f_Ent, y10.2.2.2.2.2.2.2.f_Group, y10.2.2.2.2.2.2.2.f_Line, (⟨y10.2.2.2.2.2.2.2.f_Unit.f_Neg, (y10.2.2.2.2.2.2.2.f_Unit.f_C.1, y10.2.2.2.2.2.2.2.f_Unit.f_C.2), y10.2.2.2.2.2.2.2.f_Unit.f_Scale⟩ : Sapi_Dec), (⟨y10.2.2.2.2.2.2.2.f_To.f_Set, y10.2.2.2.2.2.2.2.f_To.f_Level⟩ : Sapi_Label)⟩ : Sapi_Rule))))) : Option (Bool × List Sapi_Ent × List Int × List Sapi_Who × List Int × List Sapi_Rule × Sapi_Rule)).bind fun y29 => (cond (y29.1) (cond (y29.2.2.2.2.2.2.f_Verb == 0) (cond (y29.2.2.2.2.2.2.f_Ent == (-1)) ((rule_within.f k y29.2.2.2.2.2.2.f_Group 0 (IntKind.wrap .i64 ((List.length y29.2.2.1 : Int) - 1))).bind fun t30 => (cond (t30) ((rule_within.f k y29.2.2.2.2.2.2.f_Line 0 5).bind fun t31 => (cond (t31) ((label_Right.f k (⟨y29.2.2.2.2.2.2.f_To.f_Set, y29.2.2.2.2.2.2.f_To.f_Level⟩ : Sapi_Label)).bind fun t32 => (some t32)) (some false))) (some false))) (some false)) (some false)) (some false))) (some false)))))
noncomputable def rule_rightRule.un (s : St U) : Option (Sapi_Policy × Sapi_Rule) := match s.get 0, s.get 1 with | .agg [.row C.Sapi_Ent x1, .row C.u64 x2, .row C.Sapi_Who x3, .row C.i64 x4, .row C.Sapi_Rule x5], .agg x6 => (cd_Sapi_Rule.full x6).bind fun x7 => (some ((⟨x1, x2, x3, x4, x5⟩ : Sapi_Policy), x7)) | _, _ => none
noncomputable def rule_rightRule.mk (x : (Sapi_Policy × Sapi_Rule)) : St U := ⟨[(0, .agg [.row C.Sapi_Ent x.1.f_Ents, .row C.u64 x.1.f_Groups, .row C.Sapi_Who x.1.f_Who, .row C.i64 x.1.f_Up, .row C.Sapi_Rule x.1.f_Rules]), (1, .agg (cd_Sapi_Rule.enc x.2))], []⟩
noncomputable def rule_rightRule.fin (y : Bool) : St U := ⟨[(0, .flat (.bool y))], []⟩
noncomputable def rule_rightRule.D (k : Nat) : FDen U := { X := (Sapi_Policy × Sapi_Rule), Y := Bool, nt := 97, gh := [], un := rule_rightRule.un, f := fun x => rule_rightRule.f k (x.1) (x.2), fin := rule_rightRule.fin, cl := true, clo := fun _ _ => rfl }
noncomputable def rule_rightRule.re (s : St U) : Option Bool := match s.get 0 with | .flat (.bool x1) => some x1 | _ => none
noncomputable def rule_rightRule.j5001.fin (y : (Int × Bool × List Sapi_Ent × List Int × List Sapi_Who × List Int × List Sapi_Rule × Sapi_Rule)) : Out U := match y with | (x8, x9, x2, x3, x4, x5, x6, x7) => .norm ⟨[(2, .ptr 2 0), (3, .ptr 3 0), (16, .flat (.int .i64 x8)), (17, .flat (.bool x9))], [(2, .lit [.row C.Sapi_Ent x2, .row C.u64 x3, .row C.Sapi_Who x4, .row C.i64 x5, .row C.Sapi_Rule x6]), (3, .lit (cd_Sapi_Rule.enc x7))]⟩
noncomputable def rule_rightRule.j5001.finK {ρ : Type} (y : (Int × Bool × List Sapi_Ent × List Int × List Sapi_Who × List Int × List Sapi_Rule × Sapi_Rule)) (K : Out U → Option ρ) : Option ρ := match y with | (x8, x9, x2, x3, x4, x5, x6, x7) => K (.norm ⟨[(2, .ptr 2 0), (3, .ptr 3 0), (16, .flat (.int .i64 x8)), (17, .flat (.bool x9))], [(2, .lit [.row C.Sapi_Ent x2, .row C.u64 x3, .row C.Sapi_Who x4, .row C.i64 x5, .row C.Sapi_Rule x6]), (3, .lit (cd_Sapi_Rule.enc x7))]⟩)
theorem rule_rightRule.j5001.finK_eq {ρ : Type} (y : (Int × Bool × List Sapi_Ent × List Int × List Sapi_Who × List Int × List Sapi_Rule × Sapi_Rule)) (K : Out U → Option ρ) : rule_rightRule.j5001.finK y K = K (rule_rightRule.j5001.fin y) := by
  unfold rule_rightRule.j5001.finK rule_rightRule.j5001.fin
  first | rfl | (split <;> rfl)
noncomputable def rule_rightRule.j5001.re : Out U → Option ((Int × Bool × List Sapi_Ent × List Int × List Sapi_Who × List Int × List Sapi_Rule × Sapi_Rule)) | .norm s => ((Cd.ofLit cd_Sapi_Rule s.o 3).bind fun q0 => (match s.get 2, s.get 3, s.get 16, s.get 17, lk s.o 2 with | .ptr 2 0, .ptr 3 0, .flat (.int .i64 x8), .flat (.bool x9), some (.lit [u2_0, u2_1, u2_2, u2_3, u2_4]) => (row_Sapi_Ent u2_0).bind fun w2_0 => ((row_u64 u2_1).bind fun w2_1 => ((row_Sapi_Who u2_2).bind fun w2_2 => ((row_i64 u2_3).bind fun w2_3 => ((row_Sapi_Rule u2_4).bind fun w2_4 => (some (x8, x9, w2_0, w2_1, w2_2, w2_3, w2_4, q0)))))) | _, _, _, _, _ => none)) | _ => none
noncomputable def rule_rightRule.j5001.J : JDen U := { Y := (Int × Bool × List Sapi_Ent × List Int × List Sapi_Who × List Int × List Sapi_Rule × Sapi_Rule), re := rule_rightRule.j5001.re, fin := rule_rightRule.j5001.fin, finK := rule_rightRule.j5001.finK, finK_eq := rule_rightRule.j5001.finK_eq }
theorem rule_rightRule.j5001.fit (o : Out U) (y : (Int × Bool × List Sapi_Ent × List Int × List Sapi_Who × List Int × List Sapi_Rule × Sapi_Rule)) (h : rule_rightRule.j5001.re o = some y) : FitsO o (rule_rightRule.j5001.fin y) := by
  unfold rule_rightRule.j5001.re at h
  split at h
  · obtain ⟨q0, eq0, h1⟩ := Option.bind_eq_some_iff.1 h
    split at h1
    · obtain ⟨w2_0, ew2_0, h2⟩ := Option.bind_eq_some_iff.1 h1
      obtain ⟨w2_1, ew2_1, h3⟩ := Option.bind_eq_some_iff.1 h2
      obtain ⟨w2_2, ew2_2, h4⟩ := Option.bind_eq_some_iff.1 h3
      obtain ⟨w2_3, ew2_3, h5⟩ := Option.bind_eq_some_iff.1 h4
      obtain ⟨w2_4, ew2_4, h6⟩ := Option.bind_eq_some_iff.1 h5
      cases h6
      refine fitsO_norm (fits_ren [] ?_ ?_ ren_nil rfl)
      · exact List.forall_mem_cons.2 ⟨FV.one (FV.ptr (by assumption)), List.forall_mem_cons.2 ⟨FV.one (FV.ptr (by assumption)), List.forall_mem_cons.2 ⟨FV.one (FV.same (by assumption) rfl), List.forall_mem_cons.2 ⟨FV.one (FV.same (by assumption) rfl), fun _ hp => (List.not_mem_nil hp).elim⟩⟩⟩⟩
      · exact List.forall_mem_cons.2 ⟨(FO.cells (show lk (St.o _) 2 = some _ from by assumption) (FCs.cons (row_Sapi_Ent_fit ew2_0) (FCs.cons (row_u64_fit ew2_1) (FCs.cons (row_Sapi_Who_fit ew2_2) (FCs.cons (row_i64_fit ew2_3) (FCs.cons (row_Sapi_Rule_fit ew2_4) (FCs.nil))))))), List.forall_mem_cons.2 ⟨(FO.same (Cd.ofLit_ok eq0) rfl), fun _ hp => (List.not_mem_nil hp).elim⟩⟩
    · cases h1
  · cases h
noncomputable def rule_rightRule.j6000.fin (y : (Bool × List Sapi_Ent × List Int × List Sapi_Who × List Int × List Sapi_Rule × Sapi_Rule)) : Out U := match y with | (x17, x11, x12, x13, x14, x15, x16) => .norm ⟨[(2, .ptr 2 0), (3, .ptr 3 0), (5, .flat (.bool x17))], [(2, .lit [.row C.Sapi_Ent x11, .row C.u64 x12, .row C.Sapi_Who x13, .row C.i64 x14, .row C.Sapi_Rule x15]), (3, .lit (cd_Sapi_Rule.enc x16))]⟩
noncomputable def rule_rightRule.j6000.finK {ρ : Type} (y : (Bool × List Sapi_Ent × List Int × List Sapi_Who × List Int × List Sapi_Rule × Sapi_Rule)) (K : Out U → Option ρ) : Option ρ := match y with | (x17, x11, x12, x13, x14, x15, x16) => K (.norm ⟨[(2, .ptr 2 0), (3, .ptr 3 0), (5, .flat (.bool x17))], [(2, .lit [.row C.Sapi_Ent x11, .row C.u64 x12, .row C.Sapi_Who x13, .row C.i64 x14, .row C.Sapi_Rule x15]), (3, .lit (cd_Sapi_Rule.enc x16))]⟩)
theorem rule_rightRule.j6000.finK_eq {ρ : Type} (y : (Bool × List Sapi_Ent × List Int × List Sapi_Who × List Int × List Sapi_Rule × Sapi_Rule)) (K : Out U → Option ρ) : rule_rightRule.j6000.finK y K = K (rule_rightRule.j6000.fin y) := by
  unfold rule_rightRule.j6000.finK rule_rightRule.j6000.fin
  first | rfl | (split <;> rfl)
noncomputable def rule_rightRule.j6000.re : Out U → Option ((Bool × List Sapi_Ent × List Int × List Sapi_Who × List Int × List Sapi_Rule × Sapi_Rule)) | .norm s => ((Cd.ofLit cd_Sapi_Rule s.o 3).bind fun q0 => (match s.get 2, s.get 3, s.get 5, lk s.o 2 with | .ptr 2 0, .ptr 3 0, .flat (.bool x17), some (.lit [u2_0, u2_1, u2_2, u2_3, u2_4]) => (row_Sapi_Ent u2_0).bind fun w2_0 => ((row_u64 u2_1).bind fun w2_1 => ((row_Sapi_Who u2_2).bind fun w2_2 => ((row_i64 u2_3).bind fun w2_3 => ((row_Sapi_Rule u2_4).bind fun w2_4 => (some (x17, w2_0, w2_1, w2_2, w2_3, w2_4, q0)))))) | _, _, _, _ => none)) | _ => none
noncomputable def rule_rightRule.j6000.J : JDen U := { Y := (Bool × List Sapi_Ent × List Int × List Sapi_Who × List Int × List Sapi_Rule × Sapi_Rule), re := rule_rightRule.j6000.re, fin := rule_rightRule.j6000.fin, finK := rule_rightRule.j6000.finK, finK_eq := rule_rightRule.j6000.finK_eq }
theorem rule_rightRule.j6000.fit (o : Out U) (y : (Bool × List Sapi_Ent × List Int × List Sapi_Who × List Int × List Sapi_Rule × Sapi_Rule)) (h : rule_rightRule.j6000.re o = some y) : FitsO o (rule_rightRule.j6000.fin y) := by
  unfold rule_rightRule.j6000.re at h
  split at h
  · obtain ⟨q0, eq0, h1⟩ := Option.bind_eq_some_iff.1 h
    split at h1
    · obtain ⟨w2_0, ew2_0, h2⟩ := Option.bind_eq_some_iff.1 h1
      obtain ⟨w2_1, ew2_1, h3⟩ := Option.bind_eq_some_iff.1 h2
      obtain ⟨w2_2, ew2_2, h4⟩ := Option.bind_eq_some_iff.1 h3
      obtain ⟨w2_3, ew2_3, h5⟩ := Option.bind_eq_some_iff.1 h4
      obtain ⟨w2_4, ew2_4, h6⟩ := Option.bind_eq_some_iff.1 h5
      cases h6
      refine fitsO_norm (fits_ren [] ?_ ?_ ren_nil rfl)
      · exact List.forall_mem_cons.2 ⟨FV.one (FV.ptr (by assumption)), List.forall_mem_cons.2 ⟨FV.one (FV.ptr (by assumption)), List.forall_mem_cons.2 ⟨FV.one (FV.same (by assumption) rfl), fun _ hp => (List.not_mem_nil hp).elim⟩⟩⟩
      · exact List.forall_mem_cons.2 ⟨(FO.cells (show lk (St.o _) 2 = some _ from by assumption) (FCs.cons (row_Sapi_Ent_fit ew2_0) (FCs.cons (row_u64_fit ew2_1) (FCs.cons (row_Sapi_Who_fit ew2_2) (FCs.cons (row_i64_fit ew2_3) (FCs.cons (row_Sapi_Rule_fit ew2_4) (FCs.nil))))))), List.forall_mem_cons.2 ⟨(FO.same (Cd.ofLit_ok eq0) rfl), fun _ hp => (List.not_mem_nil hp).elim⟩⟩
    · cases h1
  · cases h
noncomputable def rule_rightRule.j9000.fin (y : (Bool × List Sapi_Ent × List Int × List Sapi_Who × List Int × List Sapi_Rule × Sapi_Rule)) : Out U := match y with | (x28, x22, x23, x24, x25, x26, x27) => .norm ⟨[(2, .ptr 2 0), (3, .ptr 3 0), (6, .flat (.bool x28))], [(2, .lit [.row C.Sapi_Ent x22, .row C.u64 x23, .row C.Sapi_Who x24, .row C.i64 x25, .row C.Sapi_Rule x26]), (3, .lit (cd_Sapi_Rule.enc x27))]⟩
noncomputable def rule_rightRule.j9000.finK {ρ : Type} (y : (Bool × List Sapi_Ent × List Int × List Sapi_Who × List Int × List Sapi_Rule × Sapi_Rule)) (K : Out U → Option ρ) : Option ρ := match y with | (x28, x22, x23, x24, x25, x26, x27) => K (.norm ⟨[(2, .ptr 2 0), (3, .ptr 3 0), (6, .flat (.bool x28))], [(2, .lit [.row C.Sapi_Ent x22, .row C.u64 x23, .row C.Sapi_Who x24, .row C.i64 x25, .row C.Sapi_Rule x26]), (3, .lit (cd_Sapi_Rule.enc x27))]⟩)
theorem rule_rightRule.j9000.finK_eq {ρ : Type} (y : (Bool × List Sapi_Ent × List Int × List Sapi_Who × List Int × List Sapi_Rule × Sapi_Rule)) (K : Out U → Option ρ) : rule_rightRule.j9000.finK y K = K (rule_rightRule.j9000.fin y) := by
  unfold rule_rightRule.j9000.finK rule_rightRule.j9000.fin
  first | rfl | (split <;> rfl)
noncomputable def rule_rightRule.j9000.re : Out U → Option ((Bool × List Sapi_Ent × List Int × List Sapi_Who × List Int × List Sapi_Rule × Sapi_Rule)) | .norm s => ((Cd.ofLit cd_Sapi_Rule s.o 3).bind fun q0 => (match s.get 2, s.get 3, s.get 6, lk s.o 2 with | .ptr 2 0, .ptr 3 0, .flat (.bool x28), some (.lit [u2_0, u2_1, u2_2, u2_3, u2_4]) => (row_Sapi_Ent u2_0).bind fun w2_0 => ((row_u64 u2_1).bind fun w2_1 => ((row_Sapi_Who u2_2).bind fun w2_2 => ((row_i64 u2_3).bind fun w2_3 => ((row_Sapi_Rule u2_4).bind fun w2_4 => (some (x28, w2_0, w2_1, w2_2, w2_3, w2_4, q0)))))) | _, _, _, _ => none)) | _ => none
noncomputable def rule_rightRule.j9000.J : JDen U := { Y := (Bool × List Sapi_Ent × List Int × List Sapi_Who × List Int × List Sapi_Rule × Sapi_Rule), re := rule_rightRule.j9000.re, fin := rule_rightRule.j9000.fin, finK := rule_rightRule.j9000.finK, finK_eq := rule_rightRule.j9000.finK_eq }
theorem rule_rightRule.j9000.fit (o : Out U) (y : (Bool × List Sapi_Ent × List Int × List Sapi_Who × List Int × List Sapi_Rule × Sapi_Rule)) (h : rule_rightRule.j9000.re o = some y) : FitsO o (rule_rightRule.j9000.fin y) := by
  unfold rule_rightRule.j9000.re at h
  split at h
  · obtain ⟨q0, eq0, h1⟩ := Option.bind_eq_some_iff.1 h
    split at h1
    · obtain ⟨w2_0, ew2_0, h2⟩ := Option.bind_eq_some_iff.1 h1
      obtain ⟨w2_1, ew2_1, h3⟩ := Option.bind_eq_some_iff.1 h2
      obtain ⟨w2_2, ew2_2, h4⟩ := Option.bind_eq_some_iff.1 h3
      obtain ⟨w2_3, ew2_3, h5⟩ := Option.bind_eq_some_iff.1 h4
      obtain ⟨w2_4, ew2_4, h6⟩ := Option.bind_eq_some_iff.1 h5
      cases h6
      refine fitsO_norm (fits_ren [] ?_ ?_ ren_nil rfl)
      · exact List.forall_mem_cons.2 ⟨FV.one (FV.ptr (by assumption)), List.forall_mem_cons.2 ⟨FV.one (FV.ptr (by assumption)), List.forall_mem_cons.2 ⟨FV.one (FV.same (by assumption) rfl), fun _ hp => (List.not_mem_nil hp).elim⟩⟩⟩
      · exact List.forall_mem_cons.2 ⟨(FO.cells (show lk (St.o _) 2 = some _ from by assumption) (FCs.cons (row_Sapi_Ent_fit ew2_0) (FCs.cons (row_u64_fit ew2_1) (FCs.cons (row_Sapi_Who_fit ew2_2) (FCs.cons (row_i64_fit ew2_3) (FCs.cons (row_Sapi_Rule_fit ew2_4) (FCs.nil))))))), List.forall_mem_cons.2 ⟨(FO.same (Cd.ofLit_ok eq0) rfl), fun _ hp => (List.not_mem_nil hp).elim⟩⟩
    · cases h1
  · cases h
noncomputable def rule_rightRule.jl : List (Nat × JDen U) := [(5001, rule_rightRule.j5001.J), (6000, rule_rightRule.j6000.J), (9000, rule_rightRule.j9000.J)]
noncomputable def rule_rightRule.fl (k : Nat) : List (Nat × FDen U) := [(76, rule_within.D k), (61, dec_Sign.D k), (90, label_Right.D k)]
noncomputable def rule_rightRule.ll (k : Nat) : List (Nat × LDen U) := []
noncomputable def rule_rightRule.E (k : Nat) : Env U := { P := Try.prog, D := DD, fd := lk (rule_rightRule.fl k), ld := lk (rule_rightRule.ll k), jd := lk rule_rightRule.jl, mode := lk [], elc := lk ec, mpc := lk mc, rts := Try.f92.resultTypes.toList, dyn := fun t => false, vecs := fun d => false, results := Try.f92.results.toList, gh := [], own := false, io := fun g i => false }
theorem rule_rightRule.ok (k : Nat) : EnvOk (rule_rightRule.E k) := envOk lawful (rule_rightRule.fl k) (rule_rightRule.ll k) rule_rightRule.jl _ _ _ _ _ _ _ _ _ _ (by
  intro p hp
  simp only [rule_rightRule.fl, List.mem_cons, List.not_mem_nil, or_false] at hp
  rcases hp with rfl | rfl | rfl
  · exact ⟨rule_within.sound k, enter_of Try.func76 (by kernel_rfl) (by kernel_rfl)⟩
  · exact ⟨dec_Sign.sound k, enter_of Try.func61 (by kernel_rfl) (by kernel_rfl)⟩
  · exact ⟨label_Right.sound k, enter_of Try.func90 (by kernel_rfl) (by kernel_rfl)⟩) (by
  intro p hp
  simp only [rule_rightRule.jl, List.mem_cons, List.not_mem_nil, or_false] at hp
  rcases hp with rfl | rfl | rfl
  · exact rule_rightRule.j5001.fit
  · exact rule_rightRule.j6000.fit
  · exact rule_rightRule.j9000.fit)
theorem rule_rightRule.eq (k : Nat) (x : (Sapi_Policy × Sapi_Rule)) : runF (rule_rightRule.E k) (codeOf Try.f92) (rule_rightRule.mk x) rule_rightRule.re = (rule_rightRule.D k).f x := by kernel_rfl
theorem rule_rightRule.fit (s : St U) (x : (Sapi_Policy × Sapi_Rule)) (h : rule_rightRule.un s = some x) : Fits s (rule_rightRule.mk x) := by
  unfold rule_rightRule.un at h
  split at h
  · obtain ⟨x7, hx7, hh1⟩ := Option.bind_eq_some_iff.1 h
    have hc1 := Cd.full_ok hx7
    clear hx7
    subst hc1
    cases hh1
    refine fits_ren [] ?_ ?_ ren_nil rfl
    · exact List.forall_mem_cons.2 ⟨FV.one (FV.same (by assumption) rfl), List.forall_mem_cons.2 ⟨FV.one (FV.same (by assumption) rfl), fun _ hp => (List.not_mem_nil hp).elim⟩⟩
    · exact fun _ hp => (List.not_mem_nil hp).elim
  · cases h
theorem rule_rightRule.fitR (s : St U) (y : Bool) (h : rule_rightRule.re s = some y) : Fits s (rule_rightRule.fin y) := by
  unfold rule_rightRule.re at h
  split at h
  · cases h
    refine fits_ren [] ?_ ?_ ren_nil rfl
    · exact List.forall_mem_cons.2 ⟨FV.one (FV.same (by assumption) rfl), fun _ hp => (List.not_mem_nil hp).elim⟩
    · exact fun _ hp => (List.not_mem_nil hp).elim
  · cases h
theorem rule_rightRule.sound (k : Nat) : Sound Try.prog DD 92 (rule_rightRule.D k) :=
  fun_sound (E := rule_rightRule.E k) (fn := Try.f92) (c := codeOf Try.f92) (rule_rightRule.ok k) mixed rfl Try.func92 (by kernel_rfl) (by kernel_rfl) (allL_of (l := []) (by kernel_rfl) allL_nil) (rule_rightRule.D k) rule_rightRule.mk rule_rightRule.re (by kernel_rfl) (by kernel_rfl) rule_rightRule.fit rule_rightRule.fitR (rule_rightRule.eq k)
/-! ### pyx/rule.Right$3: function 91 -/
noncomputable def rule_Right_3.f (k : Nat) (a0 : Sapi_Rule) (a1 : Sapi_Policy) : Option Bool := (rule_rightRule.f k (⟨a1.f_Ents, a1.f_Groups, a1.f_Who, a1.f_Up, a1.f_Rules⟩ : Sapi_Policy) (⟨a0.f_Tag, a0.f_Role, a0.f_Verb, a0.f_Ent, a0.f_Group, a0.f_Line, (⟨a0.f_Unit.f_Neg, (a0.f_Unit.f_C.1, a0.f_Unit.f_C.2), a0.f_Unit.f_Scale⟩ : Sapi_Dec), (⟨a0.f_To.f_Set, a0.f_To.f_Level⟩ : Sapi_Label)⟩ : Sapi_Rule)).bind fun t1 => (some (!t1))
noncomputable def rule_Right_3.un (s : St U) : Option (Sapi_Rule × Sapi_Policy) := match s.get 0, s.get 1 with | .agg x1, .rp [.row C.Sapi_Ent x3, .row C.u64 x4, .row C.Sapi_Who x5, .row C.i64 x6, .row C.Sapi_Rule x7] 0 => (cd_Sapi_Rule.full x1).bind fun x2 => (some (x2, (⟨x3, x4, x5, x6, x7⟩ : Sapi_Policy))) | _, _ => none
noncomputable def rule_Right_3.mk (x : (Sapi_Rule × Sapi_Policy)) : St U := ⟨[(0, .agg (cd_Sapi_Rule.enc x.1)), (1, .rp [.row C.Sapi_Ent x.2.f_Ents, .row C.u64 x.2.f_Groups, .row C.Sapi_Who x.2.f_Who, .row C.i64 x.2.f_Up, .row C.Sapi_Rule x.2.f_Rules] 0)], []⟩
noncomputable def rule_Right_3.fin (y : Bool) : St U := ⟨[(0, .flat (.bool y))], []⟩
noncomputable def rule_Right_3.D (k : Nat) : FDen U := { X := (Sapi_Rule × Sapi_Policy), Y := Bool, nt := 8, gh := [], un := rule_Right_3.un, f := fun x => rule_Right_3.f k (x.1) (x.2), fin := rule_Right_3.fin, cl := true, clo := fun _ _ => rfl }
noncomputable def rule_Right_3.re (s : St U) : Option Bool := match s.get 0 with | .flat (.bool x1) => some x1 | _ => none
noncomputable def rule_Right_3.jl : List (Nat × JDen U) := []
noncomputable def rule_Right_3.fl (k : Nat) : List (Nat × FDen U) := [(92, rule_rightRule.D k)]
noncomputable def rule_Right_3.ll (k : Nat) : List (Nat × LDen U) := []
noncomputable def rule_Right_3.E (k : Nat) : Env U := { P := Try.prog, D := DD, fd := lk (rule_Right_3.fl k), ld := lk (rule_Right_3.ll k), jd := lk rule_Right_3.jl, mode := lk [], elc := lk ec, mpc := lk mc, rts := Try.f91.resultTypes.toList, dyn := fun t => false, vecs := fun d => false, results := Try.f91.results.toList, gh := [], own := false, io := fun g i => false }
theorem rule_Right_3.ok (k : Nat) : EnvOk (rule_Right_3.E k) := envOk lawful (rule_Right_3.fl k) (rule_Right_3.ll k) rule_Right_3.jl _ _ _ _ _ _ _ _ _ _ (by
  intro p hp
  simp only [rule_Right_3.fl, List.mem_cons, List.not_mem_nil, or_false] at hp
  rcases hp with rfl
  · exact ⟨rule_rightRule.sound k, enter_of Try.func92 (by kernel_rfl) (by kernel_rfl)⟩) (by
  intro p hp
  simp [rule_Right_3.jl] at hp)
theorem rule_Right_3.eq (k : Nat) (x : (Sapi_Rule × Sapi_Policy)) : runF (rule_Right_3.E k) (codeOf Try.f91) (rule_Right_3.mk x) rule_Right_3.re = (rule_Right_3.D k).f x := by kernel_rfl
theorem rule_Right_3.fit (s : St U) (x : (Sapi_Rule × Sapi_Policy)) (h : rule_Right_3.un s = some x) : Fits s (rule_Right_3.mk x) := by
  unfold rule_Right_3.un at h
  split at h
  · obtain ⟨x2, hx2, hh1⟩ := Option.bind_eq_some_iff.1 h
    have hc1 := Cd.full_ok hx2
    clear hx2
    subst hc1
    cases hh1
    refine fits_ren [] ?_ ?_ ren_nil rfl
    · exact List.forall_mem_cons.2 ⟨FV.one (FV.same (by assumption) rfl), List.forall_mem_cons.2 ⟨FV.one (FV.same (by assumption) rfl), fun _ hp => (List.not_mem_nil hp).elim⟩⟩
    · exact fun _ hp => (List.not_mem_nil hp).elim
  · cases h
theorem rule_Right_3.fitR (s : St U) (y : Bool) (h : rule_Right_3.re s = some y) : Fits s (rule_Right_3.fin y) := by
  unfold rule_Right_3.re at h
  split at h
  · cases h
    refine fits_ren [] ?_ ?_ ren_nil rfl
    · exact List.forall_mem_cons.2 ⟨FV.one (FV.same (by assumption) rfl), fun _ hp => (List.not_mem_nil hp).elim⟩
    · exact fun _ hp => (List.not_mem_nil hp).elim
  · cases h
theorem rule_Right_3.sound (k : Nat) : Sound Try.prog DD 91 (rule_Right_3.D k) :=
  fun_sound (E := rule_Right_3.E k) (fn := Try.f91) (c := codeOf Try.f91) (rule_Right_3.ok k) mixed rfl Try.func91 (by kernel_rfl) (by kernel_rfl) (allL_of (l := []) (by kernel_rfl) allL_nil) (rule_Right_3.D k) rule_Right_3.mk rule_Right_3.re (by kernel_rfl) (by kernel_rfl) rule_Right_3.fit rule_Right_3.fitR (rule_Right_3.eq k)
/-! ### slices.IndexFunc[[]pyx/api.Rule,pyx/api.Rule]: function 105 -/
noncomputable def slices_IndexFunc_api_Rule_c91.l2.once (k : Nat) (x : (List Sapi_Rule × List Sapi_Ent × List Int × List Sapi_Who × List Int × List Sapi_Rule × Int × Int)) : Option ((List Sapi_Rule × List Sapi_Ent × List Int × List Sapi_Who × List Int × List Sapi_Rule × Int × Int) ⊕ (Unit ⊕ Int)) := match x with | (x1, x2, x3, x4, x5, x6, x7, x8) => cond (decide (x8 < x7)) (cond (inb x8 (List.length x1)) ((rule_Right_3.f k (⟨(List.getD x1 (Int.toNat x8) Sapi_Rule.zero).f_Tag, (List.getD x1 (Int.toNat x8) Sapi_Rule.zero).f_Role, (List.getD x1 (Int.toNat x8) Sapi_Rule.zero).f_Verb, (List.getD x1 (Int.toNat x8) Sapi_Rule.zero).f_Ent, (List.getD x1 (Int.toNat x8) Sapi_Rule.zero).f_Group, (List.getD x1 (Int.toNat x8) Sapi_Rule.zero).f_Line, (⟨((List.getD x1 (Int.toNat x8) Sapi_Rule.zero).f_Unit).f_Neg, ((((List.getD x1 (Int.toNat x8) Sapi_Rule.zero).f_Unit).f_C).1, (((List.getD x1 (Int.toNat x8) Sapi_Rule.zero).f_Unit).f_C).2), ((List.getD x1 (Int.toNat x8) Sapi_Rule.zero).f_Unit).f_Scale⟩ : Sapi_Dec), (⟨((List.getD x1 (Int.toNat x8) Sapi_Rule.zero).f_To).f_Set, ((List.getD x1 (Int.toNat x8) Sapi_Rule.zero).f_To).f_Level⟩ : Sapi_Label)⟩ : Sapi_Rule) (⟨x2, x3, x4, x5, x6⟩ : Sapi_Policy)).bind fun t9 => (cond (t9) (some (.inr (.inr x8))) (some (.inl (x1, x2, x3, x4, x5, x6, x7, IntKind.wrap .i64 (x8 + 1)))))) none) (some (.inr (.inl ())))
noncomputable def slices_IndexFunc_api_Rule_c91.f (k : Nat) (a0 : List Sapi_Rule) (a1 : Sapi_Policy) : Option Int := (iter (slices_IndexFunc_api_Rule_c91.l2.once k) k (a0, a1.f_Ents, a1.f_Groups, a1.f_Who, a1.f_Up, a1.f_Rules, (List.length a0 : Int), 0)).bind fun | .inl y11 => (some (-1)) | .inr y12 => (some y12)
noncomputable def slices_IndexFunc_api_Rule_c91.un (s : St U) : Option (List Sapi_Rule × Sapi_Policy) := match s.get 0, s.get 1 with | .row C.Sapi_Rule x1, .fn 91 [.rp [.row C.Sapi_Ent x2, .row C.u64 x3, .row C.Sapi_Who x4, .row C.i64 x5, .row C.Sapi_Rule x6] 0] => some (x1, (⟨x2, x3, x4, x5, x6⟩ : Sapi_Policy)) | _, _ => none
noncomputable def slices_IndexFunc_api_Rule_c91.mk (x : (List Sapi_Rule × Sapi_Policy)) : St U := ⟨[(0, .row C.Sapi_Rule x.1), (1, .fn 91 [.rp [.row C.Sapi_Ent x.2.f_Ents, .row C.u64 x.2.f_Groups, .row C.Sapi_Who x.2.f_Who, .row C.i64 x.2.f_Up, .row C.Sapi_Rule x.2.f_Rules] 0])], []⟩
noncomputable def slices_IndexFunc_api_Rule_c91.fin (y : Int) : St U := ⟨[(0, .flat (.int .i64 y))], []⟩
noncomputable def slices_IndexFunc_api_Rule_c91.D (k : Nat) : FDen U := { X := (List Sapi_Rule × Sapi_Policy), Y := Int, nt := 19, gh := [], un := slices_IndexFunc_api_Rule_c91.un, f := fun x => slices_IndexFunc_api_Rule_c91.f k (x.1) (x.2), fin := slices_IndexFunc_api_Rule_c91.fin, cl := true, clo := fun _ _ => rfl }
noncomputable def slices_IndexFunc_api_Rule_c91.re (s : St U) : Option Int := match s.get 0 with | .flat (.int .i64 x1) => some x1 | _ => none
noncomputable def slices_IndexFunc_api_Rule_c91.l2.mk (x : (List Sapi_Rule × List Sapi_Ent × List Int × List Sapi_Who × List Int × List Sapi_Rule × Int × Int)) : St U := match x with | (x1, x2, x3, x4, x5, x6, x7, x8) => ⟨[(0, .row C.Sapi_Rule x1), (1, .fn 91 [.rp [.row C.Sapi_Ent x2, .row C.u64 x3, .row C.Sapi_Who x4, .row C.i64 x5, .row C.Sapi_Rule x6] 0]), (7, .flat (.int .i64 x7)), (8, .flat (.int .i64 x8))], []⟩
noncomputable def slices_IndexFunc_api_Rule_c91.l2.un (s : St U) : Option (List Sapi_Rule × List Sapi_Ent × List Int × List Sapi_Who × List Int × List Sapi_Rule × Int × Int) := (row_Sapi_Rule (s.get 0)).bind fun q0 => (match s.get 1, s.get 7, s.get 8 with | .fn 91 [.rp [.row C.Sapi_Ent x2, .row C.u64 x3, .row C.Sapi_Who x4, .row C.i64 x5, .row C.Sapi_Rule x6] 0], .flat (.int .i64 x7), .flat (.int .i64 x8) => some (q0, x2, x3, x4, x5, x6, x7, x8) | _, _, _ => none)
noncomputable def slices_IndexFunc_api_Rule_c91.l2.fin (y : Unit ⊕ Int) : Out U := match y with | .inl () => .exit 0 ⟨[], []⟩ | .inr z => .ret (⟨[(0, .flat (.int .i64 z))], []⟩)
noncomputable def slices_IndexFunc_api_Rule_c91.l2.finK {ρ : Type} (y : Unit ⊕ Int) (K : Out U → Option ρ) : Option ρ := match y with | .inl () => K (.exit 0 ⟨[], []⟩) | .inr z => K (.ret (⟨[(0, .flat (.int .i64 z))], []⟩))
theorem slices_IndexFunc_api_Rule_c91.l2.finK_eq {ρ : Type} (y : Unit ⊕ Int) (K : Out U → Option ρ) : slices_IndexFunc_api_Rule_c91.l2.finK y K = K (slices_IndexFunc_api_Rule_c91.l2.fin y) := by
  unfold slices_IndexFunc_api_Rule_c91.l2.finK slices_IndexFunc_api_Rule_c91.l2.fin
  first | rfl | (split <;> rfl)
noncomputable def slices_IndexFunc_api_Rule_c91.l2.re : Out U → Option (Unit ⊕ Int) | .exit 0 s => (some (.inl ())) | .ret s => (match s.get 0 with | .flat (.int .i64 x1) => some (.inr x1) | _ => none) | _ => none
noncomputable def slices_IndexFunc_api_Rule_c91.l2.L (k : Nat) : LDen U := { X := (List Sapi_Rule × List Sapi_Ent × List Int × List Sapi_Who × List Int × List Sapi_Rule × Int × Int), Y := Unit ⊕ Int, un := slices_IndexFunc_api_Rule_c91.l2.un, f := iter (slices_IndexFunc_api_Rule_c91.l2.once k) k, fin := slices_IndexFunc_api_Rule_c91.l2.fin, finK := slices_IndexFunc_api_Rule_c91.l2.finK, finK_eq := slices_IndexFunc_api_Rule_c91.l2.finK_eq }
noncomputable def slices_IndexFunc_api_Rule_c91.jl : List (Nat × JDen U) := []
noncomputable def slices_IndexFunc_api_Rule_c91.fl (k : Nat) : List (Nat × FDen U) := [(91, rule_Right_3.D k)]
noncomputable def slices_IndexFunc_api_Rule_c91.ll (k : Nat) : List (Nat × LDen U) := [(2, slices_IndexFunc_api_Rule_c91.l2.L k)]
noncomputable def slices_IndexFunc_api_Rule_c91.E (k : Nat) : Env U := { P := Try.prog, D := DD, fd := lk (slices_IndexFunc_api_Rule_c91.fl k), ld := lk (slices_IndexFunc_api_Rule_c91.ll k), jd := lk slices_IndexFunc_api_Rule_c91.jl, mode := lk [], elc := lk ec, mpc := lk mc, rts := Try.f105.resultTypes.toList, dyn := fun t => false, vecs := fun d => false, results := Try.f105.results.toList, gh := [], own := false, io := fun g i => false }
theorem slices_IndexFunc_api_Rule_c91.ok (k : Nat) : EnvOk (slices_IndexFunc_api_Rule_c91.E k) := envOk lawful (slices_IndexFunc_api_Rule_c91.fl k) (slices_IndexFunc_api_Rule_c91.ll k) slices_IndexFunc_api_Rule_c91.jl _ _ _ _ _ _ _ _ _ _ (by
  intro p hp
  simp only [slices_IndexFunc_api_Rule_c91.fl, List.mem_cons, List.not_mem_nil, or_false] at hp
  rcases hp with rfl
  · exact ⟨rule_Right_3.sound k, enter_of Try.func91 (by kernel_rfl) (by kernel_rfl)⟩) (by
  intro p hp
  simp [slices_IndexFunc_api_Rule_c91.jl] at hp)
theorem slices_IndexFunc_api_Rule_c91.l2.eq (k : Nat) (x : (List Sapi_Rule × List Sapi_Ent × List Int × List Sapi_Who × List Int × List Sapi_Rule × Int × Int)) : evC (slices_IndexFunc_api_Rule_c91.E k) (loopAt Try.f105 2) (slices_IndexFunc_api_Rule_c91.l2.mk x) (headK slices_IndexFunc_api_Rule_c91.l2.un slices_IndexFunc_api_Rule_c91.l2.re) = slices_IndexFunc_api_Rule_c91.l2.once k x := by kernel_rfl
theorem slices_IndexFunc_api_Rule_c91.l2.fit (s : St U) (x : (List Sapi_Rule × List Sapi_Ent × List Int × List Sapi_Who × List Int × List Sapi_Rule × Int × Int)) (h : slices_IndexFunc_api_Rule_c91.l2.un s = some x) : Fits s (slices_IndexFunc_api_Rule_c91.l2.mk x) := by
  unfold slices_IndexFunc_api_Rule_c91.l2.un at h
  obtain ⟨q0, eq0, h1⟩ := Option.bind_eq_some_iff.1 h
  split at h1
  · cases h1
    refine fits_ren [] ?_ ?_ ren_nil rfl
    · exact List.forall_mem_cons.2 ⟨FV.one (row_Sapi_Rule_fit eq0), List.forall_mem_cons.2 ⟨FV.one (FV.same (by assumption) rfl), List.forall_mem_cons.2 ⟨FV.one (FV.same (by assumption) rfl), List.forall_mem_cons.2 ⟨FV.one (FV.same (by assumption) rfl), fun _ hp => (List.not_mem_nil hp).elim⟩⟩⟩⟩
    · exact fun _ hp => (List.not_mem_nil hp).elim
  · cases h1
theorem slices_IndexFunc_api_Rule_c91.l2.fitO (o : Out U) (y : Unit ⊕ Int) (h : slices_IndexFunc_api_Rule_c91.l2.re o = some y) : FitsO o (slices_IndexFunc_api_Rule_c91.l2.fin y) := by
  unfold slices_IndexFunc_api_Rule_c91.l2.re at h
  split at h
  · cases h
    refine fitsO_exit (fits_ren [] ?_ ?_ ren_nil rfl)
    · exact fun _ hp => (List.not_mem_nil hp).elim
    · exact fun _ hp => (List.not_mem_nil hp).elim
  · split at h
    · cases h
      refine fitsO_ret (fits_ren [] ?_ ?_ ren_nil rfl)
      · exact List.forall_mem_cons.2 ⟨FV.one (FV.same (by assumption) rfl), fun _ hp => (List.not_mem_nil hp).elim⟩
      · exact fun _ hp => (List.not_mem_nil hp).elim
    · cases h
  · cases h
theorem slices_IndexFunc_api_Rule_c91.l2.sound (k : Nat) : LSound (slices_IndexFunc_api_Rule_c91.E k) Try.f105.ntmps Try.f105 (loopAt Try.f105 2) (slices_IndexFunc_api_Rule_c91.l2.L k) :=
  loop_sound (slices_IndexFunc_api_Rule_c91.ok k) mixed rfl (by kernel_rfl) (allL_of (l := []) (by kernel_rfl) allL_nil) slices_IndexFunc_api_Rule_c91.l2.un slices_IndexFunc_api_Rule_c91.l2.mk slices_IndexFunc_api_Rule_c91.l2.fin slices_IndexFunc_api_Rule_c91.l2.re (slices_IndexFunc_api_Rule_c91.l2.once k) k slices_IndexFunc_api_Rule_c91.l2.fit slices_IndexFunc_api_Rule_c91.l2.fitO (slices_IndexFunc_api_Rule_c91.l2.eq k) slices_IndexFunc_api_Rule_c91.l2.finK slices_IndexFunc_api_Rule_c91.l2.finK_eq
theorem slices_IndexFunc_api_Rule_c91.eq (k : Nat) (x : (List Sapi_Rule × Sapi_Policy)) : runF (slices_IndexFunc_api_Rule_c91.E k) (codeOf Try.f105) (slices_IndexFunc_api_Rule_c91.mk x) slices_IndexFunc_api_Rule_c91.re = (slices_IndexFunc_api_Rule_c91.D k).f x := by kernel_rfl
theorem slices_IndexFunc_api_Rule_c91.fit (s : St U) (x : (List Sapi_Rule × Sapi_Policy)) (h : slices_IndexFunc_api_Rule_c91.un s = some x) : Fits s (slices_IndexFunc_api_Rule_c91.mk x) := by
  unfold slices_IndexFunc_api_Rule_c91.un at h
  split at h
  · cases h
    refine fits_ren [] ?_ ?_ ren_nil rfl
    · exact List.forall_mem_cons.2 ⟨FV.one (FV.same (by assumption) rfl), List.forall_mem_cons.2 ⟨FV.one (FV.same (by assumption) rfl), fun _ hp => (List.not_mem_nil hp).elim⟩⟩
    · exact fun _ hp => (List.not_mem_nil hp).elim
  · cases h
theorem slices_IndexFunc_api_Rule_c91.fitR (s : St U) (y : Int) (h : slices_IndexFunc_api_Rule_c91.re s = some y) : Fits s (slices_IndexFunc_api_Rule_c91.fin y) := by
  unfold slices_IndexFunc_api_Rule_c91.re at h
  split at h
  · cases h
    refine fits_ren [] ?_ ?_ ren_nil rfl
    · exact List.forall_mem_cons.2 ⟨FV.one (FV.same (by assumption) rfl), fun _ hp => (List.not_mem_nil hp).elim⟩
    · exact fun _ hp => (List.not_mem_nil hp).elim
  · cases h
theorem slices_IndexFunc_api_Rule_c91.sound (k : Nat) : Sound Try.prog DD 105 (slices_IndexFunc_api_Rule_c91.D k) :=
  fun_sound (E := slices_IndexFunc_api_Rule_c91.E k) (fn := Try.f105) (c := codeOf Try.f105) (slices_IndexFunc_api_Rule_c91.ok k) mixed rfl Try.func105 (by kernel_rfl) (by kernel_rfl) (allL_of (l := [loopAt Try.f105 2]) (by kernel_rfl) (allL_cons (key := 2) (by kernel_rfl) rfl (slices_IndexFunc_api_Rule_c91.l2.sound k) allL_nil)) (slices_IndexFunc_api_Rule_c91.D k) slices_IndexFunc_api_Rule_c91.mk slices_IndexFunc_api_Rule_c91.re (by kernel_rfl) (by kernel_rfl) slices_IndexFunc_api_Rule_c91.fit slices_IndexFunc_api_Rule_c91.fitR (slices_IndexFunc_api_Rule_c91.eq k)
/-! ### slices.ContainsFunc[[]pyx/api.Rule,pyx/api.Rule]: function 78 -/
noncomputable def slices_ContainsFunc_api_Rule_c91.f (k : Nat) (a0 : List Sapi_Rule) (a1 : Sapi_Policy) : Option Bool := (slices_IndexFunc_api_Rule_c91.f k a0 (⟨a1.f_Ents, a1.f_Groups, a1.f_Who, a1.f_Up, a1.f_Rules⟩ : Sapi_Policy)).bind fun t1 => (some (decide (t1 ≥ 0)))
noncomputable def slices_ContainsFunc_api_Rule_c91.un (s : St U) : Option (List Sapi_Rule × Sapi_Policy) := match s.get 0, s.get 1 with | .row C.Sapi_Rule x1, .fn 91 [.rp [.row C.Sapi_Ent x2, .row C.u64 x3, .row C.Sapi_Who x4, .row C.i64 x5, .row C.Sapi_Rule x6] 0] => some (x1, (⟨x2, x3, x4, x5, x6⟩ : Sapi_Policy)) | _, _ => none
noncomputable def slices_ContainsFunc_api_Rule_c91.mk (x : (List Sapi_Rule × Sapi_Policy)) : St U := ⟨[(0, .row C.Sapi_Rule x.1), (1, .fn 91 [.rp [.row C.Sapi_Ent x.2.f_Ents, .row C.u64 x.2.f_Groups, .row C.Sapi_Who x.2.f_Who, .row C.i64 x.2.f_Up, .row C.Sapi_Rule x.2.f_Rules] 0])], []⟩
noncomputable def slices_ContainsFunc_api_Rule_c91.fin (y : Bool) : St U := ⟨[(0, .flat (.bool y))], []⟩
noncomputable def slices_ContainsFunc_api_Rule_c91.D (k : Nat) : FDen U := { X := (List Sapi_Rule × Sapi_Policy), Y := Bool, nt := 9, gh := [], un := slices_ContainsFunc_api_Rule_c91.un, f := fun x => slices_ContainsFunc_api_Rule_c91.f k (x.1) (x.2), fin := slices_ContainsFunc_api_Rule_c91.fin, cl := true, clo := fun _ _ => rfl }
noncomputable def slices_ContainsFunc_api_Rule_c91.re (s : St U) : Option Bool := match s.get 0 with | .flat (.bool x1) => some x1 | _ => none
noncomputable def slices_ContainsFunc_api_Rule_c91.jl : List (Nat × JDen U) := []
noncomputable def slices_ContainsFunc_api_Rule_c91.fl (k : Nat) : List (Nat × FDen U) := [(105, slices_IndexFunc_api_Rule_c91.D k)]
noncomputable def slices_ContainsFunc_api_Rule_c91.ll (k : Nat) : List (Nat × LDen U) := []
noncomputable def slices_ContainsFunc_api_Rule_c91.E (k : Nat) : Env U := { P := Try.prog, D := DD, fd := lk (slices_ContainsFunc_api_Rule_c91.fl k), ld := lk (slices_ContainsFunc_api_Rule_c91.ll k), jd := lk slices_ContainsFunc_api_Rule_c91.jl, mode := lk [], elc := lk ec, mpc := lk mc, rts := Try.f78.resultTypes.toList, dyn := fun t => false, vecs := fun d => false, results := Try.f78.results.toList, gh := [], own := false, io := fun g i => false }
theorem slices_ContainsFunc_api_Rule_c91.ok (k : Nat) : EnvOk (slices_ContainsFunc_api_Rule_c91.E k) := envOk lawful (slices_ContainsFunc_api_Rule_c91.fl k) (slices_ContainsFunc_api_Rule_c91.ll k) slices_ContainsFunc_api_Rule_c91.jl _ _ _ _ _ _ _ _ _ _ (by
  intro p hp
  simp only [slices_ContainsFunc_api_Rule_c91.fl, List.mem_cons, List.not_mem_nil, or_false] at hp
  rcases hp with rfl
  · exact ⟨slices_IndexFunc_api_Rule_c91.sound k, enter_of Try.func105 (by kernel_rfl) (by kernel_rfl)⟩) (by
  intro p hp
  simp [slices_ContainsFunc_api_Rule_c91.jl] at hp)
theorem slices_ContainsFunc_api_Rule_c91.eq (k : Nat) (x : (List Sapi_Rule × Sapi_Policy)) : runF (slices_ContainsFunc_api_Rule_c91.E k) (codeOf Try.f78) (slices_ContainsFunc_api_Rule_c91.mk x) slices_ContainsFunc_api_Rule_c91.re = (slices_ContainsFunc_api_Rule_c91.D k).f x := by kernel_rfl
theorem slices_ContainsFunc_api_Rule_c91.fit (s : St U) (x : (List Sapi_Rule × Sapi_Policy)) (h : slices_ContainsFunc_api_Rule_c91.un s = some x) : Fits s (slices_ContainsFunc_api_Rule_c91.mk x) := by
  unfold slices_ContainsFunc_api_Rule_c91.un at h
  split at h
  · cases h
    refine fits_ren [] ?_ ?_ ren_nil rfl
    · exact List.forall_mem_cons.2 ⟨FV.one (FV.same (by assumption) rfl), List.forall_mem_cons.2 ⟨FV.one (FV.same (by assumption) rfl), fun _ hp => (List.not_mem_nil hp).elim⟩⟩
    · exact fun _ hp => (List.not_mem_nil hp).elim
  · cases h
theorem slices_ContainsFunc_api_Rule_c91.fitR (s : St U) (y : Bool) (h : slices_ContainsFunc_api_Rule_c91.re s = some y) : Fits s (slices_ContainsFunc_api_Rule_c91.fin y) := by
  unfold slices_ContainsFunc_api_Rule_c91.re at h
  split at h
  · cases h
    refine fits_ren [] ?_ ?_ ren_nil rfl
    · exact List.forall_mem_cons.2 ⟨FV.one (FV.same (by assumption) rfl), fun _ hp => (List.not_mem_nil hp).elim⟩
    · exact fun _ hp => (List.not_mem_nil hp).elim
  · cases h
theorem slices_ContainsFunc_api_Rule_c91.sound (k : Nat) : Sound Try.prog DD 78 (slices_ContainsFunc_api_Rule_c91.D k) :=
  fun_sound (E := slices_ContainsFunc_api_Rule_c91.E k) (fn := Try.f78) (c := codeOf Try.f78) (slices_ContainsFunc_api_Rule_c91.ok k) mixed rfl Try.func78 (by kernel_rfl) (by kernel_rfl) (allL_of (l := []) (by kernel_rfl) allL_nil) (slices_ContainsFunc_api_Rule_c91.D k) slices_ContainsFunc_api_Rule_c91.mk slices_ContainsFunc_api_Rule_c91.re (by kernel_rfl) (by kernel_rfl) slices_ContainsFunc_api_Rule_c91.fit slices_ContainsFunc_api_Rule_c91.fitR (slices_ContainsFunc_api_Rule_c91.eq k)
end
end Go.Proofs.Ythknecaigoilmaa
