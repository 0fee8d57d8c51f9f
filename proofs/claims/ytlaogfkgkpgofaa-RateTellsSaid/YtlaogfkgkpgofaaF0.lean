import Derived.Test.YtlaogfkgkpgofaaSkG
/-! Functions, told; their equations with the evaluator; that they are sound. Written by gen.py. -/
namespace Go.Proofs.Ytlaogfkgkpgofaa
open Go Go.Ev
noncomputable section
set_option linter.unusedVariables false
set_option linter.unusedSimpArgs false
set_option maxRecDepth 100000
/-! ### pyx/limb.Of: function 129 -/
noncomputable def limb_Of.f (k : Nat) (a0 : Int) : Option (Int × Int) := some (a0, 0)
noncomputable def limb_Of.un (s : St U) : Option Int := match s.get 0 with | .flat (.int .u64 x1) => some x1 | _ => none
noncomputable def limb_Of.mk (x : Int) : St U := ⟨[(0, .flat (.int .u64 x))], []⟩
noncomputable def limb_Of.fin (y : (Int × Int)) : St U := ⟨[(0, .agg [.flat (.int .u64 y.1), .flat (.int .u64 y.2)])], []⟩
noncomputable def limb_Of.D (k : Nat) : FDen U := { X := Int, Y := (Int × Int), nt := 5, gh := [], un := limb_Of.un, f := fun x => limb_Of.f k (x), fin := limb_Of.fin, cl := true, clo := fun _ _ => rfl }
noncomputable def limb_Of.re (s : St U) : Option (Int × Int) := match s.get 0 with | .agg [.flat (.int .u64 x1), .flat (.int .u64 x2)] => some (x1, x2) | _ => none
noncomputable def limb_Of.jl : List (Nat × JDen U) := []
noncomputable def limb_Of.fl (k : Nat) : List (Nat × FDen U) := []
noncomputable def limb_Of.ll (k : Nat) : List (Nat × LDen U) := []
noncomputable def limb_Of.E (k : Nat) : Env U := { P := Try.prog, D := DD, fd := lk (limb_Of.fl k), sf := lk sl0, ld := lk (limb_Of.ll k), jd := lk limb_Of.jl, mode := lk [], elc := lk ec, mpc := lk mc, rts := Try.f129.resultTypes.toList, dyn := fun t => false, vecs := fun d => false, results := Try.f129.results.toList, gh := [], own := false, io := fun g i => false }
theorem limb_Of.ok (k : Nat) : EnvOk (limb_Of.E k) := envOk lawful (limb_Of.fl k) sl0 (limb_Of.ll k) limb_Of.jl _ _ _ _ _ _ _ _ _ _ (by
  intro p hp
  simp [limb_Of.fl] at hp) sl0_ok (by
  intro p hp
  simp [limb_Of.jl] at hp)
theorem limb_Of.eq (k : Nat) (x : Int) : runF (limb_Of.E k) (codeOf Try.f129) (limb_Of.mk x) limb_Of.re = (limb_Of.D k).f x := by kernel_rfl
theorem limb_Of.fit (s : St U) (x : Int) (h : limb_Of.un s = some x) : Fits s (limb_Of.mk x) := by
  unfold limb_Of.un at h
  split at h
  · cases h
    refine fits_ren [] ?_ ?_ ren_nil rfl
    · exact List.forall_mem_cons.2 ⟨FV.one (FV.same (by assumption) rfl), fun _ hp => (List.not_mem_nil hp).elim⟩
    · exact fun _ hp => (List.not_mem_nil hp).elim
  · cases h
theorem limb_Of.fitR (s : St U) (y : (Int × Int)) (h : limb_Of.re s = some y) : Fits s (limb_Of.fin y) := by
  unfold limb_Of.re at h
  split at h
  · cases h
    refine fits_ren [] ?_ ?_ ren_nil rfl
    · exact List.forall_mem_cons.2 ⟨FV.one (FV.same (by assumption) rfl), fun _ hp => (List.not_mem_nil hp).elim⟩
    · exact fun _ hp => (List.not_mem_nil hp).elim
  · cases h
theorem limb_Of.sound (k : Nat) : Sound Try.prog DD 129 (limb_Of.D k) :=
  fun_sound (E := limb_Of.E k) (fn := Try.f129) (c := codeOf Try.f129) (limb_Of.ok k) mixed rfl Try.func129 (by kernel_rfl) (by kernel_rfl) (allL_of (l := []) (by kernel_rfl) allL_nil) (limb_Of.D k) limb_Of.mk limb_Of.re (by kernel_rfl) (by kernel_rfl) limb_Of.fit limb_Of.fitR (limb_Of.eq k)
/-! ### pyx/limb.halves: function 144 -/
noncomputable def limb_halves.f (k : Nat) (a0 : (Int × Int)) : Option (Int × Int × Int × Int) := some (IntKind.wrap .u32 (a0.1), IntKind.wrap .u32 (Int.fdiv a0.1 (2 ^ 32)), IntKind.wrap .u32 (a0.2), IntKind.wrap .u32 (Int.fdiv a0.2 (2 ^ 32)))
noncomputable def limb_halves.un (s : St U) : Option (Int × Int) := match s.get 0 with | .agg [.flat (.int .u64 x1), .flat (.int .u64 x2)] => some (x1, x2) | _ => none
noncomputable def limb_halves.mk (x : (Int × Int)) : St U := ⟨[(0, .agg [.flat (.int .u64 x.1), .flat (.int .u64 x.2)])], []⟩
noncomputable def limb_halves.fin (y : (Int × Int × Int × Int)) : St U := ⟨[(0, .agg [.flat (.int .u32 y.1), .flat (.int .u32 y.2.1), .flat (.int .u32 y.2.2.1), .flat (.int .u32 y.2.2.2)])], []⟩
noncomputable def limb_halves.D (k : Nat) : FDen U := { X := (Int × Int), Y := (Int × Int × Int × Int), nt := 18, gh := [], un := limb_halves.un, f := fun x => limb_halves.f k (x), fin := limb_halves.fin, cl := true, clo := fun _ _ => rfl }
noncomputable def limb_halves.re (s : St U) : Option (Int × Int × Int × Int) := match s.get 0 with | .agg [.flat (.int .u32 x1), .flat (.int .u32 x2), .flat (.int .u32 x3), .flat (.int .u32 x4)] => some (x1, x2, x3, x4) | _ => none
noncomputable def limb_halves.jl : List (Nat × JDen U) := []
noncomputable def limb_halves.fl (k : Nat) : List (Nat × FDen U) := []
noncomputable def limb_halves.ll (k : Nat) : List (Nat × LDen U) := []
noncomputable def limb_halves.E (k : Nat) : Env U := { P := Try.prog, D := DD, fd := lk (limb_halves.fl k), sf := lk sl0, ld := lk (limb_halves.ll k), jd := lk limb_halves.jl, mode := lk [], elc := lk ec, mpc := lk mc, rts := Try.f144.resultTypes.toList, dyn := fun t => false, vecs := fun d => false, results := Try.f144.results.toList, gh := [], own := false, io := fun g i => false }
theorem limb_halves.ok (k : Nat) : EnvOk (limb_halves.E k) := envOk lawful (limb_halves.fl k) sl0 (limb_halves.ll k) limb_halves.jl _ _ _ _ _ _ _ _ _ _ (by
  intro p hp
  simp [limb_halves.fl] at hp) sl0_ok (by
  intro p hp
  simp [limb_halves.jl] at hp)
theorem limb_halves.eq (k : Nat) (x : (Int × Int)) : runF (limb_halves.E k) (codeOf Try.f144) (limb_halves.mk x) limb_halves.re = (limb_halves.D k).f x := by kernel_rfl
theorem limb_halves.fit (s : St U) (x : (Int × Int)) (h : limb_halves.un s = some x) : Fits s (limb_halves.mk x) := by
  unfold limb_halves.un at h
  split at h
  · cases h
    refine fits_ren [] ?_ ?_ ren_nil rfl
    · exact List.forall_mem_cons.2 ⟨FV.one (FV.same (by assumption) rfl), fun _ hp => (List.not_mem_nil hp).elim⟩
    · exact fun _ hp => (List.not_mem_nil hp).elim
  · cases h
theorem limb_halves.fitR (s : St U) (y : (Int × Int × Int × Int)) (h : limb_halves.re s = some y) : Fits s (limb_halves.fin y) := by
  unfold limb_halves.re at h
  split at h
  · cases h
    refine fits_ren [] ?_ ?_ ren_nil rfl
    · exact List.forall_mem_cons.2 ⟨FV.one (FV.same (by assumption) rfl), fun _ hp => (List.not_mem_nil hp).elim⟩
    · exact fun _ hp => (List.not_mem_nil hp).elim
  · cases h
theorem limb_halves.sound (k : Nat) : Sound Try.prog DD 144 (limb_halves.D k) :=
  fun_sound (E := limb_halves.E k) (fn := Try.f144) (c := codeOf Try.f144) (limb_halves.ok k) mixed rfl Try.func144 (by kernel_rfl) (by kernel_rfl) (allL_of (l := []) (by kernel_rfl) allL_nil) (limb_halves.D k) limb_halves.mk limb_halves.re (by kernel_rfl) (by kernel_rfl) limb_halves.fit limb_halves.fitR (limb_halves.eq k)
/-! ### pyx/limb.Mul: function 109 -/
noncomputable def limb_Mul.l8.once (k : Nat) (x : (Int × Int × Int × Int × Int × Int × Int × Int × Int × Int × Int × Int × Int × List Int × List Int × List Int)) : Option ((Int × Int × Int × Int × Int × Int × Int × Int × Int × Int × Int × Int × Int × List Int × List Int × List Int) ⊕ ((Int × Int × Int × Int × Int × Int × Int × List Int × List Int × List Int))) := match x with | (x14, x15, x16, x17, x18, x19, x20, x21, x22, x23, x24, x25, x26, x11, x12, x13) => cond (decide (x26 < 4)) (cond (inb x26 4) (cond (inb (IntKind.wrap .i64 (x14 + x26)) 8) (cond (Nat.blt (Int.toNat (IntKind.wrap .i64 (x14 + x26))) 8) (cond (inb (IntKind.wrap .i64 (x14 + x26)) 8) (cond (Nat.blt (Int.toNat (IntKind.wrap .i64 (x14 + x26))) 8) (some (.inl (x14, x15, Int.fdiv (IntKind.wrap .u64 ((IntKind.wrap .u64 ((IntKind.wrap .u64 ((IntKind.wrap .u64 (x15)) * (IntKind.wrap .u64 (List.getD [x22, x23, x24, x25] (Int.toNat x26) 0)))) + (List.getD x12 (Int.toNat (IntKind.wrap .i64 (x14 + x26))) 0))) + x16)) (2 ^ 32), x17, x18, x19, x20, x21, x22, x23, x24, x25, IntKind.wrap .i64 (x26 + 1), x11, List.set x12 (Int.toNat (IntKind.wrap .i64 (x14 + x26))) (IntKind.wrap .u64 (IntKind.wrap .u32 (IntKind.wrap .u64 ((IntKind.wrap .u64 ((IntKind.wrap .u64 ((IntKind.wrap .u64 (x15)) * (IntKind.wrap .u64 (List.getD [x22, x23, x24, x25] (Int.toNat x26) 0)))) + (List.getD x12 (Int.toNat (IntKind.wrap .i64 (x14 + x26))) 0))) + x16)))), x13))) none) none) none) none) none) (some (.inr (x14, x16, x17, x18, x19, x20, x21, x11, x12, x13)))
noncomputable def limb_Mul.l4.once (k : Nat) (x : (Int × Int × Int × Int × Int × List Int × List Int × List Int)) : Option ((Int × Int × Int × Int × Int × List Int × List Int × List Int) ⊕ ((List Int × List Int))) := match x with | (x6, x7, x8, x9, x10, x3, x4, x5) => cond (decide (x10 < 4)) (cond (inb x10 4) ((iter (limb_Mul.l8.once k) k (x10, List.getD [x6, x7, x8, x9] (Int.toNat x10) 0, 0, x6, x7, x8, x9, x10, List.getD x5 0 0, List.getD x5 1 0, List.getD x5 2 0, List.getD x5 3 0, 0, x3, x4, x5)).bind fun y37 => (cond (inb (IntKind.wrap .i64 (y37.1 + 4)) 8) (cond (Nat.blt (Int.toNat (IntKind.wrap .i64 (y37.1 + 4))) 8) (some (.inl (y37.2.2.1, y37.2.2.2.1, y37.2.2.2.2.1, y37.2.2.2.2.2.1, IntKind.wrap .i64 (y37.2.2.2.2.2.2.1 + 1), y37.2.2.2.2.2.2.2.1, List.set y37.2.2.2.2.2.2.2.2.1 (Int.toNat (IntKind.wrap .i64 (y37.1 + 4))) y37.2.1, y37.2.2.2.2.2.2.2.2.2))) none) none)) none) (some (.inr (x3, x4)))
noncomputable def limb_Mul.l18.once (k : Nat) (x : (Int × List Int × List Int × List Int)) : Option ((Int × List Int × List Int × List Int) ⊕ ((List Int × List Int))) := match x with | (x44, x41, x42, x43) => cond (decide (x44 < 4)) (cond (inb (IntKind.wrap .i64 (2 * x44)) 8) (cond (Nat.blt (Int.toNat (IntKind.wrap .i64 (2 * x44))) 8) (cond (inb (IntKind.wrap .i64 ((IntKind.wrap .i64 (2 * x44)) + 1)) 8) (cond (Nat.blt (Int.toNat (IntKind.wrap .i64 ((IntKind.wrap .i64 (2 * x44)) + 1))) 8) (cond (inb x44 4) (cond (Nat.blt (Int.toNat x44) 4) (some (.inl (IntKind.wrap .i64 (x44 + 1), x41, x42, List.set x43 (Int.toNat x44) (bits .or .u64 (List.getD x42 (Int.toNat (IntKind.wrap .i64 (2 * x44))) 0) (IntKind.wrap .u64 ((List.getD x42 (Int.toNat (IntKind.wrap .i64 ((IntKind.wrap .i64 (2 * x44)) + 1))) 0) * 2 ^ 32)))))) none) none) none) none) none) none) (some (.inr (x41, x43)))
noncomputable def limb_Mul.f (k : Nat) (a0 : (Int × Int)) (a1 : (Int × Int)) : Option (Int × Int × Int × Int) := (limb_halves.f k (a0.1, a0.2)).bind fun t1 => ((limb_halves.f k (a1.1, a1.2)).bind fun t2 => ((iter (limb_Mul.l4.once k) k (List.getD [t1.1, t1.2.1, t1.2.2.1, t1.2.2.2] 0 0, List.getD [t1.1, t1.2.1, t1.2.2.1, t1.2.2.2] 1 0, List.getD [t1.1, t1.2.1, t1.2.2.1, t1.2.2.2] 2 0, List.getD [t1.1, t1.2.1, t1.2.2.1, t1.2.2.2] 3 0, 0, [0, 0, 0, 0], [0, 0, 0, 0, 0, 0, 0, 0], [t2.1, t2.2.1, t2.2.2.1, t2.2.2.2])).bind fun y40 => ((iter (limb_Mul.l18.once k) k (0, y40.1, y40.2, [0, 0, 0, 0])).bind fun y47 => (some (List.getD [List.getD y47.2 0 0, List.getD y47.2 1 0, List.getD y47.2 2 0, List.getD y47.2 3 0] 0 0, List.getD [List.getD y47.2 0 0, List.getD y47.2 1 0, List.getD y47.2 2 0, List.getD y47.2 3 0] 1 0, List.getD [List.getD y47.2 0 0, List.getD y47.2 1 0, List.getD y47.2 2 0, List.getD y47.2 3 0] 2 0, List.getD [List.getD y47.2 0 0, List.getD y47.2 1 0, List.getD y47.2 2 0, List.getD y47.2 3 0] 3 0)))))
noncomputable def limb_Mul.un (s : St U) : Option ((Int × Int) × (Int × Int)) := match s.get 0, s.get 1 with | .agg [.flat (.int .u64 x1), .flat (.int .u64 x2)], .agg [.flat (.int .u64 x3), .flat (.int .u64 x4)] => some ((x1, x2), (x3, x4)) | _, _ => none
noncomputable def limb_Mul.mk (x : ((Int × Int) × (Int × Int))) : St U := ⟨[(0, .agg [.flat (.int .u64 x.1.1), .flat (.int .u64 x.1.2)]), (1, .agg [.flat (.int .u64 x.2.1), .flat (.int .u64 x.2.2)])], []⟩
noncomputable def limb_Mul.fin (y : (Int × Int × Int × Int)) : St U := ⟨[(0, .agg [.flat (.int .u64 y.1), .flat (.int .u64 y.2.1), .flat (.int .u64 y.2.2.1), .flat (.int .u64 y.2.2.2)])], []⟩
noncomputable def limb_Mul.D (k : Nat) : FDen U := { X := ((Int × Int) × (Int × Int)), Y := (Int × Int × Int × Int), nt := 76, gh := [], un := limb_Mul.un, f := fun x => limb_Mul.f k (x.1) (x.2), fin := limb_Mul.fin, cl := true, clo := fun _ _ => rfl }
noncomputable def limb_Mul.re (s : St U) : Option (Int × Int × Int × Int) := match s.get 0 with | .agg [.flat (.int .u64 x1), .flat (.int .u64 x2), .flat (.int .u64 x3), .flat (.int .u64 x4)] => some (x1, x2, x3, x4) | _ => none
noncomputable def limb_Mul.l8.mk (x : (Int × Int × Int × Int × Int × Int × Int × Int × Int × Int × Int × Int × Int × List Int × List Int × List Int)) : St U := match x with | (x14, x15, x16, x17, x18, x19, x20, x21, x22, x23, x24, x25, x26, x11, x12, x13) => ⟨[(4, .ptr 4 0), (5, .ptr 5 0), (7, .ptr 7 0), (8, .flat (.int .i64 x14)), (9, .flat (.int .u32 x15)), (10, .flat (.int .u64 x16)), (20, .agg [.flat (.int .u32 x17), .flat (.int .u32 x18), .flat (.int .u32 x19), .flat (.int .u32 x20)]), (21, .flat (.int .i64 x21)), (25, .agg [.flat (.int .u32 x22), .flat (.int .u32 x23), .flat (.int .u32 x24), .flat (.int .u32 x25)]), (26, .flat (.int .i64 x26))], [(4, .arr 4 C.u64 x11), (5, .arr 8 C.u64 x12), (7, .arr 4 C.u32 x13)]⟩
noncomputable def limb_Mul.l8.un (s : St U) : Option (Int × Int × Int × Int × Int × Int × Int × Int × Int × Int × Int × Int × Int × List Int × List Int × List Int) := match s.get 4, s.get 5, s.get 7, s.get 8, s.get 9, s.get 10, s.get 20, s.get 21, s.get 25, s.get 26, lk s.o 4, lk s.o 5, lk s.o 7 with | .ptr 4 0, .ptr 5 0, .ptr 7 0, .flat (.int .i64 x14), .flat (.int .u32 x15), .flat (.int .u64 x16), .agg [.flat (.int .u32 x17), .flat (.int .u32 x18), .flat (.int .u32 x19), .flat (.int .u32 x20)], .flat (.int .i64 x21), .agg [.flat (.int .u32 x22), .flat (.int .u32 x23), .flat (.int .u32 x24), .flat (.int .u32 x25)], .flat (.int .i64 x26), some (.arr 4 C.u64 x11), some (.arr 8 C.u64 x12), some (.arr 4 C.u32 x13) => some (x14, x15, x16, x17, x18, x19, x20, x21, x22, x23, x24, x25, x26, x11, x12, x13) | _, _, _, _, _, _, _, _, _, _, _, _, _ => none
noncomputable def limb_Mul.l8.fin (y : (Int × Int × Int × Int × Int × Int × Int × List Int × List Int × List Int)) : Out U := match y with | (x30, x31, x32, x33, x34, x35, x36, x27, x28, x29) => .exit 2 ⟨[(4, .ptr 4 0), (5, .ptr 5 0), (7, .ptr 7 0), (8, .flat (.int .i64 x30)), (10, .flat (.int .u64 x31)), (20, .agg [.flat (.int .u32 x32), .flat (.int .u32 x33), .flat (.int .u32 x34), .flat (.int .u32 x35)]), (21, .flat (.int .i64 x36))], [(4, .arr 4 C.u64 x27), (5, .arr 8 C.u64 x28), (7, .arr 4 C.u32 x29)]⟩
noncomputable def limb_Mul.l8.finK {ρ : Type} (y : (Int × Int × Int × Int × Int × Int × Int × List Int × List Int × List Int)) (K : Out U → Option ρ) : Option ρ := match y with | (x30, x31, x32, x33, x34, x35, x36, x27, x28, x29) => K (.exit 2 ⟨[(4, .ptr 4 0), (5, .ptr 5 0), (7, .ptr 7 0), (8, .flat (.int .i64 x30)), (10, .flat (.int .u64 x31)), (20, .agg [.flat (.int .u32 x32), .flat (.int .u32 x33), .flat (.int .u32 x34), .flat (.int .u32 x35)]), (21, .flat (.int .i64 x36))], [(4, .arr 4 C.u64 x27), (5, .arr 8 C.u64 x28), (7, .arr 4 C.u32 x29)]⟩)
theorem limb_Mul.l8.finK_eq {ρ : Type} (y : (Int × Int × Int × Int × Int × Int × Int × List Int × List Int × List Int)) (K : Out U → Option ρ) : limb_Mul.l8.finK y K = K (limb_Mul.l8.fin y) := by
  unfold limb_Mul.l8.finK limb_Mul.l8.fin
  first | rfl | (split <;> rfl)
noncomputable def limb_Mul.l8.re : Out U → Option ((Int × Int × Int × Int × Int × Int × Int × List Int × List Int × List Int)) | .exit 2 s => (match s.get 4, s.get 5, s.get 7, s.get 8, s.get 10, s.get 20, s.get 21, lk s.o 4, lk s.o 5, lk s.o 7 with | .ptr 4 0, .ptr 5 0, .ptr 7 0, .flat (.int .i64 x30), .flat (.int .u64 x31), .agg [.flat (.int .u32 x32), .flat (.int .u32 x33), .flat (.int .u32 x34), .flat (.int .u32 x35)], .flat (.int .i64 x36), some (.arr 4 C.u64 x27), some (.arr 8 C.u64 x28), some (.arr 4 C.u32 x29) => some (x30, x31, x32, x33, x34, x35, x36, x27, x28, x29) | _, _, _, _, _, _, _, _, _, _ => none) | _ => none
noncomputable def limb_Mul.l8.L (k : Nat) : LDen U := { X := (Int × Int × Int × Int × Int × Int × Int × Int × Int × Int × Int × Int × Int × List Int × List Int × List Int), Y := (Int × Int × Int × Int × Int × Int × Int × List Int × List Int × List Int), un := limb_Mul.l8.un, f := iter (limb_Mul.l8.once k) k, fin := limb_Mul.l8.fin, finK := limb_Mul.l8.finK, finK_eq := limb_Mul.l8.finK_eq }
noncomputable def limb_Mul.l4.mk (x : (Int × Int × Int × Int × Int × List Int × List Int × List Int)) : St U := match x with | (x6, x7, x8, x9, x10, x3, x4, x5) => ⟨[(4, .ptr 4 0), (5, .ptr 5 0), (7, .ptr 7 0), (20, .agg [.flat (.int .u32 x6), .flat (.int .u32 x7), .flat (.int .u32 x8), .flat (.int .u32 x9)]), (21, .flat (.int .i64 x10))], [(4, .arr 4 C.u64 x3), (5, .arr 8 C.u64 x4), (7, .arr 4 C.u32 x5)]⟩
noncomputable def limb_Mul.l4.un (s : St U) : Option (Int × Int × Int × Int × Int × List Int × List Int × List Int) := match s.get 4, s.get 5, s.get 7, s.get 20, s.get 21, lk s.o 4, lk s.o 5, lk s.o 7 with | .ptr 4 0, .ptr 5 0, .ptr 7 0, .agg [.flat (.int .u32 x6), .flat (.int .u32 x7), .flat (.int .u32 x8), .flat (.int .u32 x9)], .flat (.int .i64 x10), some (.arr 4 C.u64 x3), some (.arr 8 C.u64 x4), some (.arr 4 C.u32 x5) => some (x6, x7, x8, x9, x10, x3, x4, x5) | _, _, _, _, _, _, _, _ => none
noncomputable def limb_Mul.l4.fin (y : (List Int × List Int)) : Out U := match y with | (x38, x39) => .exit 0 ⟨[(4, .ptr 4 0), (5, .ptr 5 0)], [(4, .arr 4 C.u64 x38), (5, .arr 8 C.u64 x39)]⟩
noncomputable def limb_Mul.l4.finK {ρ : Type} (y : (List Int × List Int)) (K : Out U → Option ρ) : Option ρ := match y with | (x38, x39) => K (.exit 0 ⟨[(4, .ptr 4 0), (5, .ptr 5 0)], [(4, .arr 4 C.u64 x38), (5, .arr 8 C.u64 x39)]⟩)
theorem limb_Mul.l4.finK_eq {ρ : Type} (y : (List Int × List Int)) (K : Out U → Option ρ) : limb_Mul.l4.finK y K = K (limb_Mul.l4.fin y) := by
  unfold limb_Mul.l4.finK limb_Mul.l4.fin
  first | rfl | (split <;> rfl)
noncomputable def limb_Mul.l4.re : Out U → Option ((List Int × List Int)) | .exit 0 s => (match s.get 4, s.get 5, lk s.o 4, lk s.o 5 with | .ptr 4 0, .ptr 5 0, some (.arr 4 C.u64 x38), some (.arr 8 C.u64 x39) => some (x38, x39) | _, _, _, _ => none) | _ => none
noncomputable def limb_Mul.l4.L (k : Nat) : LDen U := { X := (Int × Int × Int × Int × Int × List Int × List Int × List Int), Y := (List Int × List Int), un := limb_Mul.l4.un, f := iter (limb_Mul.l4.once k) k, fin := limb_Mul.l4.fin, finK := limb_Mul.l4.finK, finK_eq := limb_Mul.l4.finK_eq }
noncomputable def limb_Mul.l18.mk (x : (Int × List Int × List Int × List Int)) : St U := match x with | (x44, x41, x42, x43) => ⟨[(4, .ptr 4 0), (5, .ptr 5 0), (14, .ptr 14 0), (58, .flat (.int .i64 x44))], [(4, .arr 4 C.u64 x41), (5, .arr 8 C.u64 x42), (14, .arr 4 C.u64 x43)]⟩
noncomputable def limb_Mul.l18.un (s : St U) : Option (Int × List Int × List Int × List Int) := match s.get 4, s.get 5, s.get 14, s.get 58, lk s.o 4, lk s.o 5, lk s.o 14 with | .ptr 4 0, .ptr 5 0, .ptr 14 0, .flat (.int .i64 x44), some (.arr 4 C.u64 x41), some (.arr 8 C.u64 x42), some (.arr 4 C.u64 x43) => some (x44, x41, x42, x43) | _, _, _, _, _, _, _ => none
noncomputable def limb_Mul.l18.fin (y : (List Int × List Int)) : Out U := match y with | (x45, x46) => .exit 4 ⟨[(4, .ptr 4 0), (14, .ptr 14 0)], [(4, .arr 4 C.u64 x45), (14, .arr 4 C.u64 x46)]⟩
noncomputable def limb_Mul.l18.finK {ρ : Type} (y : (List Int × List Int)) (K : Out U → Option ρ) : Option ρ := match y with | (x45, x46) => K (.exit 4 ⟨[(4, .ptr 4 0), (14, .ptr 14 0)], [(4, .arr 4 C.u64 x45), (14, .arr 4 C.u64 x46)]⟩)
theorem limb_Mul.l18.finK_eq {ρ : Type} (y : (List Int × List Int)) (K : Out U → Option ρ) : limb_Mul.l18.finK y K = K (limb_Mul.l18.fin y) := by
  unfold limb_Mul.l18.finK limb_Mul.l18.fin
  first | rfl | (split <;> rfl)
noncomputable def limb_Mul.l18.re : Out U → Option ((List Int × List Int)) | .exit 4 s => (match s.get 4, s.get 14, lk s.o 4, lk s.o 14 with | .ptr 4 0, .ptr 14 0, some (.arr 4 C.u64 x45), some (.arr 4 C.u64 x46) => some (x45, x46) | _, _, _, _ => none) | _ => none
noncomputable def limb_Mul.l18.L (k : Nat) : LDen U := { X := (Int × List Int × List Int × List Int), Y := (List Int × List Int), un := limb_Mul.l18.un, f := iter (limb_Mul.l18.once k) k, fin := limb_Mul.l18.fin, finK := limb_Mul.l18.finK, finK_eq := limb_Mul.l18.finK_eq }
noncomputable def limb_Mul.jl : List (Nat × JDen U) := []
noncomputable def limb_Mul.fl (k : Nat) : List (Nat × FDen U) := [(144, limb_halves.D k)]
noncomputable def limb_Mul.ll (k : Nat) : List (Nat × LDen U) := [(8, limb_Mul.l8.L k), (4, limb_Mul.l4.L k), (18, limb_Mul.l18.L k)]
noncomputable def limb_Mul.E (k : Nat) : Env U := { P := Try.prog, D := DD, fd := lk (limb_Mul.fl k), sf := lk sl0, ld := lk (limb_Mul.ll k), jd := lk limb_Mul.jl, mode := lk [(149, (4, C.u64)), (200, (8, C.u64)), (202, (4, C.u32))], elc := lk ec, mpc := lk mc, rts := Try.f109.resultTypes.toList, dyn := fun t => false, vecs := fun d => false, results := Try.f109.results.toList, gh := [], own := false, io := fun g i => false }
theorem limb_Mul.ok (k : Nat) : EnvOk (limb_Mul.E k) := envOk lawful (limb_Mul.fl k) sl0 (limb_Mul.ll k) limb_Mul.jl _ _ _ _ _ _ _ _ _ _ (by
  intro p hp
  simp only [limb_Mul.fl, List.mem_cons, List.not_mem_nil, or_false] at hp
  rcases hp with rfl
  · exact ⟨limb_halves.sound k, enter_of Try.func144 (by kernel_rfl) (by kernel_rfl)⟩) sl0_ok (by
  intro p hp
  simp [limb_Mul.jl] at hp)
theorem limb_Mul.l8.eq (k : Nat) (x : (Int × Int × Int × Int × Int × Int × Int × Int × Int × Int × Int × Int × Int × List Int × List Int × List Int)) : evC (limb_Mul.E k) (loopAt Try.f109 8) (limb_Mul.l8.mk x) (headK limb_Mul.l8.un limb_Mul.l8.re) = limb_Mul.l8.once k x := by kernel_rfl
theorem limb_Mul.l8.fit (s : St U) (x : (Int × Int × Int × Int × Int × Int × Int × Int × Int × Int × Int × Int × Int × List Int × List Int × List Int)) (h : limb_Mul.l8.un s = some x) : Fits s (limb_Mul.l8.mk x) := by
  unfold limb_Mul.l8.un at h
  split at h
  · cases h
    refine fits_ren [] ?_ ?_ ren_nil rfl
    · exact List.forall_mem_cons.2 ⟨FV.one (FV.ptr (by assumption)), List.forall_mem_cons.2 ⟨FV.one (FV.ptr (by assumption)), List.forall_mem_cons.2 ⟨FV.one (FV.ptr (by assumption)), List.forall_mem_cons.2 ⟨FV.one (FV.same (by assumption) rfl), List.forall_mem_cons.2 ⟨FV.one (FV.same (by assumption) rfl), List.forall_mem_cons.2 ⟨FV.one (FV.same (by assumption) rfl), List.forall_mem_cons.2 ⟨FV.one (FV.same (by assumption) rfl), List.forall_mem_cons.2 ⟨FV.one (FV.same (by assumption) rfl), List.forall_mem_cons.2 ⟨FV.one (FV.same (by assumption) rfl), List.forall_mem_cons.2 ⟨FV.one (FV.same (by assumption) rfl), fun _ hp => (List.not_mem_nil hp).elim⟩⟩⟩⟩⟩⟩⟩⟩⟩⟩
    · exact List.forall_mem_cons.2 ⟨(show lk (St.o _) 4 = some _ from by assumption), List.forall_mem_cons.2 ⟨(show lk (St.o _) 5 = some _ from by assumption), List.forall_mem_cons.2 ⟨(show lk (St.o _) 7 = some _ from by assumption), fun _ hp => (List.not_mem_nil hp).elim⟩⟩⟩
  · cases h
theorem limb_Mul.l8.fitO (o : Out U) (y : (Int × Int × Int × Int × Int × Int × Int × List Int × List Int × List Int)) (h : limb_Mul.l8.re o = some y) : FitsO o (limb_Mul.l8.fin y) := by
  unfold limb_Mul.l8.re at h
  split at h
  · split at h
    · cases h
      refine fitsO_exit (fits_ren [] ?_ ?_ ren_nil rfl)
      · exact List.forall_mem_cons.2 ⟨FV.one (FV.ptr (by assumption)), List.forall_mem_cons.2 ⟨FV.one (FV.ptr (by assumption)), List.forall_mem_cons.2 ⟨FV.one (FV.ptr (by assumption)), List.forall_mem_cons.2 ⟨FV.one (FV.same (by assumption) rfl), List.forall_mem_cons.2 ⟨FV.one (FV.same (by assumption) rfl), List.forall_mem_cons.2 ⟨FV.one (FV.same (by assumption) rfl), List.forall_mem_cons.2 ⟨FV.one (FV.same (by assumption) rfl), fun _ hp => (List.not_mem_nil hp).elim⟩⟩⟩⟩⟩⟩⟩
      · exact List.forall_mem_cons.2 ⟨(show lk (St.o _) 4 = some _ from by assumption), List.forall_mem_cons.2 ⟨(show lk (St.o _) 5 = some _ from by assumption), List.forall_mem_cons.2 ⟨(show lk (St.o _) 7 = some _ from by assumption), fun _ hp => (List.not_mem_nil hp).elim⟩⟩⟩
    · cases h
  · cases h
theorem limb_Mul.l8.sound (k : Nat) : LSound (limb_Mul.E k) Try.f109.ntmps Try.f109 (loopAt Try.f109 8) (limb_Mul.l8.L k) :=
  loop_sound (limb_Mul.ok k) mixed rfl (by kernel_rfl) (allL_of (l := []) (by kernel_rfl) allL_nil) limb_Mul.l8.un limb_Mul.l8.mk limb_Mul.l8.fin limb_Mul.l8.re (limb_Mul.l8.once k) k limb_Mul.l8.fit limb_Mul.l8.fitO (limb_Mul.l8.eq k) limb_Mul.l8.finK limb_Mul.l8.finK_eq
theorem limb_Mul.l4.eq (k : Nat) (x : (Int × Int × Int × Int × Int × List Int × List Int × List Int)) : evC (limb_Mul.E k) (loopAt Try.f109 4) (limb_Mul.l4.mk x) (headK limb_Mul.l4.un limb_Mul.l4.re) = limb_Mul.l4.once k x := by kernel_rfl
theorem limb_Mul.l4.fit (s : St U) (x : (Int × Int × Int × Int × Int × List Int × List Int × List Int)) (h : limb_Mul.l4.un s = some x) : Fits s (limb_Mul.l4.mk x) := by
  unfold limb_Mul.l4.un at h
  split at h
  · cases h
    refine fits_ren [] ?_ ?_ ren_nil rfl
    · exact List.forall_mem_cons.2 ⟨FV.one (FV.ptr (by assumption)), List.forall_mem_cons.2 ⟨FV.one (FV.ptr (by assumption)), List.forall_mem_cons.2 ⟨FV.one (FV.ptr (by assumption)), List.forall_mem_cons.2 ⟨FV.one (FV.same (by assumption) rfl), List.forall_mem_cons.2 ⟨FV.one (FV.same (by assumption) rfl), fun _ hp => (List.not_mem_nil hp).elim⟩⟩⟩⟩⟩
    · exact List.forall_mem_cons.2 ⟨(show lk (St.o _) 4 = some _ from by assumption), List.forall_mem_cons.2 ⟨(show lk (St.o _) 5 = some _ from by assumption), List.forall_mem_cons.2 ⟨(show lk (St.o _) 7 = some _ from by assumption), fun _ hp => (List.not_mem_nil hp).elim⟩⟩⟩
  · cases h
theorem limb_Mul.l4.fitO (o : Out U) (y : (List Int × List Int)) (h : limb_Mul.l4.re o = some y) : FitsO o (limb_Mul.l4.fin y) := by
  unfold limb_Mul.l4.re at h
  split at h
  · split at h
    · cases h
      refine fitsO_exit (fits_ren [] ?_ ?_ ren_nil rfl)
      · exact List.forall_mem_cons.2 ⟨FV.one (FV.ptr (by assumption)), List.forall_mem_cons.2 ⟨FV.one (FV.ptr (by assumption)), fun _ hp => (List.not_mem_nil hp).elim⟩⟩
      · exact List.forall_mem_cons.2 ⟨(show lk (St.o _) 4 = some _ from by assumption), List.forall_mem_cons.2 ⟨(show lk (St.o _) 5 = some _ from by assumption), fun _ hp => (List.not_mem_nil hp).elim⟩⟩
    · cases h
  · cases h
theorem limb_Mul.l4.sound (k : Nat) : LSound (limb_Mul.E k) Try.f109.ntmps Try.f109 (loopAt Try.f109 4) (limb_Mul.l4.L k) :=
  loop_sound (limb_Mul.ok k) mixed rfl (by kernel_rfl) (allL_of (l := [loopAt Try.f109 8]) (by kernel_rfl) (allL_cons (key := 8) (by kernel_rfl) rfl (limb_Mul.l8.sound k) allL_nil)) limb_Mul.l4.un limb_Mul.l4.mk limb_Mul.l4.fin limb_Mul.l4.re (limb_Mul.l4.once k) k limb_Mul.l4.fit limb_Mul.l4.fitO (limb_Mul.l4.eq k) limb_Mul.l4.finK limb_Mul.l4.finK_eq
theorem limb_Mul.l18.eq (k : Nat) (x : (Int × List Int × List Int × List Int)) : evC (limb_Mul.E k) (loopAt Try.f109 18) (limb_Mul.l18.mk x) (headK limb_Mul.l18.un limb_Mul.l18.re) = limb_Mul.l18.once k x := by kernel_rfl
theorem limb_Mul.l18.fit (s : St U) (x : (Int × List Int × List Int × List Int)) (h : limb_Mul.l18.un s = some x) : Fits s (limb_Mul.l18.mk x) := by
  unfold limb_Mul.l18.un at h
  split at h
  · cases h
    refine fits_ren [] ?_ ?_ ren_nil rfl
    · exact List.forall_mem_cons.2 ⟨FV.one (FV.ptr (by assumption)), List.forall_mem_cons.2 ⟨FV.one (FV.ptr (by assumption)), List.forall_mem_cons.2 ⟨FV.one (FV.ptr (by assumption)), List.forall_mem_cons.2 ⟨FV.one (FV.same (by assumption) rfl), fun _ hp => (List.not_mem_nil hp).elim⟩⟩⟩⟩
    · exact List.forall_mem_cons.2 ⟨(show lk (St.o _) 4 = some _ from by assumption), List.forall_mem_cons.2 ⟨(show lk (St.o _) 5 = some _ from by assumption), List.forall_mem_cons.2 ⟨(show lk (St.o _) 14 = some _ from by assumption), fun _ hp => (List.not_mem_nil hp).elim⟩⟩⟩
  · cases h
theorem limb_Mul.l18.fitO (o : Out U) (y : (List Int × List Int)) (h : limb_Mul.l18.re o = some y) : FitsO o (limb_Mul.l18.fin y) := by
  unfold limb_Mul.l18.re at h
  split at h
  · split at h
    · cases h
      refine fitsO_exit (fits_ren [] ?_ ?_ ren_nil rfl)
      · exact List.forall_mem_cons.2 ⟨FV.one (FV.ptr (by assumption)), List.forall_mem_cons.2 ⟨FV.one (FV.ptr (by assumption)), fun _ hp => (List.not_mem_nil hp).elim⟩⟩
      · exact List.forall_mem_cons.2 ⟨(show lk (St.o _) 4 = some _ from by assumption), List.forall_mem_cons.2 ⟨(show lk (St.o _) 14 = some _ from by assumption), fun _ hp => (List.not_mem_nil hp).elim⟩⟩
    · cases h
  · cases h
theorem limb_Mul.l18.sound (k : Nat) : LSound (limb_Mul.E k) Try.f109.ntmps Try.f109 (loopAt Try.f109 18) (limb_Mul.l18.L k) :=
  loop_sound (limb_Mul.ok k) mixed rfl (by kernel_rfl) (allL_of (l := []) (by kernel_rfl) allL_nil) limb_Mul.l18.un limb_Mul.l18.mk limb_Mul.l18.fin limb_Mul.l18.re (limb_Mul.l18.once k) k limb_Mul.l18.fit limb_Mul.l18.fitO (limb_Mul.l18.eq k) limb_Mul.l18.finK limb_Mul.l18.finK_eq
theorem limb_Mul.eq (k : Nat) (x : ((Int × Int) × (Int × Int))) : runF (limb_Mul.E k) (codeOf Try.f109) (limb_Mul.mk x) limb_Mul.re = (limb_Mul.D k).f x := by kernel_rfl
theorem limb_Mul.fit (s : St U) (x : ((Int × Int) × (Int × Int))) (h : limb_Mul.un s = some x) : Fits s (limb_Mul.mk x) := by
  unfold limb_Mul.un at h
  split at h
  · cases h
    refine fits_ren [] ?_ ?_ ren_nil rfl
    · exact List.forall_mem_cons.2 ⟨FV.one (FV.same (by assumption) rfl), List.forall_mem_cons.2 ⟨FV.one (FV.same (by assumption) rfl), fun _ hp => (List.not_mem_nil hp).elim⟩⟩
    · exact fun _ hp => (List.not_mem_nil hp).elim
  · cases h
theorem limb_Mul.fitR (s : St U) (y : (Int × Int × Int × Int)) (h : limb_Mul.re s = some y) : Fits s (limb_Mul.fin y) := by
  unfold limb_Mul.re at h
  split at h
  · cases h
    refine fits_ren [] ?_ ?_ ren_nil rfl
    · exact List.forall_mem_cons.2 ⟨FV.one (FV.same (by assumption) rfl), fun _ hp => (List.not_mem_nil hp).elim⟩
    · exact fun _ hp => (List.not_mem_nil hp).elim
  · cases h
theorem limb_Mul.sound (k : Nat) : Sound Try.prog DD 109 (limb_Mul.D k) :=
  fun_sound (E := limb_Mul.E k) (fn := Try.f109) (c := codeOf Try.f109) (limb_Mul.ok k) mixed rfl Try.func109 (by kernel_rfl) (by kernel_rfl) (allL_of (l := [loopAt Try.f109 4, loopAt Try.f109 18]) (by kernel_rfl) (allL_cons (key := 4) (by kernel_rfl) rfl (limb_Mul.l4.sound k) (allL_cons (key := 18) (by kernel_rfl) rfl (limb_Mul.l18.sound k) allL_nil))) (limb_Mul.D k) limb_Mul.mk limb_Mul.re (by kernel_rfl) (by kernel_rfl) limb_Mul.fit limb_Mul.fitR (limb_Mul.eq k)
/-! ### pyx/limb.Short: function 125 -/
noncomputable def limb_Short.f (k : Nat) (a0 : (Int × Int × Int × Int)) : Option ((Int × Int) × Bool) := ((cond (a0.2.2.1 != 0) (some (true, a0.1, a0.2.1, a0.2.2.1, a0.2.2.2, 0, 0)) (some (a0.2.2.2 != 0, a0.1, a0.2.1, a0.2.2.1, a0.2.2.2, 0, 0))) : Option (Bool × Int × Int × Int × Int × Int × Int)).bind fun y8 => (cond (y8.1) (some ((0, 0), false)) (some ((y8.2.1, y8.2.2.1), true)))
noncomputable def limb_Short.un (s : St U) : Option (Int × Int × Int × Int) := match s.get 0 with | .agg [.flat (.int .u64 x1), .flat (.int .u64 x2), .flat (.int .u64 x3), .flat (.int .u64 x4)] => some (x1, x2, x3, x4) | _ => none
noncomputable def limb_Short.mk (x : (Int × Int × Int × Int)) : St U := ⟨[(0, .agg [.flat (.int .u64 x.1), .flat (.int .u64 x.2.1), .flat (.int .u64 x.2.2.1), .flat (.int .u64 x.2.2.2)])], []⟩
noncomputable def limb_Short.fin (y : ((Int × Int) × Bool)) : St U := ⟨[(0, .tup [.agg [.flat (.int .u64 y.1.1), .flat (.int .u64 y.1.2)], .flat (.bool y.2)])], []⟩
noncomputable def limb_Short.D (k : Nat) : FDen U := { X := (Int × Int × Int × Int), Y := ((Int × Int) × Bool), nt := 18, gh := [], un := limb_Short.un, f := fun x => limb_Short.f k (x), fin := limb_Short.fin, cl := true, clo := fun _ _ => rfl }
noncomputable def limb_Short.re (s : St U) : Option ((Int × Int) × Bool) := match s.get 0 with | .tup [.agg [.flat (.int .u64 x1), .flat (.int .u64 x2)], .flat (.bool x3)] => some ((x1, x2), x3) | _ => none
noncomputable def limb_Short.j1000.fin (y : (Bool × Int × Int × Int × Int × Int × Int)) : Out U := match y with | (x7, x1, x2, x3, x4, x5, x6) => .norm ⟨[(1, .ptr 1 0), (2, .ptr 2 0), (11, .flat (.bool x7))], [(1, .lit [.flat (.int .u64 x1), .flat (.int .u64 x2), .flat (.int .u64 x3), .flat (.int .u64 x4)]), (2, .lit [.flat (.int .u64 x5), .flat (.int .u64 x6)])]⟩
noncomputable def limb_Short.j1000.finK {ρ : Type} (y : (Bool × Int × Int × Int × Int × Int × Int)) (K : Out U → Option ρ) : Option ρ := match y with | (x7, x1, x2, x3, x4, x5, x6) => K (.norm ⟨[(1, .ptr 1 0), (2, .ptr 2 0), (11, .flat (.bool x7))], [(1, .lit [.flat (.int .u64 x1), .flat (.int .u64 x2), .flat (.int .u64 x3), .flat (.int .u64 x4)]), (2, .lit [.flat (.int .u64 x5), .flat (.int .u64 x6)])]⟩)
theorem limb_Short.j1000.finK_eq {ρ : Type} (y : (Bool × Int × Int × Int × Int × Int × Int)) (K : Out U → Option ρ) : limb_Short.j1000.finK y K = K (limb_Short.j1000.fin y) := by
  unfold limb_Short.j1000.finK limb_Short.j1000.fin
  first | rfl | (split <;> rfl)
noncomputable def limb_Short.j1000.re : Out U → Option ((Bool × Int × Int × Int × Int × Int × Int)) | .norm s => (match s.get 1, s.get 2, s.get 11, lk s.o 1, lk s.o 2 with | .ptr 1 0, .ptr 2 0, .flat (.bool x7), some (.lit [.flat (.int .u64 x1), .flat (.int .u64 x2), .flat (.int .u64 x3), .flat (.int .u64 x4)]), some (.lit [.flat (.int .u64 x5), .flat (.int .u64 x6)]) => some (x7, x1, x2, x3, x4, x5, x6) | _, _, _, _, _ => none) | _ => none
noncomputable def limb_Short.j1000.J : JDen U := { Y := (Bool × Int × Int × Int × Int × Int × Int), re := limb_Short.j1000.re, fin := limb_Short.j1000.fin, finK := limb_Short.j1000.finK, finK_eq := limb_Short.j1000.finK_eq }
theorem limb_Short.j1000.fit (o : Out U) (y : (Bool × Int × Int × Int × Int × Int × Int)) (h : limb_Short.j1000.re o = some y) : FitsO o (limb_Short.j1000.fin y) := by
  unfold limb_Short.j1000.re at h
  split at h
  · split at h
    · cases h
      refine fitsO_norm (fits_ren [] ?_ ?_ ren_nil rfl)
      · exact List.forall_mem_cons.2 ⟨FV.one (FV.ptr (by assumption)), List.forall_mem_cons.2 ⟨FV.one (FV.ptr (by assumption)), List.forall_mem_cons.2 ⟨FV.one (FV.same (by assumption) rfl), fun _ hp => (List.not_mem_nil hp).elim⟩⟩⟩
      · exact List.forall_mem_cons.2 ⟨(FO.same (show lk (St.o _) 1 = some _ from by assumption) rfl), List.forall_mem_cons.2 ⟨(FO.same (show lk (St.o _) 2 = some _ from by assumption) rfl), fun _ hp => (List.not_mem_nil hp).elim⟩⟩
    · cases h
  · cases h
noncomputable def limb_Short.jl : List (Nat × JDen U) := [(1000, limb_Short.j1000.J)]
noncomputable def limb_Short.fl (k : Nat) : List (Nat × FDen U) := []
noncomputable def limb_Short.ll (k : Nat) : List (Nat × LDen U) := []
noncomputable def limb_Short.E (k : Nat) : Env U := { P := Try.prog, D := DD, fd := lk (limb_Short.fl k), sf := lk sl0, ld := lk (limb_Short.ll k), jd := lk limb_Short.jl, mode := lk [], elc := lk ec, mpc := lk mc, rts := Try.f125.resultTypes.toList, dyn := fun t => false, vecs := fun d => false, results := Try.f125.results.toList, gh := [], own := false, io := fun g i => false }
theorem limb_Short.ok (k : Nat) : EnvOk (limb_Short.E k) := envOk lawful (limb_Short.fl k) sl0 (limb_Short.ll k) limb_Short.jl _ _ _ _ _ _ _ _ _ _ (by
  intro p hp
  simp [limb_Short.fl] at hp) sl0_ok (by
  intro p hp
  simp only [limb_Short.jl, List.mem_cons, List.not_mem_nil, or_false] at hp
  rcases hp with rfl
  · exact limb_Short.j1000.fit)
theorem limb_Short.eq (k : Nat) (x : (Int × Int × Int × Int)) : runF (limb_Short.E k) (codeOf Try.f125) (limb_Short.mk x) limb_Short.re = (limb_Short.D k).f x := by kernel_rfl
theorem limb_Short.fit (s : St U) (x : (Int × Int × Int × Int)) (h : limb_Short.un s = some x) : Fits s (limb_Short.mk x) := by
  unfold limb_Short.un at h
  split at h
  · cases h
    refine fits_ren [] ?_ ?_ ren_nil rfl
    · exact List.forall_mem_cons.2 ⟨FV.one (FV.same (by assumption) rfl), fun _ hp => (List.not_mem_nil hp).elim⟩
    · exact fun _ hp => (List.not_mem_nil hp).elim
  · cases h
theorem limb_Short.fitR (s : St U) (y : ((Int × Int) × Bool)) (h : limb_Short.re s = some y) : Fits s (limb_Short.fin y) := by
  unfold limb_Short.re at h
  split at h
  · cases h
    refine fits_ren [] ?_ ?_ ren_nil rfl
    · exact List.forall_mem_cons.2 ⟨FV.tup (by assumption) (FTs.cons (FVA.one (FV.same rfl rfl)) (FTs.cons (FVA.one (FV.same rfl rfl)) (FTs.nil))), fun _ hp => (List.not_mem_nil hp).elim⟩
    · exact fun _ hp => (List.not_mem_nil hp).elim
  · cases h
theorem limb_Short.sound (k : Nat) : Sound Try.prog DD 125 (limb_Short.D k) :=
  fun_sound (E := limb_Short.E k) (fn := Try.f125) (c := codeOf Try.f125) (limb_Short.ok k) mixed rfl Try.func125 (by kernel_rfl) (by kernel_rfl) (allL_of (l := []) (by kernel_rfl) allL_nil) (limb_Short.D k) limb_Short.mk limb_Short.re (by kernel_rfl) (by kernel_rfl) limb_Short.fit limb_Short.fitR (limb_Short.eq k)
/-! ### pyx/limb.Ten: function 150 -/
noncomputable def limb_Ten.l5.once (k : Nat) (x : (Int × Int × Int × Int × Int × Int)) : Option ((Int × Int × Int × Int × Int × Int) ⊕ ((Int × Int × Int × Int))) := match x with | (x11, x12, x7, x8, x9, x10) => cond (decide (x12 < x11)) ((limb_Of.f k 10).bind fun t13 => ((limb_Mul.f k (x9, x10) (t13.1, t13.2)).bind fun t14 => ((limb_Short.f k (t14.1, t14.2.1, t14.2.2.1, t14.2.2.2)).bind fun t15 => (some (.inl (x11, IntKind.wrap .i64 (x12 + 1), x7, x8, t15.1.1, t15.1.2)))))) (some (.inr (x7, x8, x9, x10)))
noncomputable def limb_Ten.f (k : Nat) (a0 : Int) : Option ((Int × Int) × Bool) := ((cond (decide (a0 < 0)) (some (a0, true, 0, 0)) (some (a0, decide (a0 > 38), 0, 0))) : Option (Int × Bool × Int × Int)).bind fun y5 => (cond (y5.2.1) (some ((0, 0), false)) ((limb_Of.f k 1).bind fun t6 => ((iter (limb_Ten.l5.once k) k (y5.1, 0, y5.2.2.1, y5.2.2.2, t6.1, t6.2)).bind fun y20 => (some ((y20.2.2.1, y20.2.2.2), true)))))
noncomputable def limb_Ten.un (s : St U) : Option Int := match s.get 0 with | .flat (.int .i64 x1) => some x1 | _ => none
noncomputable def limb_Ten.mk (x : Int) : St U := ⟨[(0, .flat (.int .i64 x))], []⟩
noncomputable def limb_Ten.fin (y : ((Int × Int) × Bool)) : St U := ⟨[(0, .tup [.agg [.flat (.int .u64 y.1.1), .flat (.int .u64 y.1.2)], .flat (.bool y.2)])], []⟩
noncomputable def limb_Ten.D (k : Nat) : FDen U := { X := Int, Y := ((Int × Int) × Bool), nt := 25, gh := [], un := limb_Ten.un, f := fun x => limb_Ten.f k (x), fin := limb_Ten.fin, cl := true, clo := fun _ _ => rfl }
noncomputable def limb_Ten.re (s : St U) : Option ((Int × Int) × Bool) := match s.get 0 with | .tup [.agg [.flat (.int .u64 x1), .flat (.int .u64 x2)], .flat (.bool x3)] => some ((x1, x2), x3) | _ => none
noncomputable def limb_Ten.l5.mk (x : (Int × Int × Int × Int × Int × Int)) : St U := match x with | (x11, x12, x7, x8, x9, x10) => ⟨[(2, .ptr 2 0), (4, .ptr 4 0), (13, .flat (.int .i64 x11)), (14, .flat (.int .i64 x12))], [(2, .lit [.flat (.int .u64 x7), .flat (.int .u64 x8)]), (4, .lit [.flat (.int .u64 x9), .flat (.int .u64 x10)])]⟩
noncomputable def limb_Ten.l5.un (s : St U) : Option (Int × Int × Int × Int × Int × Int) := match s.get 2, s.get 4, s.get 13, s.get 14, lk s.o 2, lk s.o 4 with | .ptr 2 0, .ptr 4 0, .flat (.int .i64 x11), .flat (.int .i64 x12), some (.lit [.flat (.int .u64 x7), .flat (.int .u64 x8)]), some (.lit [.flat (.int .u64 x9), .flat (.int .u64 x10)]) => some (x11, x12, x7, x8, x9, x10) | _, _, _, _, _, _ => none
noncomputable def limb_Ten.l5.fin (y : (Int × Int × Int × Int)) : Out U := match y with | (x16, x17, x18, x19) => .exit 0 ⟨[(2, .ptr 2 0), (4, .ptr 4 0)], [(2, .lit [.flat (.int .u64 x16), .flat (.int .u64 x17)]), (4, .lit [.flat (.int .u64 x18), .flat (.int .u64 x19)])]⟩
noncomputable def limb_Ten.l5.finK {ρ : Type} (y : (Int × Int × Int × Int)) (K : Out U → Option ρ) : Option ρ := match y with | (x16, x17, x18, x19) => K (.exit 0 ⟨[(2, .ptr 2 0), (4, .ptr 4 0)], [(2, .lit [.flat (.int .u64 x16), .flat (.int .u64 x17)]), (4, .lit [.flat (.int .u64 x18), .flat (.int .u64 x19)])]⟩)
theorem limb_Ten.l5.finK_eq {ρ : Type} (y : (Int × Int × Int × Int)) (K : Out U → Option ρ) : limb_Ten.l5.finK y K = K (limb_Ten.l5.fin y) := by
  unfold limb_Ten.l5.finK limb_Ten.l5.fin
  first | rfl | (split <;> rfl)
noncomputable def limb_Ten.l5.re : Out U → Option ((Int × Int × Int × Int)) | .exit 0 s => (match s.get 2, s.get 4, lk s.o 2, lk s.o 4 with | .ptr 2 0, .ptr 4 0, some (.lit [.flat (.int .u64 x16), .flat (.int .u64 x17)]), some (.lit [.flat (.int .u64 x18), .flat (.int .u64 x19)]) => some (x16, x17, x18, x19) | _, _, _, _ => none) | _ => none
noncomputable def limb_Ten.l5.L (k : Nat) : LDen U := { X := (Int × Int × Int × Int × Int × Int), Y := (Int × Int × Int × Int), un := limb_Ten.l5.un, f := iter (limb_Ten.l5.once k) k, fin := limb_Ten.l5.fin, finK := limb_Ten.l5.finK, finK_eq := limb_Ten.l5.finK_eq }
noncomputable def limb_Ten.j1000.fin (y : (Int × Bool × Int × Int)) : Out U := match y with | (x1, x4, x2, x3) => .norm ⟨[(2, .ptr 2 0), (0, .flat (.int .i64 x1)), (10, .flat (.bool x4))], [(2, .lit [.flat (.int .u64 x2), .flat (.int .u64 x3)])]⟩
noncomputable def limb_Ten.j1000.finK {ρ : Type} (y : (Int × Bool × Int × Int)) (K : Out U → Option ρ) : Option ρ := match y with | (x1, x4, x2, x3) => K (.norm ⟨[(2, .ptr 2 0), (0, .flat (.int .i64 x1)), (10, .flat (.bool x4))], [(2, .lit [.flat (.int .u64 x2), .flat (.int .u64 x3)])]⟩)
theorem limb_Ten.j1000.finK_eq {ρ : Type} (y : (Int × Bool × Int × Int)) (K : Out U → Option ρ) : limb_Ten.j1000.finK y K = K (limb_Ten.j1000.fin y) := by
  unfold limb_Ten.j1000.finK limb_Ten.j1000.fin
  first | rfl | (split <;> rfl)
noncomputable def limb_Ten.j1000.re : Out U → Option ((Int × Bool × Int × Int)) | .norm s => (match s.get 2, s.get 0, s.get 10, lk s.o 2 with | .ptr 2 0, .flat (.int .i64 x1), .flat (.bool x4), some (.lit [.flat (.int .u64 x2), .flat (.int .u64 x3)]) => some (x1, x4, x2, x3) | _, _, _, _ => none) | _ => none
noncomputable def limb_Ten.j1000.J : JDen U := { Y := (Int × Bool × Int × Int), re := limb_Ten.j1000.re, fin := limb_Ten.j1000.fin, finK := limb_Ten.j1000.finK, finK_eq := limb_Ten.j1000.finK_eq }
theorem limb_Ten.j1000.fit (o : Out U) (y : (Int × Bool × Int × Int)) (h : limb_Ten.j1000.re o = some y) : FitsO o (limb_Ten.j1000.fin y) := by
  unfold limb_Ten.j1000.re at h
  split at h
  · split at h
    · cases h
      refine fitsO_norm (fits_ren [] ?_ ?_ ren_nil rfl)
      · exact List.forall_mem_cons.2 ⟨FV.one (FV.ptr (by assumption)), List.forall_mem_cons.2 ⟨FV.one (FV.same (by assumption) rfl), List.forall_mem_cons.2 ⟨FV.one (FV.same (by assumption) rfl), fun _ hp => (List.not_mem_nil hp).elim⟩⟩⟩
      · exact List.forall_mem_cons.2 ⟨(FO.same (show lk (St.o _) 2 = some _ from by assumption) rfl), fun _ hp => (List.not_mem_nil hp).elim⟩
    · cases h
  · cases h
noncomputable def limb_Ten.jl : List (Nat × JDen U) := [(1000, limb_Ten.j1000.J)]
noncomputable def limb_Ten.fl (k : Nat) : List (Nat × FDen U) := [(129, limb_Of.D k), (109, limb_Mul.D k), (125, limb_Short.D k)]
noncomputable def limb_Ten.ll (k : Nat) : List (Nat × LDen U) := [(5, limb_Ten.l5.L k)]
noncomputable def limb_Ten.E (k : Nat) : Env U := { P := Try.prog, D := DD, fd := lk (limb_Ten.fl k), sf := lk sl0, ld := lk (limb_Ten.ll k), jd := lk limb_Ten.jl, mode := lk [], elc := lk ec, mpc := lk mc, rts := Try.f150.resultTypes.toList, dyn := fun t => false, vecs := fun d => false, results := Try.f150.results.toList, gh := [], own := false, io := fun g i => false }
theorem limb_Ten.ok (k : Nat) : EnvOk (limb_Ten.E k) := envOk lawful (limb_Ten.fl k) sl0 (limb_Ten.ll k) limb_Ten.jl _ _ _ _ _ _ _ _ _ _ (by
  intro p hp
  simp only [limb_Ten.fl, List.mem_cons, List.not_mem_nil, or_false] at hp
  rcases hp with rfl | rfl | rfl
  · exact ⟨limb_Of.sound k, enter_of Try.func129 (by kernel_rfl) (by kernel_rfl)⟩
  · exact ⟨limb_Mul.sound k, enter_of Try.func109 (by kernel_rfl) (by kernel_rfl)⟩
  · exact ⟨limb_Short.sound k, enter_of Try.func125 (by kernel_rfl) (by kernel_rfl)⟩) sl0_ok (by
  intro p hp
  simp only [limb_Ten.jl, List.mem_cons, List.not_mem_nil, or_false] at hp
  rcases hp with rfl
  · exact limb_Ten.j1000.fit)
theorem limb_Ten.l5.eq (k : Nat) (x : (Int × Int × Int × Int × Int × Int)) : evC (limb_Ten.E k) (loopAt Try.f150 5) (limb_Ten.l5.mk x) (headK limb_Ten.l5.un limb_Ten.l5.re) = limb_Ten.l5.once k x := by kernel_rfl
theorem limb_Ten.l5.fit (s : St U) (x : (Int × Int × Int × Int × Int × Int)) (h : limb_Ten.l5.un s = some x) : Fits s (limb_Ten.l5.mk x) := by
  unfold limb_Ten.l5.un at h
  split at h
  · cases h
    refine fits_ren [] ?_ ?_ ren_nil rfl
    · exact List.forall_mem_cons.2 ⟨FV.one (FV.ptr (by assumption)), List.forall_mem_cons.2 ⟨FV.one (FV.ptr (by assumption)), List.forall_mem_cons.2 ⟨FV.one (FV.same (by assumption) rfl), List.forall_mem_cons.2 ⟨FV.one (FV.same (by assumption) rfl), fun _ hp => (List.not_mem_nil hp).elim⟩⟩⟩⟩
    · exact List.forall_mem_cons.2 ⟨(FO.same (show lk (St.o _) 2 = some _ from by assumption) rfl), List.forall_mem_cons.2 ⟨(FO.same (show lk (St.o _) 4 = some _ from by assumption) rfl), fun _ hp => (List.not_mem_nil hp).elim⟩⟩
  · cases h
theorem limb_Ten.l5.fitO (o : Out U) (y : (Int × Int × Int × Int)) (h : limb_Ten.l5.re o = some y) : FitsO o (limb_Ten.l5.fin y) := by
  unfold limb_Ten.l5.re at h
  split at h
  · split at h
    · cases h
      refine fitsO_exit (fits_ren [] ?_ ?_ ren_nil rfl)
      · exact List.forall_mem_cons.2 ⟨FV.one (FV.ptr (by assumption)), List.forall_mem_cons.2 ⟨FV.one (FV.ptr (by assumption)), fun _ hp => (List.not_mem_nil hp).elim⟩⟩
      · exact List.forall_mem_cons.2 ⟨(FO.same (show lk (St.o _) 2 = some _ from by assumption) rfl), List.forall_mem_cons.2 ⟨(FO.same (show lk (St.o _) 4 = some _ from by assumption) rfl), fun _ hp => (List.not_mem_nil hp).elim⟩⟩
    · cases h
  · cases h
theorem limb_Ten.l5.sound (k : Nat) : LSound (limb_Ten.E k) Try.f150.ntmps Try.f150 (loopAt Try.f150 5) (limb_Ten.l5.L k) :=
  loop_sound (limb_Ten.ok k) mixed rfl (by kernel_rfl) (allL_of (l := []) (by kernel_rfl) allL_nil) limb_Ten.l5.un limb_Ten.l5.mk limb_Ten.l5.fin limb_Ten.l5.re (limb_Ten.l5.once k) k limb_Ten.l5.fit limb_Ten.l5.fitO (limb_Ten.l5.eq k) limb_Ten.l5.finK limb_Ten.l5.finK_eq
theorem limb_Ten.eq (k : Nat) (x : Int) : runF (limb_Ten.E k) (codeOf Try.f150) (limb_Ten.mk x) limb_Ten.re = (limb_Ten.D k).f x := by kernel_rfl
theorem limb_Ten.fit (s : St U) (x : Int) (h : limb_Ten.un s = some x) : Fits s (limb_Ten.mk x) := by
  unfold limb_Ten.un at h
  split at h
  · cases h
    refine fits_ren [] ?_ ?_ ren_nil rfl
    · exact List.forall_mem_cons.2 ⟨FV.one (FV.same (by assumption) rfl), fun _ hp => (List.not_mem_nil hp).elim⟩
    · exact fun _ hp => (List.not_mem_nil hp).elim
  · cases h
theorem limb_Ten.fitR (s : St U) (y : ((Int × Int) × Bool)) (h : limb_Ten.re s = some y) : Fits s (limb_Ten.fin y) := by
  unfold limb_Ten.re at h
  split at h
  · cases h
    refine fits_ren [] ?_ ?_ ren_nil rfl
    · exact List.forall_mem_cons.2 ⟨FV.tup (by assumption) (FTs.cons (FVA.one (FV.same rfl rfl)) (FTs.cons (FVA.one (FV.same rfl rfl)) (FTs.nil))), fun _ hp => (List.not_mem_nil hp).elim⟩
    · exact fun _ hp => (List.not_mem_nil hp).elim
  · cases h
theorem limb_Ten.sound (k : Nat) : Sound Try.prog DD 150 (limb_Ten.D k) :=
  fun_sound (E := limb_Ten.E k) (fn := Try.f150) (c := codeOf Try.f150) (limb_Ten.ok k) mixed rfl Try.func150 (by kernel_rfl) (by kernel_rfl) (allL_of (l := [loopAt Try.f150 5]) (by kernel_rfl) (allL_cons (key := 5) (by kernel_rfl) rfl (limb_Ten.l5.sound k) allL_nil)) (limb_Ten.D k) limb_Ten.mk limb_Ten.re (by kernel_rfl) (by kernel_rfl) limb_Ten.fit limb_Ten.fitR (limb_Ten.eq k)
/-! ### pyx/dec.ten: function 124 -/
noncomputable def dec_ten.f (k : Nat) (a0 : Int) : Option (Int × Int) := (limb_Ten.f k a0).bind fun t1 => (some (t1.1.1, t1.1.2))
noncomputable def dec_ten.un (s : St U) : Option Int := match s.get 0 with | .flat (.int .i64 x1) => some x1 | _ => none
noncomputable def dec_ten.mk (x : Int) : St U := ⟨[(0, .flat (.int .i64 x))], []⟩
noncomputable def dec_ten.fin (y : (Int × Int)) : St U := ⟨[(0, .agg [.flat (.int .u64 y.1), .flat (.int .u64 y.2)])], []⟩
noncomputable def dec_ten.D (k : Nat) : FDen U := { X := Int, Y := (Int × Int), nt := 11, gh := [], un := dec_ten.un, f := fun x => dec_ten.f k (x), fin := dec_ten.fin, cl := true, clo := fun _ _ => rfl }
noncomputable def dec_ten.re (s : St U) : Option (Int × Int) := match s.get 0 with | .agg [.flat (.int .u64 x1), .flat (.int .u64 x2)] => some (x1, x2) | _ => none
noncomputable def dec_ten.jl : List (Nat × JDen U) := []
noncomputable def dec_ten.fl (k : Nat) : List (Nat × FDen U) := [(150, limb_Ten.D k)]
noncomputable def dec_ten.ll (k : Nat) : List (Nat × LDen U) := []
noncomputable def dec_ten.E (k : Nat) : Env U := { P := Try.prog, D := DD, fd := lk (dec_ten.fl k), sf := lk sl0, ld := lk (dec_ten.ll k), jd := lk dec_ten.jl, mode := lk [], elc := lk ec, mpc := lk mc, rts := Try.f124.resultTypes.toList, dyn := fun t => false, vecs := fun d => false, results := Try.f124.results.toList, gh := [], own := false, io := fun g i => false }
theorem dec_ten.ok (k : Nat) : EnvOk (dec_ten.E k) := envOk lawful (dec_ten.fl k) sl0 (dec_ten.ll k) dec_ten.jl _ _ _ _ _ _ _ _ _ _ (by
  intro p hp
  simp only [dec_ten.fl, List.mem_cons, List.not_mem_nil, or_false] at hp
  rcases hp with rfl
  · exact ⟨limb_Ten.sound k, enter_of Try.func150 (by kernel_rfl) (by kernel_rfl)⟩) sl0_ok (by
  intro p hp
  simp [dec_ten.jl] at hp)
theorem dec_ten.eq (k : Nat) (x : Int) : runF (dec_ten.E k) (codeOf Try.f124) (dec_ten.mk x) dec_ten.re = (dec_ten.D k).f x := by kernel_rfl
theorem dec_ten.fit (s : St U) (x : Int) (h : dec_ten.un s = some x) : Fits s (dec_ten.mk x) := by
  unfold dec_ten.un at h
  split at h
  · cases h
    refine fits_ren [] ?_ ?_ ren_nil rfl
    · exact List.forall_mem_cons.2 ⟨FV.one (FV.same (by assumption) rfl), fun _ hp => (List.not_mem_nil hp).elim⟩
    · exact fun _ hp => (List.not_mem_nil hp).elim
  · cases h
theorem dec_ten.fitR (s : St U) (y : (Int × Int)) (h : dec_ten.re s = some y) : Fits s (dec_ten.fin y) := by
  unfold dec_ten.re at h
  split at h
  · cases h
    refine fits_ren [] ?_ ?_ ren_nil rfl
    · exact List.forall_mem_cons.2 ⟨FV.one (FV.same (by assumption) rfl), fun _ hp => (List.not_mem_nil hp).elim⟩
    · exact fun _ hp => (List.not_mem_nil hp).elim
  · cases h
theorem dec_ten.sound (k : Nat) : Sound Try.prog DD 124 (dec_ten.D k) :=
  fun_sound (E := dec_ten.E k) (fn := Try.f124) (c := codeOf Try.f124) (dec_ten.ok k) mixed rfl Try.func124 (by kernel_rfl) (by kernel_rfl) (allL_of (l := []) (by kernel_rfl) allL_nil) (dec_ten.D k) dec_ten.mk dec_ten.re (by kernel_rfl) (by kernel_rfl) dec_ten.fit dec_ten.fitR (dec_ten.eq k)
/-! ### pyx/limb.Cmp: function 149 -/
noncomputable def limb_Cmp.l2.once (k : Nat) (x : (Int × List Int × List Int)) : Option ((Int × List Int × List Int) ⊕ (Unit ⊕ Int)) := match x with | (x3, x1, x2) => cond (decide (x3 ≥ 0)) (cond (inb x3 2) (cond (Nat.blt (Int.toNat x3) 2) (cond (inb x3 2) (cond (Nat.blt (Int.toNat x3) 2) (cond ((List.getD x1 (Int.toNat x3) 0) != (List.getD x2 (Int.toNat x3) 0)) (cond (inb x3 2) (cond (Nat.blt (Int.toNat x3) 2) (cond (inb x3 2) (cond (Nat.blt (Int.toNat x3) 2) (cond (decide ((List.getD x1 (Int.toNat x3) 0) < (List.getD x2 (Int.toNat x3) 0))) (some (.inr (.inr (-1)))) (some (.inr (.inr 1)))) none) none) none) none) (some (.inl (IntKind.wrap .i64 (x3 - 1), x1, x2)))) none) none) none) none) (some (.inr (.inl ())))
noncomputable def limb_Cmp.f (k : Nat) (a0 : (Int × Int)) (a1 : (Int × Int)) : Option Int := (iter (limb_Cmp.l2.once k) k (1, [a0.1, a0.2], [a1.1, a1.2])).bind fun | .inl y5 => (some 0) | .inr y6 => (some y6)
noncomputable def limb_Cmp.un (s : St U) : Option ((Int × Int) × (Int × Int)) := match s.get 0, s.get 1 with | .agg [.flat (.int .u64 x1), .flat (.int .u64 x2)], .agg [.flat (.int .u64 x3), .flat (.int .u64 x4)] => some ((x1, x2), (x3, x4)) | _, _ => none
noncomputable def limb_Cmp.mk (x : ((Int × Int) × (Int × Int))) : St U := ⟨[(0, .agg [.flat (.int .u64 x.1.1), .flat (.int .u64 x.1.2)]), (1, .agg [.flat (.int .u64 x.2.1), .flat (.int .u64 x.2.2)])], []⟩
noncomputable def limb_Cmp.fin (y : Int) : St U := ⟨[(0, .flat (.int .i64 y))], []⟩
noncomputable def limb_Cmp.D (k : Nat) : FDen U := { X := ((Int × Int) × (Int × Int)), Y := Int, nt := 24, gh := [], un := limb_Cmp.un, f := fun x => limb_Cmp.f k (x.1) (x.2), fin := limb_Cmp.fin, cl := true, clo := fun _ _ => rfl }
noncomputable def limb_Cmp.re (s : St U) : Option Int := match s.get 0 with | .flat (.int .i64 x1) => some x1 | _ => none
noncomputable def limb_Cmp.l2.mk (x : (Int × List Int × List Int)) : St U := match x with | (x3, x1, x2) => ⟨[(2, .ptr 2 0), (3, .ptr 3 0), (5, .flat (.int .i64 x3))], [(2, .arr 2 C.u64 x1), (3, .arr 2 C.u64 x2)]⟩
noncomputable def limb_Cmp.l2.un (s : St U) : Option (Int × List Int × List Int) := match s.get 2, s.get 3, s.get 5, lk s.o 2, lk s.o 3 with | .ptr 2 0, .ptr 3 0, .flat (.int .i64 x3), some (.arr 2 C.u64 x1), some (.arr 2 C.u64 x2) => some (x3, x1, x2) | _, _, _, _, _ => none
noncomputable def limb_Cmp.l2.fin (y : Unit ⊕ Int) : Out U := match y with | .inl () => .exit 0 ⟨[], []⟩ | .inr z => .ret (⟨[(0, .flat (.int .i64 z))], []⟩)
noncomputable def limb_Cmp.l2.finK {ρ : Type} (y : Unit ⊕ Int) (K : Out U → Option ρ) : Option ρ := match y with | .inl () => K (.exit 0 ⟨[], []⟩) | .inr z => K (.ret (⟨[(0, .flat (.int .i64 z))], []⟩))
theorem limb_Cmp.l2.finK_eq {ρ : Type} (y : Unit ⊕ Int) (K : Out U → Option ρ) : limb_Cmp.l2.finK y K = K (limb_Cmp.l2.fin y) := by
  unfold limb_Cmp.l2.finK limb_Cmp.l2.fin
  first | rfl | (split <;> rfl)
noncomputable def limb_Cmp.l2.re : Out U → Option (Unit ⊕ Int) | .exit 0 s => (some (.inl ())) | .ret s => (match s.get 0 with | .flat (.int .i64 x1) => some (.inr x1) | _ => none) | _ => none
noncomputable def limb_Cmp.l2.L (k : Nat) : LDen U := { X := (Int × List Int × List Int), Y := Unit ⊕ Int, un := limb_Cmp.l2.un, f := iter (limb_Cmp.l2.once k) k, fin := limb_Cmp.l2.fin, finK := limb_Cmp.l2.finK, finK_eq := limb_Cmp.l2.finK_eq }
noncomputable def limb_Cmp.jl : List (Nat × JDen U) := []
noncomputable def limb_Cmp.fl (k : Nat) : List (Nat × FDen U) := []
noncomputable def limb_Cmp.ll (k : Nat) : List (Nat × LDen U) := [(2, limb_Cmp.l2.L k)]
noncomputable def limb_Cmp.E (k : Nat) : Env U := { P := Try.prog, D := DD, fd := lk (limb_Cmp.fl k), sf := lk sl0, ld := lk (limb_Cmp.ll k), jd := lk limb_Cmp.jl, mode := lk [(26, (2, C.u64))], elc := lk ec, mpc := lk mc, rts := Try.f149.resultTypes.toList, dyn := fun t => false, vecs := fun d => false, results := Try.f149.results.toList, gh := [], own := false, io := fun g i => false }
theorem limb_Cmp.ok (k : Nat) : EnvOk (limb_Cmp.E k) := envOk lawful (limb_Cmp.fl k) sl0 (limb_Cmp.ll k) limb_Cmp.jl _ _ _ _ _ _ _ _ _ _ (by
  intro p hp
  simp [limb_Cmp.fl] at hp) sl0_ok (by
  intro p hp
  simp [limb_Cmp.jl] at hp)
theorem limb_Cmp.l2.eq (k : Nat) (x : (Int × List Int × List Int)) : evC (limb_Cmp.E k) (loopAt Try.f149 2) (limb_Cmp.l2.mk x) (headK limb_Cmp.l2.un limb_Cmp.l2.re) = limb_Cmp.l2.once k x := by kernel_rfl
theorem limb_Cmp.l2.fit (s : St U) (x : (Int × List Int × List Int)) (h : limb_Cmp.l2.un s = some x) : Fits s (limb_Cmp.l2.mk x) := by
  unfold limb_Cmp.l2.un at h
  split at h
  · cases h
    refine fits_ren [] ?_ ?_ ren_nil rfl
    · exact List.forall_mem_cons.2 ⟨FV.one (FV.ptr (by assumption)), List.forall_mem_cons.2 ⟨FV.one (FV.ptr (by assumption)), List.forall_mem_cons.2 ⟨FV.one (FV.same (by assumption) rfl), fun _ hp => (List.not_mem_nil hp).elim⟩⟩⟩
    · exact List.forall_mem_cons.2 ⟨(show lk (St.o _) 2 = some _ from by assumption), List.forall_mem_cons.2 ⟨(show lk (St.o _) 3 = some _ from by assumption), fun _ hp => (List.not_mem_nil hp).elim⟩⟩
  · cases h
theorem limb_Cmp.l2.fitO (o : Out U) (y : Unit ⊕ Int) (h : limb_Cmp.l2.re o = some y) : FitsO o (limb_Cmp.l2.fin y) := by
  unfold limb_Cmp.l2.re at h
  split at h
  · cases h
    refine fitsO_exit (fits_ren [] ?_ ?_ ren_nil rfl)
    · exact fun _ hp => (List.not_mem_nil hp).elim
    · exact fun _ hp => (List.not_mem_nil hp).elim
  · split at h
    · cases h
      refine fitsO_ret (fits_ren [] ?_ ?_ ren_nil rfl)
      · exact List.forall_mem_cons.2 ⟨FV.one (FV.same (by assumption) rfl), fun _ hp => (List.not_mem_nil hp).elim⟩
      · exact fun _ hp => (List.not_mem_nil hp).elim
    · cases h
  · cases h
theorem limb_Cmp.l2.sound (k : Nat) : LSound (limb_Cmp.E k) Try.f149.ntmps Try.f149 (loopAt Try.f149 2) (limb_Cmp.l2.L k) :=
  loop_sound (limb_Cmp.ok k) mixed rfl (by kernel_rfl) (allL_of (l := []) (by kernel_rfl) allL_nil) limb_Cmp.l2.un limb_Cmp.l2.mk limb_Cmp.l2.fin limb_Cmp.l2.re (limb_Cmp.l2.once k) k limb_Cmp.l2.fit limb_Cmp.l2.fitO (limb_Cmp.l2.eq k) limb_Cmp.l2.finK limb_Cmp.l2.finK_eq
theorem limb_Cmp.eq (k : Nat) (x : ((Int × Int) × (Int × Int))) : runF (limb_Cmp.E k) (codeOf Try.f149) (limb_Cmp.mk x) limb_Cmp.re = (limb_Cmp.D k).f x := by kernel_rfl
theorem limb_Cmp.fit (s : St U) (x : ((Int × Int) × (Int × Int))) (h : limb_Cmp.un s = some x) : Fits s (limb_Cmp.mk x) := by
  unfold limb_Cmp.un at h
  split at h
  · cases h
    refine fits_ren [] ?_ ?_ ren_nil rfl
    · exact List.forall_mem_cons.2 ⟨FV.one (FV.same (by assumption) rfl), List.forall_mem_cons.2 ⟨FV.one (FV.same (by assumption) rfl), fun _ hp => (List.not_mem_nil hp).elim⟩⟩
    · exact fun _ hp => (List.not_mem_nil hp).elim
  · cases h
theorem limb_Cmp.fitR (s : St U) (y : Int) (h : limb_Cmp.re s = some y) : Fits s (limb_Cmp.fin y) := by
  unfold limb_Cmp.re at h
  split at h
  · cases h
    refine fits_ren [] ?_ ?_ ren_nil rfl
    · exact List.forall_mem_cons.2 ⟨FV.one (FV.same (by assumption) rfl), fun _ hp => (List.not_mem_nil hp).elim⟩
    · exact fun _ hp => (List.not_mem_nil hp).elim
  · cases h
theorem limb_Cmp.sound (k : Nat) : Sound Try.prog DD 149 (limb_Cmp.D k) :=
  fun_sound (E := limb_Cmp.E k) (fn := Try.f149) (c := codeOf Try.f149) (limb_Cmp.ok k) mixed rfl Try.func149 (by kernel_rfl) (by kernel_rfl) (allL_of (l := [loopAt Try.f149 2]) (by kernel_rfl) (allL_cons (key := 2) (by kernel_rfl) rfl (limb_Cmp.l2.sound k) allL_nil)) (limb_Cmp.D k) limb_Cmp.mk limb_Cmp.re (by kernel_rfl) (by kernel_rfl) limb_Cmp.fit limb_Cmp.fitR (limb_Cmp.eq k)
/-! ### pyx/dec.small: function 123 -/
noncomputable def dec_small.f (k : Nat) (a0 : (Int × Int)) : Option Bool := (dec_ten.f k 30).bind fun t1 => ((limb_Cmp.f k (a0.1, a0.2) (t1.1, t1.2)).bind fun t2 => (some (decide (t2 < 0))))
noncomputable def dec_small.un (s : St U) : Option (Int × Int) := match s.get 0 with | .agg [.flat (.int .u64 x1), .flat (.int .u64 x2)] => some (x1, x2) | _ => none
noncomputable def dec_small.mk (x : (Int × Int)) : St U := ⟨[(0, .agg [.flat (.int .u64 x.1), .flat (.int .u64 x.2)])], []⟩
noncomputable def dec_small.fin (y : Bool) : St U := ⟨[(0, .flat (.bool y))], []⟩
noncomputable def dec_small.D (k : Nat) : FDen U := { X := (Int × Int), Y := Bool, nt := 7, gh := [], un := dec_small.un, f := fun x => dec_small.f k (x), fin := dec_small.fin, cl := true, clo := fun _ _ => rfl }
noncomputable def dec_small.re (s : St U) : Option Bool := match s.get 0 with | .flat (.bool x1) => some x1 | _ => none
noncomputable def dec_small.jl : List (Nat × JDen U) := []
noncomputable def dec_small.fl (k : Nat) : List (Nat × FDen U) := [(124, dec_ten.D k), (149, limb_Cmp.D k)]
noncomputable def dec_small.ll (k : Nat) : List (Nat × LDen U) := []
noncomputable def dec_small.E (k : Nat) : Env U := { P := Try.prog, D := DD, fd := lk (dec_small.fl k), sf := lk sl0, ld := lk (dec_small.ll k), jd := lk dec_small.jl, mode := lk [], elc := lk ec, mpc := lk mc, rts := Try.f123.resultTypes.toList, dyn := fun t => false, vecs := fun d => false, results := Try.f123.results.toList, gh := [], own := false, io := fun g i => false }
theorem dec_small.ok (k : Nat) : EnvOk (dec_small.E k) := envOk lawful (dec_small.fl k) sl0 (dec_small.ll k) dec_small.jl _ _ _ _ _ _ _ _ _ _ (by
  intro p hp
  simp only [dec_small.fl, List.mem_cons, List.not_mem_nil, or_false] at hp
  rcases hp with rfl | rfl
  · exact ⟨dec_ten.sound k, enter_of Try.func124 (by kernel_rfl) (by kernel_rfl)⟩
  · exact ⟨limb_Cmp.sound k, enter_of Try.func149 (by kernel_rfl) (by kernel_rfl)⟩) sl0_ok (by
  intro p hp
  simp [dec_small.jl] at hp)
theorem dec_small.eq (k : Nat) (x : (Int × Int)) : runF (dec_small.E k) (codeOf Try.f123) (dec_small.mk x) dec_small.re = (dec_small.D k).f x := by kernel_rfl
theorem dec_small.fit (s : St U) (x : (Int × Int)) (h : dec_small.un s = some x) : Fits s (dec_small.mk x) := by
  unfold dec_small.un at h
  split at h
  · cases h
    refine fits_ren [] ?_ ?_ ren_nil rfl
    · exact List.forall_mem_cons.2 ⟨FV.one (FV.same (by assumption) rfl), fun _ hp => (List.not_mem_nil hp).elim⟩
    · exact fun _ hp => (List.not_mem_nil hp).elim
  · cases h
theorem dec_small.fitR (s : St U) (y : Bool) (h : dec_small.re s = some y) : Fits s (dec_small.fin y) := by
  unfold dec_small.re at h
  split at h
  · cases h
    refine fits_ren [] ?_ ?_ ren_nil rfl
    · exact List.forall_mem_cons.2 ⟨FV.one (FV.same (by assumption) rfl), fun _ hp => (List.not_mem_nil hp).elim⟩
    · exact fun _ hp => (List.not_mem_nil hp).elim
  · cases h
theorem dec_small.sound (k : Nat) : Sound Try.prog DD 123 (dec_small.D k) :=
  fun_sound (E := dec_small.E k) (fn := Try.f123) (c := codeOf Try.f123) (dec_small.ok k) mixed rfl Try.func123 (by kernel_rfl) (by kernel_rfl) (allL_of (l := []) (by kernel_rfl) allL_nil) (dec_small.D k) dec_small.mk dec_small.re (by kernel_rfl) (by kernel_rfl) dec_small.fit dec_small.fitR (dec_small.eq k)
/-! ### pyx/dec.nought: function 88 -/
noncomputable def dec_nought.f (k : Nat) (a0 : (Int × Int)) : Option Bool := some ((a0.1 == 0) && (a0.2 == 0))
noncomputable def dec_nought.un (s : St U) : Option (Int × Int) := match s.get 0 with | .agg [.flat (.int .u64 x1), .flat (.int .u64 x2)] => some (x1, x2) | _ => none
noncomputable def dec_nought.mk (x : (Int × Int)) : St U := ⟨[(0, .agg [.flat (.int .u64 x.1), .flat (.int .u64 x.2)])], []⟩
noncomputable def dec_nought.fin (y : Bool) : St U := ⟨[(0, .flat (.bool y))], []⟩
noncomputable def dec_nought.D (k : Nat) : FDen U := { X := (Int × Int), Y := Bool, nt := 6, gh := [], un := dec_nought.un, f := fun x => dec_nought.f k (x), fin := dec_nought.fin, cl := true, clo := fun _ _ => rfl }
noncomputable def dec_nought.re (s : St U) : Option Bool := match s.get 0 with | .flat (.bool x1) => some x1 | _ => none
noncomputable def dec_nought.jl : List (Nat × JDen U) := []
noncomputable def dec_nought.fl (k : Nat) : List (Nat × FDen U) := []
noncomputable def dec_nought.ll (k : Nat) : List (Nat × LDen U) := []
noncomputable def dec_nought.E (k : Nat) : Env U := { P := Try.prog, D := DD, fd := lk (dec_nought.fl k), sf := lk sl0, ld := lk (dec_nought.ll k), jd := lk dec_nought.jl, mode := lk [], elc := lk ec, mpc := lk mc, rts := Try.f88.resultTypes.toList, dyn := fun t => false, vecs := fun d => false, results := Try.f88.results.toList, gh := [], own := false, io := fun g i => false }
theorem dec_nought.ok (k : Nat) : EnvOk (dec_nought.E k) := envOk lawful (dec_nought.fl k) sl0 (dec_nought.ll k) dec_nought.jl _ _ _ _ _ _ _ _ _ _ (by
  intro p hp
  simp [dec_nought.fl] at hp) sl0_ok (by
  intro p hp
  simp [dec_nought.jl] at hp)
theorem dec_nought.eq (k : Nat) (x : (Int × Int)) : runF (dec_nought.E k) (codeOf Try.f88) (dec_nought.mk x) dec_nought.re = (dec_nought.D k).f x := by kernel_rfl
theorem dec_nought.fit (s : St U) (x : (Int × Int)) (h : dec_nought.un s = some x) : Fits s (dec_nought.mk x) := by
  unfold dec_nought.un at h
  split at h
  · cases h
    refine fits_ren [] ?_ ?_ ren_nil rfl
    · exact List.forall_mem_cons.2 ⟨FV.one (FV.same (by assumption) rfl), fun _ hp => (List.not_mem_nil hp).elim⟩
    · exact fun _ hp => (List.not_mem_nil hp).elim
  · cases h
theorem dec_nought.fitR (s : St U) (y : Bool) (h : dec_nought.re s = some y) : Fits s (dec_nought.fin y) := by
  unfold dec_nought.re at h
  split at h
  · cases h
    refine fits_ren [] ?_ ?_ ren_nil rfl
    · exact List.forall_mem_cons.2 ⟨FV.one (FV.same (by assumption) rfl), fun _ hp => (List.not_mem_nil hp).elim⟩
    · exact fun _ hp => (List.not_mem_nil hp).elim
  · cases h
theorem dec_nought.sound (k : Nat) : Sound Try.prog DD 88 (dec_nought.D k) :=
  fun_sound (E := dec_nought.E k) (fn := Try.f88) (c := codeOf Try.f88) (dec_nought.ok k) mixed rfl Try.func88 (by kernel_rfl) (by kernel_rfl) (allL_of (l := []) (by kernel_rfl) allL_nil) (dec_nought.D k) dec_nought.mk dec_nought.re (by kernel_rfl) (by kernel_rfl) dec_nought.fit dec_nought.fitR (dec_nought.eq k)
/-! ### pyx/dec.Right: function 82 -/
noncomputable def dec_Right.f (k : Nat) (a0 : Sapi_Dec) : Option Bool := (dec_small.f k (a0.f_C.1, a0.f_C.2)).bind fun t1 => (cond (t1) (cond (decide (a0.f_Scale ≥ 0)) (cond (decide (a0.f_Scale ≤ 9)) (cond (a0.f_Neg) ((dec_nought.f k (a0.f_C.1, a0.f_C.2)).bind fun t2 => (some (!t2))) (some true)) (some false)) (some false)) (some false))
noncomputable def dec_Right.un (s : St U) : Option Sapi_Dec := match s.get 0 with | .agg [.flat (.bool x1), .flat (.int .u64 x2), .flat (.int .u64 x3), .flat (.int .i64 x4)] => some (⟨x1, (x2, x3), x4⟩ : Sapi_Dec) | _ => none
noncomputable def dec_Right.mk (x : Sapi_Dec) : St U := ⟨[(0, .agg [.flat (.bool x.f_Neg), .flat (.int .u64 x.f_C.1), .flat (.int .u64 x.f_C.2), .flat (.int .i64 x.f_Scale)])], []⟩
noncomputable def dec_Right.fin (y : Bool) : St U := ⟨[(0, .flat (.bool y))], []⟩
noncomputable def dec_Right.D (k : Nat) : FDen U := { X := Sapi_Dec, Y := Bool, nt := 26, gh := [], un := dec_Right.un, f := fun x => dec_Right.f k (x), fin := dec_Right.fin, cl := true, clo := fun _ _ => rfl }
noncomputable def dec_Right.re (s : St U) : Option Bool := match s.get 0 with | .flat (.bool x1) => some x1 | _ => none
noncomputable def dec_Right.jl : List (Nat × JDen U) := []
noncomputable def dec_Right.fl (k : Nat) : List (Nat × FDen U) := [(123, dec_small.D k), (88, dec_nought.D k)]
noncomputable def dec_Right.ll (k : Nat) : List (Nat × LDen U) := []
noncomputable def dec_Right.E (k : Nat) : Env U := { P := Try.prog, D := DD, fd := lk (dec_Right.fl k), sf := lk sl0, ld := lk (dec_Right.ll k), jd := lk dec_Right.jl, mode := lk [], elc := lk ec, mpc := lk mc, rts := Try.f82.resultTypes.toList, dyn := fun t => false, vecs := fun d => false, results := Try.f82.results.toList, gh := [], own := false, io := fun g i => false }
theorem dec_Right.ok (k : Nat) : EnvOk (dec_Right.E k) := envOk lawful (dec_Right.fl k) sl0 (dec_Right.ll k) dec_Right.jl _ _ _ _ _ _ _ _ _ _ (by
  intro p hp
  simp only [dec_Right.fl, List.mem_cons, List.not_mem_nil, or_false] at hp
  rcases hp with rfl | rfl
  · exact ⟨dec_small.sound k, enter_of Try.func123 (by kernel_rfl) (by kernel_rfl)⟩
  · exact ⟨dec_nought.sound k, enter_of Try.func88 (by kernel_rfl) (by kernel_rfl)⟩) sl0_ok (by
  intro p hp
  simp [dec_Right.jl] at hp)
theorem dec_Right.eq (k : Nat) (x : Sapi_Dec) : runF (dec_Right.E k) (codeOf Try.f82) (dec_Right.mk x) dec_Right.re = (dec_Right.D k).f x := by kernel_rfl
theorem dec_Right.fit (s : St U) (x : Sapi_Dec) (h : dec_Right.un s = some x) : Fits s (dec_Right.mk x) := by
  unfold dec_Right.un at h
  split at h
  · cases h
    refine fits_ren [] ?_ ?_ ren_nil rfl
    · exact List.forall_mem_cons.2 ⟨FV.one (FV.same (by assumption) rfl), fun _ hp => (List.not_mem_nil hp).elim⟩
    · exact fun _ hp => (List.not_mem_nil hp).elim
  · cases h
theorem dec_Right.fitR (s : St U) (y : Bool) (h : dec_Right.re s = some y) : Fits s (dec_Right.fin y) := by
  unfold dec_Right.re at h
  split at h
  · cases h
    refine fits_ren [] ?_ ?_ ren_nil rfl
    · exact List.forall_mem_cons.2 ⟨FV.one (FV.same (by assumption) rfl), fun _ hp => (List.not_mem_nil hp).elim⟩
    · exact fun _ hp => (List.not_mem_nil hp).elim
  · cases h
theorem dec_Right.sound (k : Nat) : Sound Try.prog DD 82 (dec_Right.D k) :=
  fun_sound (E := dec_Right.E k) (fn := Try.f82) (c := codeOf Try.f82) (dec_Right.ok k) mixed rfl Try.func82 (by kernel_rfl) (by kernel_rfl) (allL_of (l := []) (by kernel_rfl) allL_nil) (dec_Right.D k) dec_Right.mk dec_Right.re (by kernel_rfl) (by kernel_rfl) dec_Right.fit dec_Right.fitR (dec_Right.eq k)
/-! ### pyx/dec.wide: function 83 -/
noncomputable def dec_wide.f (k : Nat) (a0 : Sapi_Dec) (a1 : Int) : Option (Int × Int × Int × Int) := (dec_ten.f k (IntKind.wrap .i64 (a1 - a0.f_Scale))).bind fun t1 => ((limb_Mul.f k (a0.f_C.1, a0.f_C.2) (t1.1, t1.2)).bind fun t2 => (some (t2.1, t2.2.1, t2.2.2.1, t2.2.2.2)))
noncomputable def dec_wide.un (s : St U) : Option (Sapi_Dec × Int) := match s.get 0, s.get 1 with | .agg [.flat (.bool x1), .flat (.int .u64 x2), .flat (.int .u64 x3), .flat (.int .i64 x4)], .flat (.int .i64 x5) => some ((⟨x1, (x2, x3), x4⟩ : Sapi_Dec), x5) | _, _ => none
noncomputable def dec_wide.mk (x : (Sapi_Dec × Int)) : St U := ⟨[(0, .agg [.flat (.bool x.1.f_Neg), .flat (.int .u64 x.1.f_C.1), .flat (.int .u64 x.1.f_C.2), .flat (.int .i64 x.1.f_Scale)]), (1, .flat (.int .i64 x.2))], []⟩
noncomputable def dec_wide.fin (y : (Int × Int × Int × Int)) : St U := ⟨[(0, .agg [.flat (.int .u64 y.1), .flat (.int .u64 y.2.1), .flat (.int .u64 y.2.2.1), .flat (.int .u64 y.2.2.2)])], []⟩
noncomputable def dec_wide.D (k : Nat) : FDen U := { X := (Sapi_Dec × Int), Y := (Int × Int × Int × Int), nt := 13, gh := [], un := dec_wide.un, f := fun x => dec_wide.f k (x.1) (x.2), fin := dec_wide.fin, cl := true, clo := fun _ _ => rfl }
noncomputable def dec_wide.re (s : St U) : Option (Int × Int × Int × Int) := match s.get 0 with | .agg [.flat (.int .u64 x1), .flat (.int .u64 x2), .flat (.int .u64 x3), .flat (.int .u64 x4)] => some (x1, x2, x3, x4) | _ => none
noncomputable def dec_wide.jl : List (Nat × JDen U) := []
noncomputable def dec_wide.fl (k : Nat) : List (Nat × FDen U) := [(124, dec_ten.D k), (109, limb_Mul.D k)]
noncomputable def dec_wide.ll (k : Nat) : List (Nat × LDen U) := []
noncomputable def dec_wide.E (k : Nat) : Env U := { P := Try.prog, D := DD, fd := lk (dec_wide.fl k), sf := lk sl0, ld := lk (dec_wide.ll k), jd := lk dec_wide.jl, mode := lk [], elc := lk ec, mpc := lk mc, rts := Try.f83.resultTypes.toList, dyn := fun t => false, vecs := fun d => false, results := Try.f83.results.toList, gh := [], own := false, io := fun g i => false }
theorem dec_wide.ok (k : Nat) : EnvOk (dec_wide.E k) := envOk lawful (dec_wide.fl k) sl0 (dec_wide.ll k) dec_wide.jl _ _ _ _ _ _ _ _ _ _ (by
  intro p hp
  simp only [dec_wide.fl, List.mem_cons, List.not_mem_nil, or_false] at hp
  rcases hp with rfl | rfl
  · exact ⟨dec_ten.sound k, enter_of Try.func124 (by kernel_rfl) (by kernel_rfl)⟩
  · exact ⟨limb_Mul.sound k, enter_of Try.func109 (by kernel_rfl) (by kernel_rfl)⟩) sl0_ok (by
  intro p hp
  simp [dec_wide.jl] at hp)
theorem dec_wide.eq (k : Nat) (x : (Sapi_Dec × Int)) : runF (dec_wide.E k) (codeOf Try.f83) (dec_wide.mk x) dec_wide.re = (dec_wide.D k).f x := by kernel_rfl
theorem dec_wide.fit (s : St U) (x : (Sapi_Dec × Int)) (h : dec_wide.un s = some x) : Fits s (dec_wide.mk x) := by
  unfold dec_wide.un at h
  split at h
  · cases h
    refine fits_ren [] ?_ ?_ ren_nil rfl
    · exact List.forall_mem_cons.2 ⟨FV.one (FV.same (by assumption) rfl), List.forall_mem_cons.2 ⟨FV.one (FV.same (by assumption) rfl), fun _ hp => (List.not_mem_nil hp).elim⟩⟩
    · exact fun _ hp => (List.not_mem_nil hp).elim
  · cases h
theorem dec_wide.fitR (s : St U) (y : (Int × Int × Int × Int)) (h : dec_wide.re s = some y) : Fits s (dec_wide.fin y) := by
  unfold dec_wide.re at h
  split at h
  · cases h
    refine fits_ren [] ?_ ?_ ren_nil rfl
    · exact List.forall_mem_cons.2 ⟨FV.one (FV.same (by assumption) rfl), fun _ hp => (List.not_mem_nil hp).elim⟩
    · exact fun _ hp => (List.not_mem_nil hp).elim
  · cases h
theorem dec_wide.sound (k : Nat) : Sound Try.prog DD 83 (dec_wide.D k) :=
  fun_sound (E := dec_wide.E k) (fn := Try.f83) (c := codeOf Try.f83) (dec_wide.ok k) mixed rfl Try.func83 (by kernel_rfl) (by kernel_rfl) (allL_of (l := []) (by kernel_rfl) allL_nil) (dec_wide.D k) dec_wide.mk dec_wide.re (by kernel_rfl) (by kernel_rfl) dec_wide.fit dec_wide.fitR (dec_wide.eq k)
/-! ### pyx/dec.halves: function 126 -/
noncomputable def dec_halves.f (k : Nat) (a0 : (Int × Int × Int × Int)) : Option ((Int × Int) × (Int × Int)) := some ((a0.1, a0.2.1), (a0.2.2.1, a0.2.2.2))
noncomputable def dec_halves.un (s : St U) : Option (Int × Int × Int × Int) := match s.get 0 with | .agg [.flat (.int .u64 x1), .flat (.int .u64 x2), .flat (.int .u64 x3), .flat (.int .u64 x4)] => some (x1, x2, x3, x4) | _ => none
noncomputable def dec_halves.mk (x : (Int × Int × Int × Int)) : St U := ⟨[(0, .agg [.flat (.int .u64 x.1), .flat (.int .u64 x.2.1), .flat (.int .u64 x.2.2.1), .flat (.int .u64 x.2.2.2)])], []⟩
noncomputable def dec_halves.fin (y : ((Int × Int) × (Int × Int))) : St U := ⟨[(0, .tup [.agg [.flat (.int .u64 y.1.1), .flat (.int .u64 y.1.2)], .agg [.flat (.int .u64 y.2.1), .flat (.int .u64 y.2.2)]])], []⟩
noncomputable def dec_halves.D (k : Nat) : FDen U := { X := (Int × Int × Int × Int), Y := ((Int × Int) × (Int × Int)), nt := 14, gh := [], un := dec_halves.un, f := fun x => dec_halves.f k (x), fin := dec_halves.fin, cl := true, clo := fun _ _ => rfl }
noncomputable def dec_halves.re (s : St U) : Option ((Int × Int) × (Int × Int)) := match s.get 0 with | .tup [.agg [.flat (.int .u64 x1), .flat (.int .u64 x2)], .agg [.flat (.int .u64 x3), .flat (.int .u64 x4)]] => some ((x1, x2), (x3, x4)) | _ => none
noncomputable def dec_halves.jl : List (Nat × JDen U) := []
noncomputable def dec_halves.fl (k : Nat) : List (Nat × FDen U) := []
noncomputable def dec_halves.ll (k : Nat) : List (Nat × LDen U) := []
noncomputable def dec_halves.E (k : Nat) : Env U := { P := Try.prog, D := DD, fd := lk (dec_halves.fl k), sf := lk sl0, ld := lk (dec_halves.ll k), jd := lk dec_halves.jl, mode := lk [], elc := lk ec, mpc := lk mc, rts := Try.f126.resultTypes.toList, dyn := fun t => false, vecs := fun d => false, results := Try.f126.results.toList, gh := [], own := false, io := fun g i => false }
theorem dec_halves.ok (k : Nat) : EnvOk (dec_halves.E k) := envOk lawful (dec_halves.fl k) sl0 (dec_halves.ll k) dec_halves.jl _ _ _ _ _ _ _ _ _ _ (by
  intro p hp
  simp [dec_halves.fl] at hp) sl0_ok (by
  intro p hp
  simp [dec_halves.jl] at hp)
theorem dec_halves.eq (k : Nat) (x : (Int × Int × Int × Int)) : runF (dec_halves.E k) (codeOf Try.f126) (dec_halves.mk x) dec_halves.re = (dec_halves.D k).f x := by kernel_rfl
theorem dec_halves.fit (s : St U) (x : (Int × Int × Int × Int)) (h : dec_halves.un s = some x) : Fits s (dec_halves.mk x) := by
  unfold dec_halves.un at h
  split at h
  · cases h
    refine fits_ren [] ?_ ?_ ren_nil rfl
    · exact List.forall_mem_cons.2 ⟨FV.one (FV.same (by assumption) rfl), fun _ hp => (List.not_mem_nil hp).elim⟩
    · exact fun _ hp => (List.not_mem_nil hp).elim
  · cases h
theorem dec_halves.fitR (s : St U) (y : ((Int × Int) × (Int × Int))) (h : dec_halves.re s = some y) : Fits s (dec_halves.fin y) := by
  unfold dec_halves.re at h
  split at h
  · cases h
    refine fits_ren [] ?_ ?_ ren_nil rfl
    · exact List.forall_mem_cons.2 ⟨FV.tup (by assumption) (FTs.cons (FVA.one (FV.same rfl rfl)) (FTs.cons (FVA.one (FV.same rfl rfl)) (FTs.nil))), fun _ hp => (List.not_mem_nil hp).elim⟩
    · exact fun _ hp => (List.not_mem_nil hp).elim
  · cases h
theorem dec_halves.sound (k : Nat) : Sound Try.prog DD 126 (dec_halves.D k) :=
  fun_sound (E := dec_halves.E k) (fn := Try.f126) (c := codeOf Try.f126) (dec_halves.ok k) mixed rfl Try.func126 (by kernel_rfl) (by kernel_rfl) (allL_of (l := []) (by kernel_rfl) allL_nil) (dec_halves.D k) dec_halves.mk dec_halves.re (by kernel_rfl) (by kernel_rfl) dec_halves.fit dec_halves.fitR (dec_halves.eq k)
/-! ### pyx/limb.plus: function 151 -/
noncomputable def limb_plus.f (k : Nat) (a0 : Int) (a1 : Int) (a2 : Int) : Option (Int × Int) := some (IntKind.wrap .u64 ((IntKind.wrap .u64 (a0 + a1)) + a2), Int.fdiv (bits .or .u64 (bits .and .u64 a0 a1) (bits .andNot .u64 (bits .or .u64 a0 a1) (IntKind.wrap .u64 ((IntKind.wrap .u64 (a0 + a1)) + a2)))) (2 ^ 63))
noncomputable def limb_plus.un (s : St U) : Option (Int × Int × Int) := match s.get 0, s.get 1, s.get 2 with | .flat (.int .u64 x1), .flat (.int .u64 x2), .flat (.int .u64 x3) => some (x1, x2, x3) | _, _, _ => none
noncomputable def limb_plus.mk (x : (Int × Int × Int)) : St U := ⟨[(0, .flat (.int .u64 x.1)), (1, .flat (.int .u64 x.2.1)), (2, .flat (.int .u64 x.2.2))], []⟩
noncomputable def limb_plus.fin (y : (Int × Int)) : St U := ⟨[(0, .tup [.flat (.int .u64 y.1), .flat (.int .u64 y.2)])], []⟩
noncomputable def limb_plus.D (k : Nat) : FDen U := { X := (Int × Int × Int), Y := (Int × Int), nt := 25, gh := [], un := limb_plus.un, f := fun x => limb_plus.f k (x.1) (x.2.1) (x.2.2), fin := limb_plus.fin, cl := true, clo := fun _ _ => rfl }
noncomputable def limb_plus.re (s : St U) : Option (Int × Int) := match s.get 0 with | .tup [.flat (.int .u64 x1), .flat (.int .u64 x2)] => some (x1, x2) | _ => none
noncomputable def limb_plus.jl : List (Nat × JDen U) := []
noncomputable def limb_plus.fl (k : Nat) : List (Nat × FDen U) := []
noncomputable def limb_plus.ll (k : Nat) : List (Nat × LDen U) := []
noncomputable def limb_plus.E (k : Nat) : Env U := { P := Try.prog, D := DD, fd := lk (limb_plus.fl k), sf := lk sl0, ld := lk (limb_plus.ll k), jd := lk limb_plus.jl, mode := lk [], elc := lk ec, mpc := lk mc, rts := Try.f151.resultTypes.toList, dyn := fun t => false, vecs := fun d => false, results := Try.f151.results.toList, gh := [], own := false, io := fun g i => false }
theorem limb_plus.ok (k : Nat) : EnvOk (limb_plus.E k) := envOk lawful (limb_plus.fl k) sl0 (limb_plus.ll k) limb_plus.jl _ _ _ _ _ _ _ _ _ _ (by
  intro p hp
  simp [limb_plus.fl] at hp) sl0_ok (by
  intro p hp
  simp [limb_plus.jl] at hp)
theorem limb_plus.eq (k : Nat) (x : (Int × Int × Int)) : runF (limb_plus.E k) (codeOf Try.f151) (limb_plus.mk x) limb_plus.re = (limb_plus.D k).f x := by kernel_rfl
theorem limb_plus.fit (s : St U) (x : (Int × Int × Int)) (h : limb_plus.un s = some x) : Fits s (limb_plus.mk x) := by
  unfold limb_plus.un at h
  split at h
  · cases h
    refine fits_ren [] ?_ ?_ ren_nil rfl
    · exact List.forall_mem_cons.2 ⟨FV.one (FV.same (by assumption) rfl), List.forall_mem_cons.2 ⟨FV.one (FV.same (by assumption) rfl), List.forall_mem_cons.2 ⟨FV.one (FV.same (by assumption) rfl), fun _ hp => (List.not_mem_nil hp).elim⟩⟩⟩
    · exact fun _ hp => (List.not_mem_nil hp).elim
  · cases h
theorem limb_plus.fitR (s : St U) (y : (Int × Int)) (h : limb_plus.re s = some y) : Fits s (limb_plus.fin y) := by
  unfold limb_plus.re at h
  split at h
  · cases h
    refine fits_ren [] ?_ ?_ ren_nil rfl
    · exact List.forall_mem_cons.2 ⟨FV.tup (by assumption) (FTs.cons (FVA.one (FV.same rfl rfl)) (FTs.cons (FVA.one (FV.same rfl rfl)) (FTs.nil))), fun _ hp => (List.not_mem_nil hp).elim⟩
    · exact fun _ hp => (List.not_mem_nil hp).elim
  · cases h
theorem limb_plus.sound (k : Nat) : Sound Try.prog DD 151 (limb_plus.D k) :=
  fun_sound (E := limb_plus.E k) (fn := Try.f151) (c := codeOf Try.f151) (limb_plus.ok k) mixed rfl Try.func151 (by kernel_rfl) (by kernel_rfl) (allL_of (l := []) (by kernel_rfl) allL_nil) (limb_plus.D k) limb_plus.mk limb_plus.re (by kernel_rfl) (by kernel_rfl) limb_plus.fit limb_plus.fitR (limb_plus.eq k)
/-! ### pyx/limb.Add: function 127 -/
noncomputable def limb_Add.f (k : Nat) (a0 : (Int × Int)) (a1 : (Int × Int)) : Option ((Int × Int) × Bool) := (limb_plus.f k a0.1 a1.1 0).bind fun t1 => ((limb_plus.f k a0.2 a1.2 t1.2).bind fun t2 => (cond (decide (t2.2 > 0)) (some ((0, 0), false)) (some ((t1.1, t2.1), true))))
noncomputable def limb_Add.un (s : St U) : Option ((Int × Int) × (Int × Int)) := match s.get 0, s.get 1 with | .agg [.flat (.int .u64 x1), .flat (.int .u64 x2)], .agg [.flat (.int .u64 x3), .flat (.int .u64 x4)] => some ((x1, x2), (x3, x4)) | _, _ => none
noncomputable def limb_Add.mk (x : ((Int × Int) × (Int × Int))) : St U := ⟨[(0, .agg [.flat (.int .u64 x.1.1), .flat (.int .u64 x.1.2)]), (1, .agg [.flat (.int .u64 x.2.1), .flat (.int .u64 x.2.2)])], []⟩
noncomputable def limb_Add.fin (y : ((Int × Int) × Bool)) : St U := ⟨[(0, .tup [.agg [.flat (.int .u64 y.1.1), .flat (.int .u64 y.1.2)], .flat (.bool y.2)])], []⟩
noncomputable def limb_Add.D (k : Nat) : FDen U := { X := ((Int × Int) × (Int × Int)), Y := ((Int × Int) × Bool), nt := 33, gh := [], un := limb_Add.un, f := fun x => limb_Add.f k (x.1) (x.2), fin := limb_Add.fin, cl := true, clo := fun _ _ => rfl }
noncomputable def limb_Add.re (s : St U) : Option ((Int × Int) × Bool) := match s.get 0 with | .tup [.agg [.flat (.int .u64 x1), .flat (.int .u64 x2)], .flat (.bool x3)] => some ((x1, x2), x3) | _ => none
noncomputable def limb_Add.jl : List (Nat × JDen U) := []
noncomputable def limb_Add.fl (k : Nat) : List (Nat × FDen U) := [(151, limb_plus.D k)]
noncomputable def limb_Add.ll (k : Nat) : List (Nat × LDen U) := []
noncomputable def limb_Add.E (k : Nat) : Env U := { P := Try.prog, D := DD, fd := lk (limb_Add.fl k), sf := lk sl0, ld := lk (limb_Add.ll k), jd := lk limb_Add.jl, mode := lk [], elc := lk ec, mpc := lk mc, rts := Try.f127.resultTypes.toList, dyn := fun t => false, vecs := fun d => false, results := Try.f127.results.toList, gh := [], own := false, io := fun g i => false }
theorem limb_Add.ok (k : Nat) : EnvOk (limb_Add.E k) := envOk lawful (limb_Add.fl k) sl0 (limb_Add.ll k) limb_Add.jl _ _ _ _ _ _ _ _ _ _ (by
  intro p hp
  simp only [limb_Add.fl, List.mem_cons, List.not_mem_nil, or_false] at hp
  rcases hp with rfl
  · exact ⟨limb_plus.sound k, enter_of Try.func151 (by kernel_rfl) (by kernel_rfl)⟩) sl0_ok (by
  intro p hp
  simp [limb_Add.jl] at hp)
theorem limb_Add.eq (k : Nat) (x : ((Int × Int) × (Int × Int))) : runF (limb_Add.E k) (codeOf Try.f127) (limb_Add.mk x) limb_Add.re = (limb_Add.D k).f x := by kernel_rfl
theorem limb_Add.fit (s : St U) (x : ((Int × Int) × (Int × Int))) (h : limb_Add.un s = some x) : Fits s (limb_Add.mk x) := by
  unfold limb_Add.un at h
  split at h
  · cases h
    refine fits_ren [] ?_ ?_ ren_nil rfl
    · exact List.forall_mem_cons.2 ⟨FV.one (FV.same (by assumption) rfl), List.forall_mem_cons.2 ⟨FV.one (FV.same (by assumption) rfl), fun _ hp => (List.not_mem_nil hp).elim⟩⟩
    · exact fun _ hp => (List.not_mem_nil hp).elim
  · cases h
theorem limb_Add.fitR (s : St U) (y : ((Int × Int) × Bool)) (h : limb_Add.re s = some y) : Fits s (limb_Add.fin y) := by
  unfold limb_Add.re at h
  split at h
  · cases h
    refine fits_ren [] ?_ ?_ ren_nil rfl
    · exact List.forall_mem_cons.2 ⟨FV.tup (by assumption) (FTs.cons (FVA.one (FV.same rfl rfl)) (FTs.cons (FVA.one (FV.same rfl rfl)) (FTs.nil))), fun _ hp => (List.not_mem_nil hp).elim⟩
    · exact fun _ hp => (List.not_mem_nil hp).elim
  · cases h
theorem limb_Add.sound (k : Nat) : Sound Try.prog DD 127 (limb_Add.D k) :=
  fun_sound (E := limb_Add.E k) (fn := Try.f127) (c := codeOf Try.f127) (limb_Add.ok k) mixed rfl Try.func127 (by kernel_rfl) (by kernel_rfl) (allL_of (l := []) (by kernel_rfl) allL_nil) (limb_Add.D k) limb_Add.mk limb_Add.re (by kernel_rfl) (by kernel_rfl) limb_Add.fit limb_Add.fitR (limb_Add.eq k)
end
end Go.Proofs.Ytlaogfkgkpgofaa
