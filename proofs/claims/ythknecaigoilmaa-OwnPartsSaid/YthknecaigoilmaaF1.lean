import Derived.Test.YthknecaigoilmaaF0
/-! Functions, told; their equations with the evaluator; that they are sound. Written by gen.py. -/
namespace Go.Proofs.Ythknecaigoilmaa
open Go Go.Ev
noncomputable section
set_option linter.unusedVariables false
set_option linter.unusedSimpArgs false
set_option maxRecDepth 100000
/-! ### pyx/limb.Div: function 27 -/
noncomputable def limb_Div.l4.once (k : Nat) (x : (Int × List Int × Int × Int × List Int × Int × Int)) : Option ((Int × List Int × Int × Int × List Int × Int × Int) ⊕ ((List Int × Int × Int))) := match x with | (x7, x1, x2, x3, x4, x5, x6) => cond (decide (x7 ≥ 0)) (((cond (inb (IntKind.wrap .i64 (Int.tdiv x7 64)) 4) (cond (Nat.blt (Int.toNat (IntKind.wrap .i64 (Int.tdiv x7 64))) 4) (cond (decide (Int.tmod x7 64 < 0)) none (((cond (decide ((Int.fdiv x6 (2 ^ 63)) > 0)) (some (x7, true, x1, x2, x3, x4, bits .or .u64 (IntKind.wrap .u64 (x5 * 2 ^ 1)) (bits .and .u64 (Int.fdiv (List.getD x1 (Int.toNat (IntKind.wrap .i64 (Int.tdiv x7 64))) 0) (2 ^ (min (Int.toNat (Int.tmod x7 64)) 64))) 1), bits .or .u64 (IntKind.wrap .u64 (x6 * 2 ^ 1)) (Int.fdiv x5 (2 ^ 63)))) ((limb_Cmp.f k (bits .or .u64 (IntKind.wrap .u64 (x5 * 2 ^ 1)) (bits .and .u64 (Int.fdiv (List.getD x1 (Int.toNat (IntKind.wrap .i64 (Int.tdiv x7 64))) 0) (2 ^ (min (Int.toNat (Int.tmod x7 64)) 64))) 1), bits .or .u64 (IntKind.wrap .u64 (x6 * 2 ^ 1)) (Int.fdiv x5 (2 ^ 63))) (x2, x3)).bind fun t16 => (some (x7, decide (t16 ≥ 0), x1, x2, x3, x4, bits .or .u64 (IntKind.wrap .u64 (x5 * 2 ^ 1)) (bits .and .u64 (Int.fdiv (List.getD x1 (Int.toNat (IntKind.wrap .i64 (Int.tdiv x7 64))) 0) (2 ^ (min (Int.toNat (Int.tmod x7 64)) 64))) 1), bits .or .u64 (IntKind.wrap .u64 (x6 * 2 ^ 1)) (Int.fdiv x5 (2 ^ 63)))))) : Option (Int × Bool × List Int × Int × Int × List Int × Int × Int)).bind fun y17 => (cond (y17.2.1) ((limb_less.f k y17.2.2.2.2.2.2.1 y17.2.2.2.1 0).bind fun t18 => ((limb_less.f k y17.2.2.2.2.2.2.2 y17.2.2.2.2.1 t18.2).bind fun t19 => (cond (inb (IntKind.wrap .i64 (Int.tdiv y17.1 64)) 4) (cond (Nat.blt (Int.toNat (IntKind.wrap .i64 (Int.tdiv y17.1 64))) 4) (cond (decide (Int.tmod y17.1 64 < 0)) none (cond (inb (IntKind.wrap .i64 (Int.tdiv y17.1 64)) 4) (cond (Nat.blt (Int.toNat (IntKind.wrap .i64 (Int.tdiv y17.1 64))) 4) (some (y17.1, y17.2.2.1, y17.2.2.2.1, y17.2.2.2.2.1, List.set y17.2.2.2.2.2.1 (Int.toNat (IntKind.wrap .i64 (Int.tdiv y17.1 64))) (bits .or .u64 (List.getD y17.2.2.2.2.2.1 (Int.toNat (IntKind.wrap .i64 (Int.tdiv y17.1 64))) 0) (IntKind.wrap .u64 (1 * 2 ^ (min (Int.toNat (Int.tmod y17.1 64)) 64)))), t18.1, t19.1)) none) none)) none) none))) (some (y17.1, y17.2.2.1, y17.2.2.2.1, y17.2.2.2.2.1, y17.2.2.2.2.2.1, y17.2.2.2.2.2.2.1, y17.2.2.2.2.2.2.2))))) none) none) : Option (Int × List Int × Int × Int × List Int × Int × Int)).bind fun y27 => (some (.inl (IntKind.wrap .i64 (y27.1 - 1), y27.2.1, y27.2.2.1, y27.2.2.2.1, y27.2.2.2.2.1, y27.2.2.2.2.2.1, y27.2.2.2.2.2.2)))) (some (.inr (x4, x5, x6)))
noncomputable def limb_Div.f (k : Nat) (a0 : (Int × Int × Int × Int)) (a1 : (Int × Int)) : Option ((Int × Int × Int × Int) × (Int × Int) × Bool) := cond ((a1.1 == 0) && (a1.2 == 0)) (some ((List.getD [List.getD [0, 0, 0, 0] 0 0, List.getD [0, 0, 0, 0] 1 0, List.getD [0, 0, 0, 0] 2 0, List.getD [0, 0, 0, 0] 3 0] 0 0, List.getD [List.getD [0, 0, 0, 0] 0 0, List.getD [0, 0, 0, 0] 1 0, List.getD [0, 0, 0, 0] 2 0, List.getD [0, 0, 0, 0] 3 0] 1 0, List.getD [List.getD [0, 0, 0, 0] 0 0, List.getD [0, 0, 0, 0] 1 0, List.getD [0, 0, 0, 0] 2 0, List.getD [0, 0, 0, 0] 3 0] 2 0, List.getD [List.getD [0, 0, 0, 0] 0 0, List.getD [0, 0, 0, 0] 1 0, List.getD [0, 0, 0, 0] 2 0, List.getD [0, 0, 0, 0] 3 0] 3 0), (0, 0), false)) ((iter (limb_Div.l4.once k) k (255, [a0.1, a0.2.1, a0.2.2.1, a0.2.2.2], a1.1, a1.2, [0, 0, 0, 0], 0, 0)).bind fun y31 => (some ((List.getD [List.getD y31.1 0 0, List.getD y31.1 1 0, List.getD y31.1 2 0, List.getD y31.1 3 0] 0 0, List.getD [List.getD y31.1 0 0, List.getD y31.1 1 0, List.getD y31.1 2 0, List.getD y31.1 3 0] 1 0, List.getD [List.getD y31.1 0 0, List.getD y31.1 1 0, List.getD y31.1 2 0, List.getD y31.1 3 0] 2 0, List.getD [List.getD y31.1 0 0, List.getD y31.1 1 0, List.getD y31.1 2 0, List.getD y31.1 3 0] 3 0), (y31.2.1, y31.2.2), true)))
noncomputable def limb_Div.un : List (AV U) → Option ((Int × Int × Int × Int) × (Int × Int)) | [.agg [.flat (.int .u64 x1), .flat (.int .u64 x2), .flat (.int .u64 x3), .flat (.int .u64 x4)], .agg [.flat (.int .u64 x5), .flat (.int .u64 x6)]] => some ((x1, x2, x3, x4), (x5, x6)) | _ => none
noncomputable def limb_Div.mk (x : ((Int × Int × Int × Int) × (Int × Int))) : List (AV U) := [.agg [.flat (.int .u64 x.1.1), .flat (.int .u64 x.1.2.1), .flat (.int .u64 x.1.2.2.1), .flat (.int .u64 x.1.2.2.2)], .agg [.flat (.int .u64 x.2.1), .flat (.int .u64 x.2.2)]]
noncomputable def limb_Div.D (k : Nat) : FDen U := { X := ((Int × Int × Int × Int) × (Int × Int)), Y := ((Int × Int × Int × Int) × (Int × Int) × Bool), un := limb_Div.un, f := fun x => limb_Div.f k (x.1) (x.2), fin := fun y => .tup [.agg [.flat (.int .u64 y.1.1), .flat (.int .u64 y.1.2.1), .flat (.int .u64 y.1.2.2.1), .flat (.int .u64 y.1.2.2.2)], .agg [.flat (.int .u64 y.2.1.1), .flat (.int .u64 y.2.1.2)], .flat (.bool y.2.2)] }
noncomputable def limb_Div.re : AV U → Option ((Int × Int × Int × Int) × (Int × Int) × Bool) | .tup [.agg [.flat (.int .u64 x1), .flat (.int .u64 x2), .flat (.int .u64 x3), .flat (.int .u64 x4)], .agg [.flat (.int .u64 x5), .flat (.int .u64 x6)], .flat (.bool x7)] => some ((x1, x2, x3, x4), (x5, x6), x7) | _ => none
noncomputable def limb_Div.l4.mk (x : (Int × List Int × Int × Int × List Int × Int × Int)) : St U := match x with | (x7, x1, x2, x3, x4, x5, x6) => ⟨[(2, .ptr 2 0), (3, .ptr 3 0), (4, .ptr 4 0), (5, .ptr 5 0), (7, .flat (.int .i64 x7))], [(2, .arr 4 C.u64 x1), (3, .lit [.flat (.int .u64 x2), .flat (.int .u64 x3)]), (4, .arr 4 C.u64 x4), (5, .lit [.flat (.int .u64 x5), .flat (.int .u64 x6)])]⟩
noncomputable def limb_Div.l4.un (s : St U) : Option (Int × List Int × Int × Int × List Int × Int × Int) := match s.get 2, s.get 3, s.get 4, s.get 5, s.get 7, lk s.o 2, lk s.o 3, lk s.o 4, lk s.o 5 with | .ptr 2 0, .ptr 3 0, .ptr 4 0, .ptr 5 0, .flat (.int .i64 x7), some (.arr 4 C.u64 x1), some (.lit [.flat (.int .u64 x2), .flat (.int .u64 x3)]), some (.arr 4 C.u64 x4), some (.lit [.flat (.int .u64 x5), .flat (.int .u64 x6)]) => some (x7, x1, x2, x3, x4, x5, x6) | _, _, _, _, _, _, _, _, _ => none
noncomputable def limb_Div.l4.fin (y : (List Int × Int × Int)) : Out U := match y with | (x28, x29, x30) => .exit 0 ⟨[(4, .ptr 4 0), (5, .ptr 5 0)], [(4, .arr 4 C.u64 x28), (5, .lit [.flat (.int .u64 x29), .flat (.int .u64 x30)])]⟩
noncomputable def limb_Div.l4.finK {ρ : Type} (y : (List Int × Int × Int)) (K : Out U → Option ρ) : Option ρ := match y with | (x28, x29, x30) => K (.exit 0 ⟨[(4, .ptr 4 0), (5, .ptr 5 0)], [(4, .arr 4 C.u64 x28), (5, .lit [.flat (.int .u64 x29), .flat (.int .u64 x30)])]⟩)
theorem limb_Div.l4.finK_eq {ρ : Type} (y : (List Int × Int × Int)) (K : Out U → Option ρ) : limb_Div.l4.finK y K = K (limb_Div.l4.fin y) := by
  unfold limb_Div.l4.finK limb_Div.l4.fin
  first | rfl | (split <;> rfl)
noncomputable def limb_Div.l4.re : Out U → Option ((List Int × Int × Int)) | .exit 0 s => (match s.get 4, s.get 5, lk s.o 4, lk s.o 5 with | .ptr 4 0, .ptr 5 0, some (.arr 4 C.u64 x28), some (.lit [.flat (.int .u64 x29), .flat (.int .u64 x30)]) => some (x28, x29, x30) | _, _, _, _ => none) | _ => none
noncomputable def limb_Div.l4.L (k : Nat) : LDen U := { X := (Int × List Int × Int × Int × List Int × Int × Int), Y := (List Int × Int × Int), un := limb_Div.l4.un, f := iter (limb_Div.l4.once k) k, fin := limb_Div.l4.fin, finK := limb_Div.l4.finK, finK_eq := limb_Div.l4.finK_eq }
noncomputable def limb_Div.j9000.fin (y : (Int × Bool × List Int × Int × Int × List Int × Int × Int)) : Out U := match y with | (x14, x15, x8, x9, x10, x11, x12, x13) => .norm ⟨[(2, .ptr 2 0), (3, .ptr 3 0), (4, .ptr 4 0), (5, .ptr 5 0), (7, .flat (.int .i64 x14)), (53, .flat (.bool x15))], [(2, .arr 4 C.u64 x8), (3, .lit [.flat (.int .u64 x9), .flat (.int .u64 x10)]), (4, .arr 4 C.u64 x11), (5, .lit [.flat (.int .u64 x12), .flat (.int .u64 x13)])]⟩
noncomputable def limb_Div.j9000.finK {ρ : Type} (y : (Int × Bool × List Int × Int × Int × List Int × Int × Int)) (K : Out U → Option ρ) : Option ρ := match y with | (x14, x15, x8, x9, x10, x11, x12, x13) => K (.norm ⟨[(2, .ptr 2 0), (3, .ptr 3 0), (4, .ptr 4 0), (5, .ptr 5 0), (7, .flat (.int .i64 x14)), (53, .flat (.bool x15))], [(2, .arr 4 C.u64 x8), (3, .lit [.flat (.int .u64 x9), .flat (.int .u64 x10)]), (4, .arr 4 C.u64 x11), (5, .lit [.flat (.int .u64 x12), .flat (.int .u64 x13)])]⟩)
theorem limb_Div.j9000.finK_eq {ρ : Type} (y : (Int × Bool × List Int × Int × Int × List Int × Int × Int)) (K : Out U → Option ρ) : limb_Div.j9000.finK y K = K (limb_Div.j9000.fin y) := by
  unfold limb_Div.j9000.finK limb_Div.j9000.fin
  first | rfl | (split <;> rfl)
noncomputable def limb_Div.j9000.re : Out U → Option ((Int × Bool × List Int × Int × Int × List Int × Int × Int)) | .norm s => (match s.get 2, s.get 3, s.get 4, s.get 5, s.get 7, s.get 53, lk s.o 2, lk s.o 3, lk s.o 4, lk s.o 5 with | .ptr 2 0, .ptr 3 0, .ptr 4 0, .ptr 5 0, .flat (.int .i64 x14), .flat (.bool x15), some (.arr 4 C.u64 x8), some (.lit [.flat (.int .u64 x9), .flat (.int .u64 x10)]), some (.arr 4 C.u64 x11), some (.lit [.flat (.int .u64 x12), .flat (.int .u64 x13)]) => some (x14, x15, x8, x9, x10, x11, x12, x13) | _, _, _, _, _, _, _, _, _, _ => none) | _ => none
noncomputable def limb_Div.j9000.J : JDen U := { Y := (Int × Bool × List Int × Int × Int × List Int × Int × Int), re := limb_Div.j9000.re, fin := limb_Div.j9000.fin, finK := limb_Div.j9000.finK, finK_eq := limb_Div.j9000.finK_eq }
theorem limb_Div.j9000.fit (o : Out U) (y : (Int × Bool × List Int × Int × Int × List Int × Int × Int)) (h : limb_Div.j9000.re o = some y) : FitsO o (limb_Div.j9000.fin y) := by
  unfold limb_Div.j9000.re at h
  split at h
  · split at h
    · cases h
      refine fitsO_norm (fits_ren [] ?_ ?_ ren_nil rfl)
      · exact List.forall_mem_cons.2 ⟨FV.same (by assumption) (fun _ _ _ hh => by cases hh) (fun _ hh => by cases hh), List.forall_mem_cons.2 ⟨FV.same (by assumption) (fun _ _ _ hh => by cases hh) (fun _ hh => by cases hh), List.forall_mem_cons.2 ⟨FV.same (by assumption) (fun _ _ _ hh => by cases hh) (fun _ hh => by cases hh), List.forall_mem_cons.2 ⟨FV.same (by assumption) (fun _ _ _ hh => by cases hh) (fun _ hh => by cases hh), List.forall_mem_cons.2 ⟨FV.same (by assumption) (fun _ _ _ hh => by cases hh) (fun _ hh => by cases hh), List.forall_mem_cons.2 ⟨FV.same (by assumption) (fun _ _ _ hh => by cases hh) (fun _ hh => by cases hh), fun _ hp => (List.not_mem_nil hp).elim⟩⟩⟩⟩⟩⟩
      · exact List.forall_mem_cons.2 ⟨(show lk (St.o _) 2 = some _ from by assumption), List.forall_mem_cons.2 ⟨(show lk (St.o _) 3 = some _ from by assumption), List.forall_mem_cons.2 ⟨(show lk (St.o _) 4 = some _ from by assumption), List.forall_mem_cons.2 ⟨(show lk (St.o _) 5 = some _ from by assumption), fun _ hp => (List.not_mem_nil hp).elim⟩⟩⟩⟩
    · cases h
  · cases h
noncomputable def limb_Div.j6001.fin (y : (Int × List Int × Int × Int × List Int × Int × Int)) : Out U := match y with | (x26, x20, x21, x22, x23, x24, x25) => .norm ⟨[(2, .ptr 2 0), (3, .ptr 3 0), (4, .ptr 4 0), (5, .ptr 5 0), (7, .flat (.int .i64 x26))], [(2, .arr 4 C.u64 x20), (3, .lit [.flat (.int .u64 x21), .flat (.int .u64 x22)]), (4, .arr 4 C.u64 x23), (5, .lit [.flat (.int .u64 x24), .flat (.int .u64 x25)])]⟩
noncomputable def limb_Div.j6001.finK {ρ : Type} (y : (Int × List Int × Int × Int × List Int × Int × Int)) (K : Out U → Option ρ) : Option ρ := match y with | (x26, x20, x21, x22, x23, x24, x25) => K (.norm ⟨[(2, .ptr 2 0), (3, .ptr 3 0), (4, .ptr 4 0), (5, .ptr 5 0), (7, .flat (.int .i64 x26))], [(2, .arr 4 C.u64 x20), (3, .lit [.flat (.int .u64 x21), .flat (.int .u64 x22)]), (4, .arr 4 C.u64 x23), (5, .lit [.flat (.int .u64 x24), .flat (.int .u64 x25)])]⟩)
theorem limb_Div.j6001.finK_eq {ρ : Type} (y : (Int × List Int × Int × Int × List Int × Int × Int)) (K : Out U → Option ρ) : limb_Div.j6001.finK y K = K (limb_Div.j6001.fin y) := by
  unfold limb_Div.j6001.finK limb_Div.j6001.fin
  first | rfl | (split <;> rfl)
noncomputable def limb_Div.j6001.re : Out U → Option ((Int × List Int × Int × Int × List Int × Int × Int)) | .norm s => (match s.get 2, s.get 3, s.get 4, s.get 5, s.get 7, lk s.o 2, lk s.o 3, lk s.o 4, lk s.o 5 with | .ptr 2 0, .ptr 3 0, .ptr 4 0, .ptr 5 0, .flat (.int .i64 x26), some (.arr 4 C.u64 x20), some (.lit [.flat (.int .u64 x21), .flat (.int .u64 x22)]), some (.arr 4 C.u64 x23), some (.lit [.flat (.int .u64 x24), .flat (.int .u64 x25)]) => some (x26, x20, x21, x22, x23, x24, x25) | _, _, _, _, _, _, _, _, _ => none) | _ => none
noncomputable def limb_Div.j6001.J : JDen U := { Y := (Int × List Int × Int × Int × List Int × Int × Int), re := limb_Div.j6001.re, fin := limb_Div.j6001.fin, finK := limb_Div.j6001.finK, finK_eq := limb_Div.j6001.finK_eq }
theorem limb_Div.j6001.fit (o : Out U) (y : (Int × List Int × Int × Int × List Int × Int × Int)) (h : limb_Div.j6001.re o = some y) : FitsO o (limb_Div.j6001.fin y) := by
  unfold limb_Div.j6001.re at h
  split at h
  · split at h
    · cases h
      refine fitsO_norm (fits_ren [] ?_ ?_ ren_nil rfl)
      · exact List.forall_mem_cons.2 ⟨FV.same (by assumption) (fun _ _ _ hh => by cases hh) (fun _ hh => by cases hh), List.forall_mem_cons.2 ⟨FV.same (by assumption) (fun _ _ _ hh => by cases hh) (fun _ hh => by cases hh), List.forall_mem_cons.2 ⟨FV.same (by assumption) (fun _ _ _ hh => by cases hh) (fun _ hh => by cases hh), List.forall_mem_cons.2 ⟨FV.same (by assumption) (fun _ _ _ hh => by cases hh) (fun _ hh => by cases hh), List.forall_mem_cons.2 ⟨FV.same (by assumption) (fun _ _ _ hh => by cases hh) (fun _ hh => by cases hh), fun _ hp => (List.not_mem_nil hp).elim⟩⟩⟩⟩⟩
      · exact List.forall_mem_cons.2 ⟨(show lk (St.o _) 2 = some _ from by assumption), List.forall_mem_cons.2 ⟨(show lk (St.o _) 3 = some _ from by assumption), List.forall_mem_cons.2 ⟨(show lk (St.o _) 4 = some _ from by assumption), List.forall_mem_cons.2 ⟨(show lk (St.o _) 5 = some _ from by assumption), fun _ hp => (List.not_mem_nil hp).elim⟩⟩⟩⟩
    · cases h
  · cases h
noncomputable def limb_Div.jl : List (Nat × JDen U) := [(9000, limb_Div.j9000.J), (6001, limb_Div.j6001.J)]
noncomputable def limb_Div.fl (k : Nat) : List (Nat × FDen U) := [(19, limb_Cmp.D k), (65, limb_less.D k)]
noncomputable def limb_Div.ll (k : Nat) : List (Nat × LDen U) := [(4, limb_Div.l4.L k)]
noncomputable def limb_Div.E (k : Nat) : Env U := { P := Try.prog, D := DD, fd := lk (limb_Div.fl k), ld := lk (limb_Div.ll k), jd := lk limb_Div.jl, mode := lk [(30, (4, C.u64))], elc := lk ec, dyn := fun t => false, vecs := fun d => false, results := Try.f27.results.toList }
theorem limb_Div.ok (k : Nat) : EnvOk (limb_Div.E k) := envOk lawful (limb_Div.fl k) (limb_Div.ll k) limb_Div.jl _ _ _ _ _ (by
  intro p hp
  simp only [limb_Div.fl, List.mem_cons, List.not_mem_nil, or_false] at hp
  rcases hp with rfl | rfl
  · exact ⟨limb_Cmp.sound k, enter_of Try.func19 (by kernel_rfl) (by kernel_rfl)⟩
  · exact ⟨limb_less.sound k, enter_of Try.func65 (by kernel_rfl) (by kernel_rfl)⟩) (by
  intro p hp
  simp only [limb_Div.jl, List.mem_cons, List.not_mem_nil, or_false] at hp
  rcases hp with rfl | rfl
  · exact limb_Div.j9000.fit
  · exact limb_Div.j6001.fit)
theorem limb_Div.l4.eq (k : Nat) (x : (Int × List Int × Int × Int × List Int × Int × Int)) : evC (limb_Div.E k) (loopAt Try.f27 4) (limb_Div.l4.mk x) (headK limb_Div.l4.un limb_Div.l4.re) = limb_Div.l4.once k x := by kernel_rfl
theorem limb_Div.l4.fit (s : St U) (x : (Int × List Int × Int × Int × List Int × Int × Int)) (h : limb_Div.l4.un s = some x) : Fits s (limb_Div.l4.mk x) := by
  unfold limb_Div.l4.un at h
  split at h
  · cases h
    refine fits_ren [] ?_ ?_ ren_nil rfl
    · exact List.forall_mem_cons.2 ⟨FV.same (by assumption) (fun _ _ _ hh => by cases hh) (fun _ hh => by cases hh), List.forall_mem_cons.2 ⟨FV.same (by assumption) (fun _ _ _ hh => by cases hh) (fun _ hh => by cases hh), List.forall_mem_cons.2 ⟨FV.same (by assumption) (fun _ _ _ hh => by cases hh) (fun _ hh => by cases hh), List.forall_mem_cons.2 ⟨FV.same (by assumption) (fun _ _ _ hh => by cases hh) (fun _ hh => by cases hh), List.forall_mem_cons.2 ⟨FV.same (by assumption) (fun _ _ _ hh => by cases hh) (fun _ hh => by cases hh), fun _ hp => (List.not_mem_nil hp).elim⟩⟩⟩⟩⟩
    · exact List.forall_mem_cons.2 ⟨(show lk (St.o _) 2 = some _ from by assumption), List.forall_mem_cons.2 ⟨(show lk (St.o _) 3 = some _ from by assumption), List.forall_mem_cons.2 ⟨(show lk (St.o _) 4 = some _ from by assumption), List.forall_mem_cons.2 ⟨(show lk (St.o _) 5 = some _ from by assumption), fun _ hp => (List.not_mem_nil hp).elim⟩⟩⟩⟩
  · cases h
theorem limb_Div.l4.fitO (o : Out U) (y : (List Int × Int × Int)) (h : limb_Div.l4.re o = some y) : FitsO o (limb_Div.l4.fin y) := by
  unfold limb_Div.l4.re at h
  split at h
  · split at h
    · cases h
      refine fitsO_exit (fits_ren [] ?_ ?_ ren_nil rfl)
      · exact List.forall_mem_cons.2 ⟨FV.same (by assumption) (fun _ _ _ hh => by cases hh) (fun _ hh => by cases hh), List.forall_mem_cons.2 ⟨FV.same (by assumption) (fun _ _ _ hh => by cases hh) (fun _ hh => by cases hh), fun _ hp => (List.not_mem_nil hp).elim⟩⟩
      · exact List.forall_mem_cons.2 ⟨(show lk (St.o _) 4 = some _ from by assumption), List.forall_mem_cons.2 ⟨(show lk (St.o _) 5 = some _ from by assumption), fun _ hp => (List.not_mem_nil hp).elim⟩⟩
    · cases h
  · cases h
theorem limb_Div.l4.sound (k : Nat) : LSound (limb_Div.E k) Try.f27.ntmps Try.f27 (loopAt Try.f27 4) (limb_Div.l4.L k) :=
  loop_sound (limb_Div.ok k) mixed rfl (by kernel_rfl) (allL_of (l := []) (by kernel_rfl) allL_nil) limb_Div.l4.un limb_Div.l4.mk limb_Div.l4.fin limb_Div.l4.re (limb_Div.l4.once k) k limb_Div.l4.fit limb_Div.l4.fitO (limb_Div.l4.eq k) limb_Div.l4.finK limb_Div.l4.finK_eq
theorem limb_Div.eq (k : Nat) (x : ((Int × Int × Int × Int) × (Int × Int))) : runF (limb_Div.E k) (codeOf Try.f27) (limb_Div.mk x) limb_Div.re = (limb_Div.D k).f x := by kernel_rfl
theorem limb_Div.sound (k : Nat) : Sound Try.prog DD 27 (limb_Div.D k) :=
  fun_sound (E := limb_Div.E k) (fn := Try.f27) (c := codeOf Try.f27) (limb_Div.ok k) mixed rfl Try.func27 (by kernel_rfl) (by kernel_rfl) (allL_of (l := [loopAt Try.f27 4]) (by kernel_rfl) (allL_cons (key := 4) (by kernel_rfl) rfl (limb_Div.l4.sound k) allL_nil)) (limb_Div.D k) limb_Div.mk limb_Div.re
    (by intro args x h; replace h : limb_Div.un args = some x := h; unfold limb_Div.un at h; split at h; · cases h; rfl
        · cases h)
    (by intro v y h; unfold limb_Div.re at h; split at h; · cases h; rfl
        · cases h)
    (fun _ => rfl) (fun x => Nat.le_of_ble_eq_true (by kernel_rfl)) (limb_Div.eq k)
/-! ### pyx/limb.plus: function 64 -/
noncomputable def limb_plus.f (k : Nat) (a0 : Int) (a1 : Int) (a2 : Int) : Option (Int × Int) := some (IntKind.wrap .u64 ((IntKind.wrap .u64 (a0 + a1)) + a2), Int.fdiv (bits .or .u64 (bits .and .u64 a0 a1) (bits .andNot .u64 (bits .or .u64 a0 a1) (IntKind.wrap .u64 ((IntKind.wrap .u64 (a0 + a1)) + a2)))) (2 ^ 63))
noncomputable def limb_plus.un : List (AV U) → Option (Int × Int × Int) | [.flat (.int .u64 x1), .flat (.int .u64 x2), .flat (.int .u64 x3)] => some (x1, x2, x3) | _ => none
noncomputable def limb_plus.mk (x : (Int × Int × Int)) : List (AV U) := [.flat (.int .u64 x.1), .flat (.int .u64 x.2.1), .flat (.int .u64 x.2.2)]
noncomputable def limb_plus.D (k : Nat) : FDen U := { X := (Int × Int × Int), Y := (Int × Int), un := limb_plus.un, f := fun x => limb_plus.f k (x.1) (x.2.1) (x.2.2), fin := fun y => .tup [.flat (.int .u64 y.1), .flat (.int .u64 y.2)] }
noncomputable def limb_plus.re : AV U → Option (Int × Int) | .tup [.flat (.int .u64 x1), .flat (.int .u64 x2)] => some (x1, x2) | _ => none
noncomputable def limb_plus.jl : List (Nat × JDen U) := []
noncomputable def limb_plus.fl (k : Nat) : List (Nat × FDen U) := []
noncomputable def limb_plus.ll (k : Nat) : List (Nat × LDen U) := []
noncomputable def limb_plus.E (k : Nat) : Env U := { P := Try.prog, D := DD, fd := lk (limb_plus.fl k), ld := lk (limb_plus.ll k), jd := lk limb_plus.jl, mode := lk [], elc := lk ec, dyn := fun t => false, vecs := fun d => false, results := Try.f64.results.toList }
theorem limb_plus.ok (k : Nat) : EnvOk (limb_plus.E k) := envOk lawful (limb_plus.fl k) (limb_plus.ll k) limb_plus.jl _ _ _ _ _ (by
  intro p hp
  simp [limb_plus.fl] at hp) (by
  intro p hp
  simp [limb_plus.jl] at hp)
theorem limb_plus.eq (k : Nat) (x : (Int × Int × Int)) : runF (limb_plus.E k) (codeOf Try.f64) (limb_plus.mk x) limb_plus.re = (limb_plus.D k).f x := by kernel_rfl
theorem limb_plus.sound (k : Nat) : Sound Try.prog DD 64 (limb_plus.D k) :=
  fun_sound (E := limb_plus.E k) (fn := Try.f64) (c := codeOf Try.f64) (limb_plus.ok k) mixed rfl Try.func64 (by kernel_rfl) (by kernel_rfl) (allL_of (l := []) (by kernel_rfl) allL_nil) (limb_plus.D k) limb_plus.mk limb_plus.re
    (by intro args x h; replace h : limb_plus.un args = some x := h; unfold limb_plus.un at h; split at h; · cases h; rfl
        · cases h)
    (by intro v y h; unfold limb_plus.re at h; split at h; · cases h; rfl
        · cases h)
    (fun _ => rfl) (fun x => Nat.le_of_ble_eq_true (by kernel_rfl)) (limb_plus.eq k)
/-! ### pyx/limb.Add: function 16 -/
noncomputable def limb_Add.f (k : Nat) (a0 : (Int × Int)) (a1 : (Int × Int)) : Option ((Int × Int) × Bool) := (limb_plus.f k a0.1 a1.1 0).bind fun t1 => ((limb_plus.f k a0.2 a1.2 t1.2).bind fun t2 => (cond (decide (t2.2 > 0)) (some ((0, 0), false)) (some ((t1.1, t2.1), true))))
noncomputable def limb_Add.un : List (AV U) → Option ((Int × Int) × (Int × Int)) | [.agg [.flat (.int .u64 x1), .flat (.int .u64 x2)], .agg [.flat (.int .u64 x3), .flat (.int .u64 x4)]] => some ((x1, x2), (x3, x4)) | _ => none
noncomputable def limb_Add.mk (x : ((Int × Int) × (Int × Int))) : List (AV U) := [.agg [.flat (.int .u64 x.1.1), .flat (.int .u64 x.1.2)], .agg [.flat (.int .u64 x.2.1), .flat (.int .u64 x.2.2)]]
noncomputable def limb_Add.D (k : Nat) : FDen U := { X := ((Int × Int) × (Int × Int)), Y := ((Int × Int) × Bool), un := limb_Add.un, f := fun x => limb_Add.f k (x.1) (x.2), fin := fun y => .tup [.agg [.flat (.int .u64 y.1.1), .flat (.int .u64 y.1.2)], .flat (.bool y.2)] }
noncomputable def limb_Add.re : AV U → Option ((Int × Int) × Bool) | .tup [.agg [.flat (.int .u64 x1), .flat (.int .u64 x2)], .flat (.bool x3)] => some ((x1, x2), x3) | _ => none
noncomputable def limb_Add.jl : List (Nat × JDen U) := []
noncomputable def limb_Add.fl (k : Nat) : List (Nat × FDen U) := [(64, limb_plus.D k)]
noncomputable def limb_Add.ll (k : Nat) : List (Nat × LDen U) := []
noncomputable def limb_Add.E (k : Nat) : Env U := { P := Try.prog, D := DD, fd := lk (limb_Add.fl k), ld := lk (limb_Add.ll k), jd := lk limb_Add.jl, mode := lk [], elc := lk ec, dyn := fun t => false, vecs := fun d => false, results := Try.f16.results.toList }
theorem limb_Add.ok (k : Nat) : EnvOk (limb_Add.E k) := envOk lawful (limb_Add.fl k) (limb_Add.ll k) limb_Add.jl _ _ _ _ _ (by
  intro p hp
  simp only [limb_Add.fl, List.mem_cons, List.not_mem_nil, or_false] at hp
  rcases hp with rfl
  · exact ⟨limb_plus.sound k, enter_of Try.func64 (by kernel_rfl) (by kernel_rfl)⟩) (by
  intro p hp
  simp [limb_Add.jl] at hp)
theorem limb_Add.eq (k : Nat) (x : ((Int × Int) × (Int × Int))) : runF (limb_Add.E k) (codeOf Try.f16) (limb_Add.mk x) limb_Add.re = (limb_Add.D k).f x := by kernel_rfl
theorem limb_Add.sound (k : Nat) : Sound Try.prog DD 16 (limb_Add.D k) :=
  fun_sound (E := limb_Add.E k) (fn := Try.f16) (c := codeOf Try.f16) (limb_Add.ok k) mixed rfl Try.func16 (by kernel_rfl) (by kernel_rfl) (allL_of (l := []) (by kernel_rfl) allL_nil) (limb_Add.D k) limb_Add.mk limb_Add.re
    (by intro args x h; replace h : limb_Add.un args = some x := h; unfold limb_Add.un at h; split at h; · cases h; rfl
        · cases h)
    (by intro v y h; unfold limb_Add.re at h; split at h; · cases h; rfl
        · cases h)
    (fun _ => rfl) (fun x => Nat.le_of_ble_eq_true (by kernel_rfl)) (limb_Add.eq k)
/-! ### pyx/pyxlaw1.LimbDivides: function 5 -/
noncomputable def pyxlaw1_LimbDivides.f (k : Nat) (a0 : Int) (a1 : Int) (a2 : Int) (a3 : Int) (a4 : Int) (a5 : Int) : Option Bool := (pyxlaw1_words.f k a0 a1 a4).bind fun t1 => ((pyxlaw1_words.f k a2 a3 a5).bind fun t2 => (((cond ((t2.1 == 0) && (t2.2 == 0)) ((limb_Of.f k 3).bind fun t3 => (some (a0, a3, a4, t1.1, t1.2, t3.1, t3.2))) (some (a0, a3, a4, t1.1, t1.2, t2.1, t2.2))) : Option (Int × Int × Int × Int × Int × Int × Int)).bind fun y11 => ((pyxlaw1_words.f k y11.2.1 y11.1 (IntKind.wrap .i64 (Int.tdiv y11.2.2.1 3))).bind fun t12 => ((limb_Mul.f k (y11.2.2.2.1, y11.2.2.2.2.1) (t12.1, t12.2)).bind fun t13 => ((limb_Div.f k (t13.1, t13.2.1, t13.2.2.1, t13.2.2.2) (y11.2.2.2.2.2.1, y11.2.2.2.2.2.2)).bind fun t14 => ((((pyxlaw1_known.f k).bind fun t15 => (cond (!t15) (some (true, y11.2.2.2.2.2.1, y11.2.2.2.2.2.2, t13.1, t13.2.1, t13.2.2.1, t13.2.2.2, t14.1.1, t14.1.2.1, t14.1.2.2.1, t14.1.2.2.2, t14.2.1.1, t14.2.1.2)) (cond (!t14.2.2) (some (true, y11.2.2.2.2.2.1, y11.2.2.2.2.2.2, t13.1, t13.2.1, t13.2.2.1, t13.2.2.2, t14.1.1, t14.1.2.1, t14.1.2.2.1, t14.1.2.2.2, t14.2.1.1, t14.2.1.2)) ((limb_Cmp.f k (t14.2.1.1, t14.2.1.2) (y11.2.2.2.2.2.1, y11.2.2.2.2.2.2)).bind fun t29 => (some (decide (t29 ≥ 0), y11.2.2.2.2.2.1, y11.2.2.2.2.2.2, t13.1, t13.2.1, t13.2.2.1, t13.2.2.2, t14.1.1, t14.1.2.1, t14.1.2.2.1, t14.1.2.2.2, t14.2.1.1, t14.2.1.2)))))) : Option (Bool × Int × Int × Int × Int × Int × Int × Int × Int × Int × Int × Int × Int)).bind fun y30 => (cond (y30.1) (some false) ((limb_Mul.f k (y30.2.2.2.2.2.2.2.1, y30.2.2.2.2.2.2.2.2.1) (y30.2.1, y30.2.2.1)).bind fun t31 => ((limb_Mul.f k (y30.2.2.2.2.2.2.2.2.2.1, y30.2.2.2.2.2.2.2.2.2.2.1) (y30.2.1, y30.2.2.1)).bind fun t32 => (((cond (t32.2.2.1 != 0) (some (true, y30.2.2.2.1, y30.2.2.2.2.1, y30.2.2.2.2.2.1, y30.2.2.2.2.2.2.1, y30.2.2.2.2.2.2.2.2.2.2.2.1, y30.2.2.2.2.2.2.2.2.2.2.2.2, t31.1, t31.2.1, t31.2.2.1, t31.2.2.2, t32.1, t32.2.1, t32.2.2.1, t32.2.2.2)) (some (t32.2.2.2 != 0, y30.2.2.2.1, y30.2.2.2.2.1, y30.2.2.2.2.2.1, y30.2.2.2.2.2.2.1, y30.2.2.2.2.2.2.2.2.2.2.2.1, y30.2.2.2.2.2.2.2.2.2.2.2.2, t31.1, t31.2.1, t31.2.2.1, t31.2.2.2, t32.1, t32.2.1, t32.2.2.1, t32.2.2.2))) : Option (Bool × Int × Int × Int × Int × Int × Int × Int × Int × Int × Int × Int × Int × Int × Int)).bind fun y48 => (cond (y48.1) (some false) ((limb_Add.f k (y48.2.2.2.2.2.2.2.1, y48.2.2.2.2.2.2.2.2.1) (y48.2.2.2.2.2.1, y48.2.2.2.2.2.2.1)).bind fun t49 => (((cond (!t49.2) (((cond (decide ((IntKind.wrap .u64 (y48.2.2.2.2.2.2.2.1 + y48.2.2.2.2.2.1)) < y48.2.2.2.2.2.1)) (some (y48.2.1, y48.2.2.1, y48.2.2.2.1, y48.2.2.2.2.1, y48.2.2.2.2.2.2.2.2.2.2.2.1, y48.2.2.2.2.2.2.2.2.2.2.2.2.1, y48.2.2.2.2.2.2.2.2.2.2.2.2.2.1, y48.2.2.2.2.2.2.2.2.2.2.2.2.2.2, IntKind.wrap .u64 (y48.2.2.2.2.2.2.2.1 + y48.2.2.2.2.2.1), IntKind.wrap .u64 ((IntKind.wrap .u64 (y48.2.2.2.2.2.2.2.2.1 + y48.2.2.2.2.2.2.1)) + 1), y48.2.2.2.2.2.2.2.2.2.1, y48.2.2.2.2.2.2.2.2.2.2.1)) (some (y48.2.1, y48.2.2.1, y48.2.2.2.1, y48.2.2.2.2.1, y48.2.2.2.2.2.2.2.2.2.2.2.1, y48.2.2.2.2.2.2.2.2.2.2.2.2.1, y48.2.2.2.2.2.2.2.2.2.2.2.2.2.1, y48.2.2.2.2.2.2.2.2.2.2.2.2.2.2, IntKind.wrap .u64 (y48.2.2.2.2.2.2.2.1 + y48.2.2.2.2.2.1), IntKind.wrap .u64 (y48.2.2.2.2.2.2.2.2.1 + y48.2.2.2.2.2.2.1), y48.2.2.2.2.2.2.2.2.2.1, y48.2.2.2.2.2.2.2.2.2.2.1))) : Option (Int × Int × Int × Int × Int × Int × Int × Int × Int × Int × Int × Int)).bind fun y62 => ((limb_Of.f k 1).bind fun t63 => ((limb_Add.f k (y62.2.2.2.2.2.2.2.2.2.2.1, y62.2.2.2.2.2.2.2.2.2.2.2) (t63.1, t63.2)).bind fun t64 => (some (y62.1, y62.2.1, y62.2.2.1, y62.2.2.2.1, y62.2.2.2.2.1, y62.2.2.2.2.2.1, y62.2.2.2.2.2.2.1, y62.2.2.2.2.2.2.2.1, y62.2.2.2.2.2.2.2.2.1, y62.2.2.2.2.2.2.2.2.2.1, t64.1.1, t64.1.2))))) (some (y48.2.1, y48.2.2.1, y48.2.2.2.1, y48.2.2.2.2.1, y48.2.2.2.2.2.2.2.2.2.2.2.1, y48.2.2.2.2.2.2.2.2.2.2.2.2.1, y48.2.2.2.2.2.2.2.2.2.2.2.2.2.1, y48.2.2.2.2.2.2.2.2.2.2.2.2.2.2, t49.1.1, t49.1.2, y48.2.2.2.2.2.2.2.2.2.1, y48.2.2.2.2.2.2.2.2.2.2.1))) : Option (Int × Int × Int × Int × Int × Int × Int × Int × Int × Int × Int × Int)).bind fun y77 => ((limb_Add.f k (y77.2.2.2.2.2.2.2.2.2.2.1, y77.2.2.2.2.2.2.2.2.2.2.2) (y77.2.2.2.2.1, y77.2.2.2.2.2.1)).bind fun t78 => (cond (t78.2) (cond ((y77.2.2.2.2.2.2.2.2.1 == y77.1) && (y77.2.2.2.2.2.2.2.2.2.1 == y77.2.1)) (some ((t78.1.1 == y77.2.2.1) && (t78.1.2 == y77.2.2.2.1))) (some false)) (some false))))))))))))))))
noncomputable def pyxlaw1_LimbDivides.un : List (AV U) → Option (Int × Int × Int × Int × Int × Int) | [.flat (.int .u64 x1), .flat (.int .u64 x2), .flat (.int .u64 x3), .flat (.int .u64 x4), .flat (.int .i64 x5), .flat (.int .i64 x6)] => some (x1, x2, x3, x4, x5, x6) | _ => none
noncomputable def pyxlaw1_LimbDivides.mk (x : (Int × Int × Int × Int × Int × Int)) : List (AV U) := [.flat (.int .u64 x.1), .flat (.int .u64 x.2.1), .flat (.int .u64 x.2.2.1), .flat (.int .u64 x.2.2.2.1), .flat (.int .i64 x.2.2.2.2.1), .flat (.int .i64 x.2.2.2.2.2)]
noncomputable def pyxlaw1_LimbDivides.D (k : Nat) : FDen U := { X := (Int × Int × Int × Int × Int × Int), Y := Bool, un := pyxlaw1_LimbDivides.un, f := fun x => pyxlaw1_LimbDivides.f k (x.1) (x.2.1) (x.2.2.1) (x.2.2.2.1) (x.2.2.2.2.1) (x.2.2.2.2.2), fin := fun y => .flat (.bool y) }
noncomputable def pyxlaw1_LimbDivides.re : AV U → Option Bool | .flat (.bool x1) => some x1 | _ => none
noncomputable def pyxlaw1_LimbDivides.j4001.fin (y : (Int × Int × Int × Int × Int × Int × Int)) : Out U := match y with | (x4, x5, x6, x7, x8, x9, x10) => .norm ⟨[(13, .ptr 13 0), (14, .ptr 14 0), (0, .flat (.int .u64 x4)), (3, .flat (.int .u64 x5)), (4, .flat (.int .i64 x6))], [(13, .lit [.flat (.int .u64 x7), .flat (.int .u64 x8)]), (14, .lit [.flat (.int .u64 x9), .flat (.int .u64 x10)])]⟩
noncomputable def pyxlaw1_LimbDivides.j4001.finK {ρ : Type} (y : (Int × Int × Int × Int × Int × Int × Int)) (K : Out U → Option ρ) : Option ρ := match y with | (x4, x5, x6, x7, x8, x9, x10) => K (.norm ⟨[(13, .ptr 13 0), (14, .ptr 14 0), (0, .flat (.int .u64 x4)), (3, .flat (.int .u64 x5)), (4, .flat (.int .i64 x6))], [(13, .lit [.flat (.int .u64 x7), .flat (.int .u64 x8)]), (14, .lit [.flat (.int .u64 x9), .flat (.int .u64 x10)])]⟩)
theorem pyxlaw1_LimbDivides.j4001.finK_eq {ρ : Type} (y : (Int × Int × Int × Int × Int × Int × Int)) (K : Out U → Option ρ) : pyxlaw1_LimbDivides.j4001.finK y K = K (pyxlaw1_LimbDivides.j4001.fin y) := by
  unfold pyxlaw1_LimbDivides.j4001.finK pyxlaw1_LimbDivides.j4001.fin
  first | rfl | (split <;> rfl)
noncomputable def pyxlaw1_LimbDivides.j4001.re : Out U → Option ((Int × Int × Int × Int × Int × Int × Int)) | .norm s => (match s.get 13, s.get 14, s.get 0, s.get 3, s.get 4, lk s.o 13, lk s.o 14 with | .ptr 13 0, .ptr 14 0, .flat (.int .u64 x4), .flat (.int .u64 x5), .flat (.int .i64 x6), some (.lit [.flat (.int .u64 x7), .flat (.int .u64 x8)]), some (.lit [.flat (.int .u64 x9), .flat (.int .u64 x10)]) => some (x4, x5, x6, x7, x8, x9, x10) | _, _, _, _, _, _, _ => none) | _ => none
noncomputable def pyxlaw1_LimbDivides.j4001.J : JDen U := { Y := (Int × Int × Int × Int × Int × Int × Int), re := pyxlaw1_LimbDivides.j4001.re, fin := pyxlaw1_LimbDivides.j4001.fin, finK := pyxlaw1_LimbDivides.j4001.finK, finK_eq := pyxlaw1_LimbDivides.j4001.finK_eq }
theorem pyxlaw1_LimbDivides.j4001.fit (o : Out U) (y : (Int × Int × Int × Int × Int × Int × Int)) (h : pyxlaw1_LimbDivides.j4001.re o = some y) : FitsO o (pyxlaw1_LimbDivides.j4001.fin y) := by
  unfold pyxlaw1_LimbDivides.j4001.re at h
  split at h
  · split at h
    · cases h
      refine fitsO_norm (fits_ren [] ?_ ?_ ren_nil rfl)
      · exact List.forall_mem_cons.2 ⟨FV.same (by assumption) (fun _ _ _ hh => by cases hh) (fun _ hh => by cases hh), List.forall_mem_cons.2 ⟨FV.same (by assumption) (fun _ _ _ hh => by cases hh) (fun _ hh => by cases hh), List.forall_mem_cons.2 ⟨FV.same (by assumption) (fun _ _ _ hh => by cases hh) (fun _ hh => by cases hh), List.forall_mem_cons.2 ⟨FV.same (by assumption) (fun _ _ _ hh => by cases hh) (fun _ hh => by cases hh), List.forall_mem_cons.2 ⟨FV.same (by assumption) (fun _ _ _ hh => by cases hh) (fun _ hh => by cases hh), fun _ hp => (List.not_mem_nil hp).elim⟩⟩⟩⟩⟩
      · exact List.forall_mem_cons.2 ⟨(show lk (St.o _) 13 = some _ from by assumption), List.forall_mem_cons.2 ⟨(show lk (St.o _) 14 = some _ from by assumption), fun _ hp => (List.not_mem_nil hp).elim⟩⟩
    · cases h
  · cases h
noncomputable def pyxlaw1_LimbDivides.j7000.fin (y : (Bool × Int × Int × Int × Int × Int × Int × Int × Int × Int × Int × Int × Int)) : Out U := match y with | (x28, x16, x17, x18, x19, x20, x21, x22, x23, x24, x25, x26, x27) => .norm ⟨[(14, .ptr 14 0), (15, .ptr 15 0), (16, .ptr 16 0), (17, .ptr 17 0), (63, .flat (.bool x28))], [(14, .lit [.flat (.int .u64 x16), .flat (.int .u64 x17)]), (15, .lit [.flat (.int .u64 x18), .flat (.int .u64 x19), .flat (.int .u64 x20), .flat (.int .u64 x21)]), (16, .lit [.flat (.int .u64 x22), .flat (.int .u64 x23), .flat (.int .u64 x24), .flat (.int .u64 x25)]), (17, .lit [.flat (.int .u64 x26), .flat (.int .u64 x27)])]⟩
noncomputable def pyxlaw1_LimbDivides.j7000.finK {ρ : Type} (y : (Bool × Int × Int × Int × Int × Int × Int × Int × Int × Int × Int × Int × Int)) (K : Out U → Option ρ) : Option ρ := match y with | (x28, x16, x17, x18, x19, x20, x21, x22, x23, x24, x25, x26, x27) => K (.norm ⟨[(14, .ptr 14 0), (15, .ptr 15 0), (16, .ptr 16 0), (17, .ptr 17 0), (63, .flat (.bool x28))], [(14, .lit [.flat (.int .u64 x16), .flat (.int .u64 x17)]), (15, .lit [.flat (.int .u64 x18), .flat (.int .u64 x19), .flat (.int .u64 x20), .flat (.int .u64 x21)]), (16, .lit [.flat (.int .u64 x22), .flat (.int .u64 x23), .flat (.int .u64 x24), .flat (.int .u64 x25)]), (17, .lit [.flat (.int .u64 x26), .flat (.int .u64 x27)])]⟩)
theorem pyxlaw1_LimbDivides.j7000.finK_eq {ρ : Type} (y : (Bool × Int × Int × Int × Int × Int × Int × Int × Int × Int × Int × Int × Int)) (K : Out U → Option ρ) : pyxlaw1_LimbDivides.j7000.finK y K = K (pyxlaw1_LimbDivides.j7000.fin y) := by
  unfold pyxlaw1_LimbDivides.j7000.finK pyxlaw1_LimbDivides.j7000.fin
  first | rfl | (split <;> rfl)
noncomputable def pyxlaw1_LimbDivides.j7000.re : Out U → Option ((Bool × Int × Int × Int × Int × Int × Int × Int × Int × Int × Int × Int × Int)) | .norm s => (match s.get 14, s.get 15, s.get 16, s.get 17, s.get 63, lk s.o 14, lk s.o 15, lk s.o 16, lk s.o 17 with | .ptr 14 0, .ptr 15 0, .ptr 16 0, .ptr 17 0, .flat (.bool x28), some (.lit [.flat (.int .u64 x16), .flat (.int .u64 x17)]), some (.lit [.flat (.int .u64 x18), .flat (.int .u64 x19), .flat (.int .u64 x20), .flat (.int .u64 x21)]), some (.lit [.flat (.int .u64 x22), .flat (.int .u64 x23), .flat (.int .u64 x24), .flat (.int .u64 x25)]), some (.lit [.flat (.int .u64 x26), .flat (.int .u64 x27)]) => some (x28, x16, x17, x18, x19, x20, x21, x22, x23, x24, x25, x26, x27) | _, _, _, _, _, _, _, _, _ => none) | _ => none
noncomputable def pyxlaw1_LimbDivides.j7000.J : JDen U := { Y := (Bool × Int × Int × Int × Int × Int × Int × Int × Int × Int × Int × Int × Int), re := pyxlaw1_LimbDivides.j7000.re, fin := pyxlaw1_LimbDivides.j7000.fin, finK := pyxlaw1_LimbDivides.j7000.finK, finK_eq := pyxlaw1_LimbDivides.j7000.finK_eq }
theorem pyxlaw1_LimbDivides.j7000.fit (o : Out U) (y : (Bool × Int × Int × Int × Int × Int × Int × Int × Int × Int × Int × Int × Int)) (h : pyxlaw1_LimbDivides.j7000.re o = some y) : FitsO o (pyxlaw1_LimbDivides.j7000.fin y) := by
  unfold pyxlaw1_LimbDivides.j7000.re at h
  split at h
  · split at h
    · cases h
      refine fitsO_norm (fits_ren [] ?_ ?_ ren_nil rfl)
      · exact List.forall_mem_cons.2 ⟨FV.same (by assumption) (fun _ _ _ hh => by cases hh) (fun _ hh => by cases hh), List.forall_mem_cons.2 ⟨FV.same (by assumption) (fun _ _ _ hh => by cases hh) (fun _ hh => by cases hh), List.forall_mem_cons.2 ⟨FV.same (by assumption) (fun _ _ _ hh => by cases hh) (fun _ hh => by cases hh), List.forall_mem_cons.2 ⟨FV.same (by assumption) (fun _ _ _ hh => by cases hh) (fun _ hh => by cases hh), List.forall_mem_cons.2 ⟨FV.same (by assumption) (fun _ _ _ hh => by cases hh) (fun _ hh => by cases hh), fun _ hp => (List.not_mem_nil hp).elim⟩⟩⟩⟩⟩
      · exact List.forall_mem_cons.2 ⟨(show lk (St.o _) 14 = some _ from by assumption), List.forall_mem_cons.2 ⟨(show lk (St.o _) 15 = some _ from by assumption), List.forall_mem_cons.2 ⟨(show lk (St.o _) 16 = some _ from by assumption), List.forall_mem_cons.2 ⟨(show lk (St.o _) 17 = some _ from by assumption), fun _ hp => (List.not_mem_nil hp).elim⟩⟩⟩⟩
    · cases h
  · cases h
noncomputable def pyxlaw1_LimbDivides.j11000.fin (y : (Bool × Int × Int × Int × Int × Int × Int × Int × Int × Int × Int × Int × Int × Int × Int)) : Out U := match y with | (x47, x33, x34, x35, x36, x37, x38, x39, x40, x41, x42, x43, x44, x45, x46) => .norm ⟨[(15, .ptr 15 0), (17, .ptr 17 0), (19, .ptr 19 0), (20, .ptr 20 0), (85, .flat (.bool x47))], [(15, .lit [.flat (.int .u64 x33), .flat (.int .u64 x34), .flat (.int .u64 x35), .flat (.int .u64 x36)]), (17, .lit [.flat (.int .u64 x37), .flat (.int .u64 x38)]), (19, .lit [.flat (.int .u64 x39), .flat (.int .u64 x40), .flat (.int .u64 x41), .flat (.int .u64 x42)]), (20, .lit [.flat (.int .u64 x43), .flat (.int .u64 x44), .flat (.int .u64 x45), .flat (.int .u64 x46)])]⟩
noncomputable def pyxlaw1_LimbDivides.j11000.finK {ρ : Type} (y : (Bool × Int × Int × Int × Int × Int × Int × Int × Int × Int × Int × Int × Int × Int × Int)) (K : Out U → Option ρ) : Option ρ := match y with | (x47, x33, x34, x35, x36, x37, x38, x39, x40, x41, x42, x43, x44, x45, x46) => K (.norm ⟨[(15, .ptr 15 0), (17, .ptr 17 0), (19, .ptr 19 0), (20, .ptr 20 0), (85, .flat (.bool x47))], [(15, .lit [.flat (.int .u64 x33), .flat (.int .u64 x34), .flat (.int .u64 x35), .flat (.int .u64 x36)]), (17, .lit [.flat (.int .u64 x37), .flat (.int .u64 x38)]), (19, .lit [.flat (.int .u64 x39), .flat (.int .u64 x40), .flat (.int .u64 x41), .flat (.int .u64 x42)]), (20, .lit [.flat (.int .u64 x43), .flat (.int .u64 x44), .flat (.int .u64 x45), .flat (.int .u64 x46)])]⟩)
theorem pyxlaw1_LimbDivides.j11000.finK_eq {ρ : Type} (y : (Bool × Int × Int × Int × Int × Int × Int × Int × Int × Int × Int × Int × Int × Int × Int)) (K : Out U → Option ρ) : pyxlaw1_LimbDivides.j11000.finK y K = K (pyxlaw1_LimbDivides.j11000.fin y) := by
  unfold pyxlaw1_LimbDivides.j11000.finK pyxlaw1_LimbDivides.j11000.fin
  first | rfl | (split <;> rfl)
noncomputable def pyxlaw1_LimbDivides.j11000.re : Out U → Option ((Bool × Int × Int × Int × Int × Int × Int × Int × Int × Int × Int × Int × Int × Int × Int)) | .norm s => (match s.get 15, s.get 17, s.get 19, s.get 20, s.get 85, lk s.o 15, lk s.o 17, lk s.o 19, lk s.o 20 with | .ptr 15 0, .ptr 17 0, .ptr 19 0, .ptr 20 0, .flat (.bool x47), some (.lit [.flat (.int .u64 x33), .flat (.int .u64 x34), .flat (.int .u64 x35), .flat (.int .u64 x36)]), some (.lit [.flat (.int .u64 x37), .flat (.int .u64 x38)]), some (.lit [.flat (.int .u64 x39), .flat (.int .u64 x40), .flat (.int .u64 x41), .flat (.int .u64 x42)]), some (.lit [.flat (.int .u64 x43), .flat (.int .u64 x44), .flat (.int .u64 x45), .flat (.int .u64 x46)]) => some (x47, x33, x34, x35, x36, x37, x38, x39, x40, x41, x42, x43, x44, x45, x46) | _, _, _, _, _, _, _, _, _ => none) | _ => none
noncomputable def pyxlaw1_LimbDivides.j11000.J : JDen U := { Y := (Bool × Int × Int × Int × Int × Int × Int × Int × Int × Int × Int × Int × Int × Int × Int), re := pyxlaw1_LimbDivides.j11000.re, fin := pyxlaw1_LimbDivides.j11000.fin, finK := pyxlaw1_LimbDivides.j11000.finK, finK_eq := pyxlaw1_LimbDivides.j11000.finK_eq }
theorem pyxlaw1_LimbDivides.j11000.fit (o : Out U) (y : (Bool × Int × Int × Int × Int × Int × Int × Int × Int × Int × Int × Int × Int × Int × Int)) (h : pyxlaw1_LimbDivides.j11000.re o = some y) : FitsO o (pyxlaw1_LimbDivides.j11000.fin y) := by
  unfold pyxlaw1_LimbDivides.j11000.re at h
  split at h
  · split at h
    · cases h
      refine fitsO_norm (fits_ren [] ?_ ?_ ren_nil rfl)
      · exact List.forall_mem_cons.2 ⟨FV.same (by assumption) (fun _ _ _ hh => by cases hh) (fun _ hh => by cases hh), List.forall_mem_cons.2 ⟨FV.same (by assumption) (fun _ _ _ hh => by cases hh) (fun _ hh => by cases hh), List.forall_mem_cons.2 ⟨FV.same (by assumption) (fun _ _ _ hh => by cases hh) (fun _ hh => by cases hh), List.forall_mem_cons.2 ⟨FV.same (by assumption) (fun _ _ _ hh => by cases hh) (fun _ hh => by cases hh), List.forall_mem_cons.2 ⟨FV.same (by assumption) (fun _ _ _ hh => by cases hh) (fun _ hh => by cases hh), fun _ hp => (List.not_mem_nil hp).elim⟩⟩⟩⟩⟩
      · exact List.forall_mem_cons.2 ⟨(show lk (St.o _) 15 = some _ from by assumption), List.forall_mem_cons.2 ⟨(show lk (St.o _) 17 = some _ from by assumption), List.forall_mem_cons.2 ⟨(show lk (St.o _) 19 = some _ from by assumption), List.forall_mem_cons.2 ⟨(show lk (St.o _) 20 = some _ from by assumption), fun _ hp => (List.not_mem_nil hp).elim⟩⟩⟩⟩
    · cases h
  · cases h
noncomputable def pyxlaw1_LimbDivides.j18001.fin (y : (Int × Int × Int × Int × Int × Int × Int × Int × Int × Int × Int × Int)) : Out U := match y with | (x50, x51, x52, x53, x54, x55, x56, x57, x58, x59, x60, x61) => .norm ⟨[(15, .ptr 15 0), (20, .ptr 20 0), (21, .ptr 21 0), (23, .ptr 23 0)], [(15, .lit [.flat (.int .u64 x50), .flat (.int .u64 x51), .flat (.int .u64 x52), .flat (.int .u64 x53)]), (20, .lit [.flat (.int .u64 x54), .flat (.int .u64 x55), .flat (.int .u64 x56), .flat (.int .u64 x57)]), (21, .lit [.flat (.int .u64 x58), .flat (.int .u64 x59)]), (23, .lit [.flat (.int .u64 x60), .flat (.int .u64 x61)])]⟩
noncomputable def pyxlaw1_LimbDivides.j18001.finK {ρ : Type} (y : (Int × Int × Int × Int × Int × Int × Int × Int × Int × Int × Int × Int)) (K : Out U → Option ρ) : Option ρ := match y with | (x50, x51, x52, x53, x54, x55, x56, x57, x58, x59, x60, x61) => K (.norm ⟨[(15, .ptr 15 0), (20, .ptr 20 0), (21, .ptr 21 0), (23, .ptr 23 0)], [(15, .lit [.flat (.int .u64 x50), .flat (.int .u64 x51), .flat (.int .u64 x52), .flat (.int .u64 x53)]), (20, .lit [.flat (.int .u64 x54), .flat (.int .u64 x55), .flat (.int .u64 x56), .flat (.int .u64 x57)]), (21, .lit [.flat (.int .u64 x58), .flat (.int .u64 x59)]), (23, .lit [.flat (.int .u64 x60), .flat (.int .u64 x61)])]⟩)
theorem pyxlaw1_LimbDivides.j18001.finK_eq {ρ : Type} (y : (Int × Int × Int × Int × Int × Int × Int × Int × Int × Int × Int × Int)) (K : Out U → Option ρ) : pyxlaw1_LimbDivides.j18001.finK y K = K (pyxlaw1_LimbDivides.j18001.fin y) := by
  unfold pyxlaw1_LimbDivides.j18001.finK pyxlaw1_LimbDivides.j18001.fin
  first | rfl | (split <;> rfl)
noncomputable def pyxlaw1_LimbDivides.j18001.re : Out U → Option ((Int × Int × Int × Int × Int × Int × Int × Int × Int × Int × Int × Int)) | .norm s => (match s.get 15, s.get 20, s.get 21, s.get 23, lk s.o 15, lk s.o 20, lk s.o 21, lk s.o 23 with | .ptr 15 0, .ptr 20 0, .ptr 21 0, .ptr 23 0, some (.lit [.flat (.int .u64 x50), .flat (.int .u64 x51), .flat (.int .u64 x52), .flat (.int .u64 x53)]), some (.lit [.flat (.int .u64 x54), .flat (.int .u64 x55), .flat (.int .u64 x56), .flat (.int .u64 x57)]), some (.lit [.flat (.int .u64 x58), .flat (.int .u64 x59)]), some (.lit [.flat (.int .u64 x60), .flat (.int .u64 x61)]) => some (x50, x51, x52, x53, x54, x55, x56, x57, x58, x59, x60, x61) | _, _, _, _, _, _, _, _ => none) | _ => none
noncomputable def pyxlaw1_LimbDivides.j18001.J : JDen U := { Y := (Int × Int × Int × Int × Int × Int × Int × Int × Int × Int × Int × Int), re := pyxlaw1_LimbDivides.j18001.re, fin := pyxlaw1_LimbDivides.j18001.fin, finK := pyxlaw1_LimbDivides.j18001.finK, finK_eq := pyxlaw1_LimbDivides.j18001.finK_eq }
theorem pyxlaw1_LimbDivides.j18001.fit (o : Out U) (y : (Int × Int × Int × Int × Int × Int × Int × Int × Int × Int × Int × Int)) (h : pyxlaw1_LimbDivides.j18001.re o = some y) : FitsO o (pyxlaw1_LimbDivides.j18001.fin y) := by
  unfold pyxlaw1_LimbDivides.j18001.re at h
  split at h
  · split at h
    · cases h
      refine fitsO_norm (fits_ren [] ?_ ?_ ren_nil rfl)
      · exact List.forall_mem_cons.2 ⟨FV.same (by assumption) (fun _ _ _ hh => by cases hh) (fun _ hh => by cases hh), List.forall_mem_cons.2 ⟨FV.same (by assumption) (fun _ _ _ hh => by cases hh) (fun _ hh => by cases hh), List.forall_mem_cons.2 ⟨FV.same (by assumption) (fun _ _ _ hh => by cases hh) (fun _ hh => by cases hh), List.forall_mem_cons.2 ⟨FV.same (by assumption) (fun _ _ _ hh => by cases hh) (fun _ hh => by cases hh), fun _ hp => (List.not_mem_nil hp).elim⟩⟩⟩⟩
      · exact List.forall_mem_cons.2 ⟨(show lk (St.o _) 15 = some _ from by assumption), List.forall_mem_cons.2 ⟨(show lk (St.o _) 20 = some _ from by assumption), List.forall_mem_cons.2 ⟨(show lk (St.o _) 21 = some _ from by assumption), List.forall_mem_cons.2 ⟨(show lk (St.o _) 23 = some _ from by assumption), fun _ hp => (List.not_mem_nil hp).elim⟩⟩⟩⟩
    · cases h
  · cases h
noncomputable def pyxlaw1_LimbDivides.j16001.fin (y : (Int × Int × Int × Int × Int × Int × Int × Int × Int × Int × Int × Int)) : Out U := match y with | (x65, x66, x67, x68, x69, x70, x71, x72, x73, x74, x75, x76) => .norm ⟨[(15, .ptr 15 0), (20, .ptr 20 0), (21, .ptr 21 0), (23, .ptr 23 0)], [(15, .lit [.flat (.int .u64 x65), .flat (.int .u64 x66), .flat (.int .u64 x67), .flat (.int .u64 x68)]), (20, .lit [.flat (.int .u64 x69), .flat (.int .u64 x70), .flat (.int .u64 x71), .flat (.int .u64 x72)]), (21, .lit [.flat (.int .u64 x73), .flat (.int .u64 x74)]), (23, .lit [.flat (.int .u64 x75), .flat (.int .u64 x76)])]⟩
noncomputable def pyxlaw1_LimbDivides.j16001.finK {ρ : Type} (y : (Int × Int × Int × Int × Int × Int × Int × Int × Int × Int × Int × Int)) (K : Out U → Option ρ) : Option ρ := match y with | (x65, x66, x67, x68, x69, x70, x71, x72, x73, x74, x75, x76) => K (.norm ⟨[(15, .ptr 15 0), (20, .ptr 20 0), (21, .ptr 21 0), (23, .ptr 23 0)], [(15, .lit [.flat (.int .u64 x65), .flat (.int .u64 x66), .flat (.int .u64 x67), .flat (.int .u64 x68)]), (20, .lit [.flat (.int .u64 x69), .flat (.int .u64 x70), .flat (.int .u64 x71), .flat (.int .u64 x72)]), (21, .lit [.flat (.int .u64 x73), .flat (.int .u64 x74)]), (23, .lit [.flat (.int .u64 x75), .flat (.int .u64 x76)])]⟩)
theorem pyxlaw1_LimbDivides.j16001.finK_eq {ρ : Type} (y : (Int × Int × Int × Int × Int × Int × Int × Int × Int × Int × Int × Int)) (K : Out U → Option ρ) : pyxlaw1_LimbDivides.j16001.finK y K = K (pyxlaw1_LimbDivides.j16001.fin y) := by
  unfold pyxlaw1_LimbDivides.j16001.finK pyxlaw1_LimbDivides.j16001.fin
  first | rfl | (split <;> rfl)
noncomputable def pyxlaw1_LimbDivides.j16001.re : Out U → Option ((Int × Int × Int × Int × Int × Int × Int × Int × Int × Int × Int × Int)) | .norm s => (match s.get 15, s.get 20, s.get 21, s.get 23, lk s.o 15, lk s.o 20, lk s.o 21, lk s.o 23 with | .ptr 15 0, .ptr 20 0, .ptr 21 0, .ptr 23 0, some (.lit [.flat (.int .u64 x65), .flat (.int .u64 x66), .flat (.int .u64 x67), .flat (.int .u64 x68)]), some (.lit [.flat (.int .u64 x69), .flat (.int .u64 x70), .flat (.int .u64 x71), .flat (.int .u64 x72)]), some (.lit [.flat (.int .u64 x73), .flat (.int .u64 x74)]), some (.lit [.flat (.int .u64 x75), .flat (.int .u64 x76)]) => some (x65, x66, x67, x68, x69, x70, x71, x72, x73, x74, x75, x76) | _, _, _, _, _, _, _, _ => none) | _ => none
noncomputable def pyxlaw1_LimbDivides.j16001.J : JDen U := { Y := (Int × Int × Int × Int × Int × Int × Int × Int × Int × Int × Int × Int), re := pyxlaw1_LimbDivides.j16001.re, fin := pyxlaw1_LimbDivides.j16001.fin, finK := pyxlaw1_LimbDivides.j16001.finK, finK_eq := pyxlaw1_LimbDivides.j16001.finK_eq }
theorem pyxlaw1_LimbDivides.j16001.fit (o : Out U) (y : (Int × Int × Int × Int × Int × Int × Int × Int × Int × Int × Int × Int)) (h : pyxlaw1_LimbDivides.j16001.re o = some y) : FitsO o (pyxlaw1_LimbDivides.j16001.fin y) := by
  unfold pyxlaw1_LimbDivides.j16001.re at h
  split at h
  · split at h
    · cases h
      refine fitsO_norm (fits_ren [] ?_ ?_ ren_nil rfl)
      · exact List.forall_mem_cons.2 ⟨FV.same (by assumption) (fun _ _ _ hh => by cases hh) (fun _ hh => by cases hh), List.forall_mem_cons.2 ⟨FV.same (by assumption) (fun _ _ _ hh => by cases hh) (fun _ hh => by cases hh), List.forall_mem_cons.2 ⟨FV.same (by assumption) (fun _ _ _ hh => by cases hh) (fun _ hh => by cases hh), List.forall_mem_cons.2 ⟨FV.same (by assumption) (fun _ _ _ hh => by cases hh) (fun _ hh => by cases hh), fun _ hp => (List.not_mem_nil hp).elim⟩⟩⟩⟩
      · exact List.forall_mem_cons.2 ⟨(show lk (St.o _) 15 = some _ from by assumption), List.forall_mem_cons.2 ⟨(show lk (St.o _) 20 = some _ from by assumption), List.forall_mem_cons.2 ⟨(show lk (St.o _) 21 = some _ from by assumption), List.forall_mem_cons.2 ⟨(show lk (St.o _) 23 = some _ from by assumption), fun _ hp => (List.not_mem_nil hp).elim⟩⟩⟩⟩
    · cases h
  · cases h
noncomputable def pyxlaw1_LimbDivides.jl : List (Nat × JDen U) := [(4001, pyxlaw1_LimbDivides.j4001.J), (7000, pyxlaw1_LimbDivides.j7000.J), (11000, pyxlaw1_LimbDivides.j11000.J), (18001, pyxlaw1_LimbDivides.j18001.J), (16001, pyxlaw1_LimbDivides.j16001.J)]
noncomputable def pyxlaw1_LimbDivides.fl (k : Nat) : List (Nat × FDen U) := [(15, pyxlaw1_words.D k), (26, limb_Of.D k), (25, limb_Mul.D k), (27, limb_Div.D k), (17, pyxlaw1_known.D k), (19, limb_Cmp.D k), (16, limb_Add.D k)]
noncomputable def pyxlaw1_LimbDivides.ll (k : Nat) : List (Nat × LDen U) := []
noncomputable def pyxlaw1_LimbDivides.E (k : Nat) : Env U := { P := Try.prog, D := DD, fd := lk (pyxlaw1_LimbDivides.fl k), ld := lk (pyxlaw1_LimbDivides.ll k), jd := lk pyxlaw1_LimbDivides.jl, mode := lk [], elc := lk ec, dyn := fun t => false, vecs := fun d => false, results := Try.f5.results.toList }
theorem pyxlaw1_LimbDivides.ok (k : Nat) : EnvOk (pyxlaw1_LimbDivides.E k) := envOk lawful (pyxlaw1_LimbDivides.fl k) (pyxlaw1_LimbDivides.ll k) pyxlaw1_LimbDivides.jl _ _ _ _ _ (by
  intro p hp
  simp only [pyxlaw1_LimbDivides.fl, List.mem_cons, List.not_mem_nil, or_false] at hp
  rcases hp with rfl | rfl | rfl | rfl | rfl | rfl | rfl
  · exact ⟨pyxlaw1_words.sound k, enter_of Try.func15 (by kernel_rfl) (by kernel_rfl)⟩
  · exact ⟨limb_Of.sound k, enter_of Try.func26 (by kernel_rfl) (by kernel_rfl)⟩
  · exact ⟨limb_Mul.sound k, enter_of Try.func25 (by kernel_rfl) (by kernel_rfl)⟩
  · exact ⟨limb_Div.sound k, enter_of Try.func27 (by kernel_rfl) (by kernel_rfl)⟩
  · exact ⟨pyxlaw1_known.sound k, enter_of Try.func17 (by kernel_rfl) (by kernel_rfl)⟩
  · exact ⟨limb_Cmp.sound k, enter_of Try.func19 (by kernel_rfl) (by kernel_rfl)⟩
  · exact ⟨limb_Add.sound k, enter_of Try.func16 (by kernel_rfl) (by kernel_rfl)⟩) (by
  intro p hp
  simp only [pyxlaw1_LimbDivides.jl, List.mem_cons, List.not_mem_nil, or_false] at hp
  rcases hp with rfl | rfl | rfl | rfl | rfl
  · exact pyxlaw1_LimbDivides.j4001.fit
  · exact pyxlaw1_LimbDivides.j7000.fit
  · exact pyxlaw1_LimbDivides.j11000.fit
  · exact pyxlaw1_LimbDivides.j18001.fit
  · exact pyxlaw1_LimbDivides.j16001.fit)
theorem pyxlaw1_LimbDivides.eq (k : Nat) (x : (Int × Int × Int × Int × Int × Int)) : runF (pyxlaw1_LimbDivides.E k) (codeOf Try.f5) (pyxlaw1_LimbDivides.mk x) pyxlaw1_LimbDivides.re = (pyxlaw1_LimbDivides.D k).f x := by kernel_rfl
theorem pyxlaw1_LimbDivides.sound (k : Nat) : Sound Try.prog DD 5 (pyxlaw1_LimbDivides.D k) :=
  fun_sound (E := pyxlaw1_LimbDivides.E k) (fn := Try.f5) (c := codeOf Try.f5) (pyxlaw1_LimbDivides.ok k) mixed rfl Try.func5 (by kernel_rfl) (by kernel_rfl) (allL_of (l := []) (by kernel_rfl) allL_nil) (pyxlaw1_LimbDivides.D k) pyxlaw1_LimbDivides.mk pyxlaw1_LimbDivides.re
    (by intro args x h; replace h : pyxlaw1_LimbDivides.un args = some x := h; unfold pyxlaw1_LimbDivides.un at h; split at h; · cases h; rfl
        · cases h)
    (by intro v y h; unfold pyxlaw1_LimbDivides.re at h; split at h; · cases h; rfl
        · cases h)
    (fun _ => rfl) (fun x => Nat.le_of_ble_eq_true (by kernel_rfl)) (pyxlaw1_LimbDivides.eq k)
/-! ### pyx/limb.Short: function 29 -/
noncomputable def limb_Short.f (k : Nat) (a0 : (Int × Int × Int × Int)) : Option ((Int × Int) × Bool) := ((cond (a0.2.2.1 != 0) (some (true, a0.1, a0.2.1, a0.2.2.1, a0.2.2.2, 0, 0)) (some (a0.2.2.2 != 0, a0.1, a0.2.1, a0.2.2.1, a0.2.2.2, 0, 0))) : Option (Bool × Int × Int × Int × Int × Int × Int)).bind fun y8 => (cond (y8.1) (some ((0, 0), false)) (some ((y8.2.1, y8.2.2.1), true)))
noncomputable def limb_Short.un : List (AV U) → Option (Int × Int × Int × Int) | [.agg [.flat (.int .u64 x1), .flat (.int .u64 x2), .flat (.int .u64 x3), .flat (.int .u64 x4)]] => some (x1, x2, x3, x4) | _ => none
noncomputable def limb_Short.mk (x : (Int × Int × Int × Int)) : List (AV U) := [.agg [.flat (.int .u64 x.1), .flat (.int .u64 x.2.1), .flat (.int .u64 x.2.2.1), .flat (.int .u64 x.2.2.2)]]
noncomputable def limb_Short.D (k : Nat) : FDen U := { X := (Int × Int × Int × Int), Y := ((Int × Int) × Bool), un := limb_Short.un, f := fun x => limb_Short.f k (x), fin := fun y => .tup [.agg [.flat (.int .u64 y.1.1), .flat (.int .u64 y.1.2)], .flat (.bool y.2)] }
noncomputable def limb_Short.re : AV U → Option ((Int × Int) × Bool) | .tup [.agg [.flat (.int .u64 x1), .flat (.int .u64 x2)], .flat (.bool x3)] => some ((x1, x2), x3) | _ => none
noncomputable def limb_Short.j1000.fin (y : (Bool × Int × Int × Int × Int × Int × Int)) : Out U := match y with | (x7, x1, x2, x3, x4, x5, x6) => .norm ⟨[(1, .ptr 1 0), (2, .ptr 2 0), (11, .flat (.bool x7))], [(1, .lit [.flat (.int .u64 x1), .flat (.int .u64 x2), .flat (.int .u64 x3), .flat (.int .u64 x4)]), (2, .lit [.flat (.int .u64 x5), .flat (.int .u64 x6)])]⟩
noncomputable def limb_Short.j1000.finK {ρ : Type} (y : (Bool × Int × Int × Int × Int × Int × Int)) (K : Out U → Option ρ) : Option ρ := match y with | (x7, x1, x2, x3, x4, x5, x6) => K (.norm ⟨[(1, .ptr 1 0), (2, .ptr 2 0), (11, .flat (.bool x7))], [(1, .lit [.flat (.int .u64 x1), .flat (.int .u64 x2), .flat (.int .u64 x3), .flat (.int .u64 x4)]), (2, .lit [.flat (.int .u64 x5), .flat (.int .u64 x6)])]⟩)
theorem limb_Short.j1000.finK_eq {ρ : Type} (y : (Bool × Int × Int × Int × Int × Int × Int)) (K : Out U → Option ρ) : limb_Short.j1000.finK y K = K (limb_Short.j1000.fin y) := by
  unfold limb_Short.j1000.finK limb_Short.j1000.fin
  first | rfl | (split <;> rfl)
noncomputable def limb_Short.j1000.re : Out U → Option ((Bool × Int × Int × Int × Int × Int × Int)) | .norm s => (match s.get 1, s.get 2, s.get 11, lk s.o 1, lk s.o 2 with | .ptr 1 0, .ptr 2 0, .flat (.bool x7), some (.lit [.flat (.int .u64 x1), .flat (.int .u64 x2), .flat (.int .u64 x3), .flat (.int .u64 x4)]), some (.lit [.flat (.int .u64 x5), .flat (.int .u64 x6)]) => some (x7, x1, x2, x3, x4, x5, x6) | _, _, _, _, _ => none) | _ => none
noncomputable def limb_Short.j1000.J : JDen U := { Y := (Bool × Int × Int × Int × Int × Int × Int), re := limb_Short.j1000.re, fin := limb_Short.j1000.fin, finK := limb_Short.j1000.finK, finK_eq := limb_Short.j1000.finK_eq }
theorem limb_Short.j1000.fit (o : Out U) (y : (Bool × Int × Int × Int × Int × Int × Int)) (h : limb_Short.j1000.re o = some y) : FitsO o (limb_Short.j1000.fin y) := by
  unfold limb_Short.j1000.re at h
  split at h
  · split at h
    · cases h
      refine fitsO_norm (fits_ren [] ?_ ?_ ren_nil rfl)
      · exact List.forall_mem_cons.2 ⟨FV.same (by assumption) (fun _ _ _ hh => by cases hh) (fun _ hh => by cases hh), List.forall_mem_cons.2 ⟨FV.same (by assumption) (fun _ _ _ hh => by cases hh) (fun _ hh => by cases hh), List.forall_mem_cons.2 ⟨FV.same (by assumption) (fun _ _ _ hh => by cases hh) (fun _ hh => by cases hh), fun _ hp => (List.not_mem_nil hp).elim⟩⟩⟩
      · exact List.forall_mem_cons.2 ⟨(show lk (St.o _) 1 = some _ from by assumption), List.forall_mem_cons.2 ⟨(show lk (St.o _) 2 = some _ from by assumption), fun _ hp => (List.not_mem_nil hp).elim⟩⟩
    · cases h
  · cases h
noncomputable def limb_Short.jl : List (Nat × JDen U) := [(1000, limb_Short.j1000.J)]
noncomputable def limb_Short.fl (k : Nat) : List (Nat × FDen U) := []
noncomputable def limb_Short.ll (k : Nat) : List (Nat × LDen U) := []
noncomputable def limb_Short.E (k : Nat) : Env U := { P := Try.prog, D := DD, fd := lk (limb_Short.fl k), ld := lk (limb_Short.ll k), jd := lk limb_Short.jl, mode := lk [], elc := lk ec, dyn := fun t => false, vecs := fun d => false, results := Try.f29.results.toList }
theorem limb_Short.ok (k : Nat) : EnvOk (limb_Short.E k) := envOk lawful (limb_Short.fl k) (limb_Short.ll k) limb_Short.jl _ _ _ _ _ (by
  intro p hp
  simp [limb_Short.fl] at hp) (by
  intro p hp
  simp only [limb_Short.jl, List.mem_cons, List.not_mem_nil, or_false] at hp
  rcases hp with rfl
  · exact limb_Short.j1000.fit)
theorem limb_Short.eq (k : Nat) (x : (Int × Int × Int × Int)) : runF (limb_Short.E k) (codeOf Try.f29) (limb_Short.mk x) limb_Short.re = (limb_Short.D k).f x := by kernel_rfl
theorem limb_Short.sound (k : Nat) : Sound Try.prog DD 29 (limb_Short.D k) :=
  fun_sound (E := limb_Short.E k) (fn := Try.f29) (c := codeOf Try.f29) (limb_Short.ok k) mixed rfl Try.func29 (by kernel_rfl) (by kernel_rfl) (allL_of (l := []) (by kernel_rfl) allL_nil) (limb_Short.D k) limb_Short.mk limb_Short.re
    (by intro args x h; replace h : limb_Short.un args = some x := h; unfold limb_Short.un at h; split at h; · cases h; rfl
        · cases h)
    (by intro v y h; unfold limb_Short.re at h; split at h; · cases h; rfl
        · cases h)
    (fun _ => rfl) (fun x => Nat.le_of_ble_eq_true (by kernel_rfl)) (limb_Short.eq k)
/-! ### pyx/limb.Ten: function 28 -/
noncomputable def limb_Ten.l5.once (k : Nat) (x : (Int × Int × Int × Int × Int × Int)) : Option ((Int × Int × Int × Int × Int × Int) ⊕ ((Int × Int × Int × Int))) := match x with | (x11, x12, x7, x8, x9, x10) => cond (decide (x12 < x11)) ((limb_Of.f k 10).bind fun t13 => ((limb_Mul.f k (x9, x10) (t13.1, t13.2)).bind fun t14 => ((limb_Short.f k (t14.1, t14.2.1, t14.2.2.1, t14.2.2.2)).bind fun t15 => (some (.inl (x11, IntKind.wrap .i64 (x12 + 1), x7, x8, t15.1.1, t15.1.2)))))) (some (.inr (x7, x8, x9, x10)))
noncomputable def limb_Ten.f (k : Nat) (a0 : Int) : Option ((Int × Int) × Bool) := ((cond (decide (a0 < 0)) (some (a0, true, 0, 0)) (some (a0, decide (a0 > 38), 0, 0))) : Option (Int × Bool × Int × Int)).bind fun y5 => (cond (y5.2.1) (some ((0, 0), false)) ((limb_Of.f k 1).bind fun t6 => ((iter (limb_Ten.l5.once k) k (y5.1, 0, y5.2.2.1, y5.2.2.2, t6.1, t6.2)).bind fun y20 => (some ((y20.2.2.1, y20.2.2.2), true)))))
noncomputable def limb_Ten.un : List (AV U) → Option Int | [.flat (.int .i64 x1)] => some x1 | _ => none
noncomputable def limb_Ten.mk (x : Int) : List (AV U) := [.flat (.int .i64 x)]
noncomputable def limb_Ten.D (k : Nat) : FDen U := { X := Int, Y := ((Int × Int) × Bool), un := limb_Ten.un, f := fun x => limb_Ten.f k (x), fin := fun y => .tup [.agg [.flat (.int .u64 y.1.1), .flat (.int .u64 y.1.2)], .flat (.bool y.2)] }
noncomputable def limb_Ten.re : AV U → Option ((Int × Int) × Bool) | .tup [.agg [.flat (.int .u64 x1), .flat (.int .u64 x2)], .flat (.bool x3)] => some ((x1, x2), x3) | _ => none
noncomputable def limb_Ten.l5.mk (x : (Int × Int × Int × Int × Int × Int)) : St U := match x with | (x11, x12, x7, x8, x9, x10) => ⟨[(2, .ptr 2 0), (4, .ptr 4 0), (13, .flat (.int .i64 x11)), (14, .flat (.int .i64 x12))], [(2, .lit [.flat (.int .u64 x7), .flat (.int .u64 x8)]), (4, .lit [.flat (.int .u64 x9), .flat (.int .u64 x10)])]⟩
noncomputable def limb_Ten.l5.un (s : St U) : Option (Int × Int × Int × Int × Int × Int) := match s.get 2, s.get 4, s.get 13, s.get 14, lk s.o 2, lk s.o 4 with | .ptr 2 0, .ptr 4 0, .flat (.int .i64 x11), .flat (.int .i64 x12), some (.lit [.flat (.int .u64 x7), .flat (.int .u64 x8)]), some (.lit [.flat (.int .u64 x9), .flat (.int .u64 x10)]) => some (x11, x12, x7, x8, x9, x10) | _, _, _, _, _, _ => none
noncomputable def limb_Ten.l5.fin (y : (Int × Int × Int × Int)) : Out U := match y with | (x16, x17, x18, x19) => .exit 0 ⟨[(2, .ptr 2 0), (4, .ptr 4 0)], [(2, .lit [.flat (.int .u64 x16), .flat (.int .u64 x17)]), (4, .lit [.flat (.int .u64 x18), .flat (.int .u64 x19)])]⟩
noncomputable def limb_Ten.l5.finK {ρ : Type} (y : (Int × Int × Int × Int)) (K : Out U → Option ρ) : Option ρ := match y with | (x16, x17, x18, x19) => K (.exit 0 ⟨[(2, .ptr 2 0), (4, .ptr 4 0)], [(2, .lit [.flat (.int .u64 x16), .flat (.int .u64 x17)]), (4, .lit [.flat (.int .u64 x18), .flat (.int .u64 x19)])]⟩)
theorem limb_Ten.l5.finK_eq {ρ : Type} (y : (Int × Int × Int × Int)) (K : Out U → Option ρ) : limb_Ten.l5.finK y K = K (limb_Ten.l5.fin y) := by
  unfold limb_Ten.l5.finK limb_Ten.l5.fin
  first | rfl | (split <;> rfl)
noncomputable def limb_Ten.l5.re : Out U → Option ((Int × Int × Int × Int)) | .exit 0 s => (match s.get 2, s.get 4, lk s.o 2, lk s.o 4 with | .ptr 2 0, .ptr 4 0, some (.lit [.flat (.int .u64 x16), .flat (.int .u64 x17)]), some (.lit [.flat (.int .u64 x18), .flat (.int .u64 x19)]) => some (x16, x17, x18, x19) | _, _, _, _ => none) | _ => none
noncomputable def limb_Ten.l5.L (k : Nat) : LDen U := { X := (Int × Int × Int × Int × Int × Int), Y := (Int × Int × Int × Int), un := limb_Ten.l5.un, f := iter (limb_Ten.l5.once k) k, fin := limb_Ten.l5.fin, finK := limb_Ten.l5.finK, finK_eq := limb_Ten.l5.finK_eq }
noncomputable def limb_Ten.j1000.fin (y : (Int × Bool × Int × Int)) : Out U := match y with | (x1, x4, x2, x3) => .norm ⟨[(2, .ptr 2 0), (0, .flat (.int .i64 x1)), (10, .flat (.bool x4))], [(2, .lit [.flat (.int .u64 x2), .flat (.int .u64 x3)])]⟩
noncomputable def limb_Ten.j1000.finK {ρ : Type} (y : (Int × Bool × Int × Int)) (K : Out U → Option ρ) : Option ρ := match y with | (x1, x4, x2, x3) => K (.norm ⟨[(2, .ptr 2 0), (0, .flat (.int .i64 x1)), (10, .flat (.bool x4))], [(2, .lit [.flat (.int .u64 x2), .flat (.int .u64 x3)])]⟩)
theorem limb_Ten.j1000.finK_eq {ρ : Type} (y : (Int × Bool × Int × Int)) (K : Out U → Option ρ) : limb_Ten.j1000.finK y K = K (limb_Ten.j1000.fin y) := by
  unfold limb_Ten.j1000.finK limb_Ten.j1000.fin
  first | rfl | (split <;> rfl)
noncomputable def limb_Ten.j1000.re : Out U → Option ((Int × Bool × Int × Int)) | .norm s => (match s.get 2, s.get 0, s.get 10, lk s.o 2 with | .ptr 2 0, .flat (.int .i64 x1), .flat (.bool x4), some (.lit [.flat (.int .u64 x2), .flat (.int .u64 x3)]) => some (x1, x4, x2, x3) | _, _, _, _ => none) | _ => none
noncomputable def limb_Ten.j1000.J : JDen U := { Y := (Int × Bool × Int × Int), re := limb_Ten.j1000.re, fin := limb_Ten.j1000.fin, finK := limb_Ten.j1000.finK, finK_eq := limb_Ten.j1000.finK_eq }
theorem limb_Ten.j1000.fit (o : Out U) (y : (Int × Bool × Int × Int)) (h : limb_Ten.j1000.re o = some y) : FitsO o (limb_Ten.j1000.fin y) := by
  unfold limb_Ten.j1000.re at h
  split at h
  · split at h
    · cases h
      refine fitsO_norm (fits_ren [] ?_ ?_ ren_nil rfl)
      · exact List.forall_mem_cons.2 ⟨FV.same (by assumption) (fun _ _ _ hh => by cases hh) (fun _ hh => by cases hh), List.forall_mem_cons.2 ⟨FV.same (by assumption) (fun _ _ _ hh => by cases hh) (fun _ hh => by cases hh), List.forall_mem_cons.2 ⟨FV.same (by assumption) (fun _ _ _ hh => by cases hh) (fun _ hh => by cases hh), fun _ hp => (List.not_mem_nil hp).elim⟩⟩⟩
      · exact List.forall_mem_cons.2 ⟨(show lk (St.o _) 2 = some _ from by assumption), fun _ hp => (List.not_mem_nil hp).elim⟩
    · cases h
  · cases h
noncomputable def limb_Ten.jl : List (Nat × JDen U) := [(1000, limb_Ten.j1000.J)]
noncomputable def limb_Ten.fl (k : Nat) : List (Nat × FDen U) := [(26, limb_Of.D k), (25, limb_Mul.D k), (29, limb_Short.D k)]
noncomputable def limb_Ten.ll (k : Nat) : List (Nat × LDen U) := [(5, limb_Ten.l5.L k)]
noncomputable def limb_Ten.E (k : Nat) : Env U := { P := Try.prog, D := DD, fd := lk (limb_Ten.fl k), ld := lk (limb_Ten.ll k), jd := lk limb_Ten.jl, mode := lk [], elc := lk ec, dyn := fun t => false, vecs := fun d => false, results := Try.f28.results.toList }
theorem limb_Ten.ok (k : Nat) : EnvOk (limb_Ten.E k) := envOk lawful (limb_Ten.fl k) (limb_Ten.ll k) limb_Ten.jl _ _ _ _ _ (by
  intro p hp
  simp only [limb_Ten.fl, List.mem_cons, List.not_mem_nil, or_false] at hp
  rcases hp with rfl | rfl | rfl
  · exact ⟨limb_Of.sound k, enter_of Try.func26 (by kernel_rfl) (by kernel_rfl)⟩
  · exact ⟨limb_Mul.sound k, enter_of Try.func25 (by kernel_rfl) (by kernel_rfl)⟩
  · exact ⟨limb_Short.sound k, enter_of Try.func29 (by kernel_rfl) (by kernel_rfl)⟩) (by
  intro p hp
  simp only [limb_Ten.jl, List.mem_cons, List.not_mem_nil, or_false] at hp
  rcases hp with rfl
  · exact limb_Ten.j1000.fit)
theorem limb_Ten.l5.eq (k : Nat) (x : (Int × Int × Int × Int × Int × Int)) : evC (limb_Ten.E k) (loopAt Try.f28 5) (limb_Ten.l5.mk x) (headK limb_Ten.l5.un limb_Ten.l5.re) = limb_Ten.l5.once k x := by kernel_rfl
theorem limb_Ten.l5.fit (s : St U) (x : (Int × Int × Int × Int × Int × Int)) (h : limb_Ten.l5.un s = some x) : Fits s (limb_Ten.l5.mk x) := by
  unfold limb_Ten.l5.un at h
  split at h
  · cases h
    refine fits_ren [] ?_ ?_ ren_nil rfl
    · exact List.forall_mem_cons.2 ⟨FV.same (by assumption) (fun _ _ _ hh => by cases hh) (fun _ hh => by cases hh), List.forall_mem_cons.2 ⟨FV.same (by assumption) (fun _ _ _ hh => by cases hh) (fun _ hh => by cases hh), List.forall_mem_cons.2 ⟨FV.same (by assumption) (fun _ _ _ hh => by cases hh) (fun _ hh => by cases hh), List.forall_mem_cons.2 ⟨FV.same (by assumption) (fun _ _ _ hh => by cases hh) (fun _ hh => by cases hh), fun _ hp => (List.not_mem_nil hp).elim⟩⟩⟩⟩
    · exact List.forall_mem_cons.2 ⟨(show lk (St.o _) 2 = some _ from by assumption), List.forall_mem_cons.2 ⟨(show lk (St.o _) 4 = some _ from by assumption), fun _ hp => (List.not_mem_nil hp).elim⟩⟩
  · cases h
theorem limb_Ten.l5.fitO (o : Out U) (y : (Int × Int × Int × Int)) (h : limb_Ten.l5.re o = some y) : FitsO o (limb_Ten.l5.fin y) := by
  unfold limb_Ten.l5.re at h
  split at h
  · split at h
    · cases h
      refine fitsO_exit (fits_ren [] ?_ ?_ ren_nil rfl)
      · exact List.forall_mem_cons.2 ⟨FV.same (by assumption) (fun _ _ _ hh => by cases hh) (fun _ hh => by cases hh), List.forall_mem_cons.2 ⟨FV.same (by assumption) (fun _ _ _ hh => by cases hh) (fun _ hh => by cases hh), fun _ hp => (List.not_mem_nil hp).elim⟩⟩
      · exact List.forall_mem_cons.2 ⟨(show lk (St.o _) 2 = some _ from by assumption), List.forall_mem_cons.2 ⟨(show lk (St.o _) 4 = some _ from by assumption), fun _ hp => (List.not_mem_nil hp).elim⟩⟩
    · cases h
  · cases h
theorem limb_Ten.l5.sound (k : Nat) : LSound (limb_Ten.E k) Try.f28.ntmps Try.f28 (loopAt Try.f28 5) (limb_Ten.l5.L k) :=
  loop_sound (limb_Ten.ok k) mixed rfl (by kernel_rfl) (allL_of (l := []) (by kernel_rfl) allL_nil) limb_Ten.l5.un limb_Ten.l5.mk limb_Ten.l5.fin limb_Ten.l5.re (limb_Ten.l5.once k) k limb_Ten.l5.fit limb_Ten.l5.fitO (limb_Ten.l5.eq k) limb_Ten.l5.finK limb_Ten.l5.finK_eq
theorem limb_Ten.eq (k : Nat) (x : Int) : runF (limb_Ten.E k) (codeOf Try.f28) (limb_Ten.mk x) limb_Ten.re = (limb_Ten.D k).f x := by kernel_rfl
theorem limb_Ten.sound (k : Nat) : Sound Try.prog DD 28 (limb_Ten.D k) :=
  fun_sound (E := limb_Ten.E k) (fn := Try.f28) (c := codeOf Try.f28) (limb_Ten.ok k) mixed rfl Try.func28 (by kernel_rfl) (by kernel_rfl) (allL_of (l := [loopAt Try.f28 5]) (by kernel_rfl) (allL_cons (key := 5) (by kernel_rfl) rfl (limb_Ten.l5.sound k) allL_nil)) (limb_Ten.D k) limb_Ten.mk limb_Ten.re
    (by intro args x h; replace h : limb_Ten.un args = some x := h; unfold limb_Ten.un at h; split at h; · cases h; rfl
        · cases h)
    (by intro v y h; unfold limb_Ten.re at h; split at h; · cases h; rfl
        · cases h)
    (fun _ => rfl) (fun x => Nat.le_of_ble_eq_true (by kernel_rfl)) (limb_Ten.eq k)
/-! ### pyx/pyxlaw1.LimbTens: function 6 -/
noncomputable def pyxlaw1_LimbTens.f (k : Nat) (a0 : Int) (a1 : Int) (a2 : Int) : Option Bool := (pyxhand_Pick.f k a0 20).bind fun t1 => ((pyxhand_Pick.f k a1 19).bind fun t2 => ((limb_Ten.f k t1).bind fun t3 => ((limb_Ten.f k t2).bind fun t4 => ((limb_Ten.f k (IntKind.wrap .i64 (t1 + t2))).bind fun t5 => ((limb_Ten.f k (IntKind.wrap .i64 (t1 + 1))).bind fun t6 => ((((pyxlaw1_known.f k).bind fun t7 => (cond (!t7) (some (a2, true, t3.1.1, t3.1.2)) (cond (!t3.2) (some (a2, true, t3.1.1, t3.1.2)) (cond (!t4.2) (some (a2, true, t3.1.1, t3.1.2)) (cond (!t5.2) (some (a2, true, t3.1.1, t3.1.2)) (cond (!t6.2) (some (a2, true, t3.1.1, t3.1.2)) ((limb_Mul.f k (t3.1.1, t3.1.2) (t4.1.1, t4.1.2)).bind fun t12 => ((limb_Wide.f k (t5.1.1, t5.1.2)).bind fun t13 => (cond (!((t12.1 == t13.1) && ((t12.2.1 == t13.2.1) && ((t12.2.2.1 == t13.2.2.1) && (t12.2.2.2 == t13.2.2.2))))) (some (a2, true, t3.1.1, t3.1.2)) ((limb_Of.f k 10).bind fun t14 => ((limb_Mul.f k (t3.1.1, t3.1.2) (t14.1, t14.2)).bind fun t15 => ((limb_Wide.f k (t6.1.1, t6.1.2)).bind fun t16 => (some (a2, !((t15.1 == t16.1) && ((t15.2.1 == t16.2.1) && ((t15.2.2.1 == t16.2.2.1) && (t15.2.2.2 == t16.2.2.2)))), t3.1.1, t3.1.2)))))))))))))) : Option (Int × Bool × Int × Int)).bind fun y17 => (cond (y17.2.1) (some false) ((limb_Of.f k y17.1).bind fun t18 => ((limb_Mul.f k (t18.1, t18.2) (y17.2.2.1, y17.2.2.2)).bind fun t19 => ((limb_Div.f k (t19.1, t19.2.1, t19.2.2.1, t19.2.2.2) (y17.2.2.1, y17.2.2.2)).bind fun t20 => (cond (t20.2.2) ((limb_Of.f k y17.1).bind fun t21 => ((limb_Wide.f k (t21.1, t21.2)).bind fun t22 => (cond ((t20.1.1 == t22.1) && ((t20.1.2.1 == t22.2.1) && ((t20.1.2.2.1 == t22.2.2.1) && (t20.1.2.2.2 == t22.2.2.2)))) (some ((t20.2.1.1 == 0) && (t20.2.1.2 == 0))) (some false)))) (some false))))))))))))
noncomputable def pyxlaw1_LimbTens.un : List (AV U) → Option (Int × Int × Int) | [.flat (.int .i64 x1), .flat (.int .i64 x2), .flat (.int .u64 x3)] => some (x1, x2, x3) | _ => none
noncomputable def pyxlaw1_LimbTens.mk (x : (Int × Int × Int)) : List (AV U) := [.flat (.int .i64 x.1), .flat (.int .i64 x.2.1), .flat (.int .u64 x.2.2)]
noncomputable def pyxlaw1_LimbTens.D (k : Nat) : FDen U := { X := (Int × Int × Int), Y := Bool, un := pyxlaw1_LimbTens.un, f := fun x => pyxlaw1_LimbTens.f k (x.1) (x.2.1) (x.2.2), fin := fun y => .flat (.bool y) }
noncomputable def pyxlaw1_LimbTens.re : AV U → Option Bool | .flat (.bool x1) => some x1 | _ => none
noncomputable def pyxlaw1_LimbTens.j7000.fin (y : (Int × Bool × Int × Int)) : Out U := match y with | (x8, x11, x9, x10) => .norm ⟨[(7, .ptr 7 0), (2, .flat (.int .u64 x8)), (79, .flat (.bool x11))], [(7, .lit [.flat (.int .u64 x9), .flat (.int .u64 x10)])]⟩
noncomputable def pyxlaw1_LimbTens.j7000.finK {ρ : Type} (y : (Int × Bool × Int × Int)) (K : Out U → Option ρ) : Option ρ := match y with | (x8, x11, x9, x10) => K (.norm ⟨[(7, .ptr 7 0), (2, .flat (.int .u64 x8)), (79, .flat (.bool x11))], [(7, .lit [.flat (.int .u64 x9), .flat (.int .u64 x10)])]⟩)
theorem pyxlaw1_LimbTens.j7000.finK_eq {ρ : Type} (y : (Int × Bool × Int × Int)) (K : Out U → Option ρ) : pyxlaw1_LimbTens.j7000.finK y K = K (pyxlaw1_LimbTens.j7000.fin y) := by
  unfold pyxlaw1_LimbTens.j7000.finK pyxlaw1_LimbTens.j7000.fin
  first | rfl | (split <;> rfl)
noncomputable def pyxlaw1_LimbTens.j7000.re : Out U → Option ((Int × Bool × Int × Int)) | .norm s => (match s.get 7, s.get 2, s.get 79, lk s.o 7 with | .ptr 7 0, .flat (.int .u64 x8), .flat (.bool x11), some (.lit [.flat (.int .u64 x9), .flat (.int .u64 x10)]) => some (x8, x11, x9, x10) | _, _, _, _ => none) | _ => none
noncomputable def pyxlaw1_LimbTens.j7000.J : JDen U := { Y := (Int × Bool × Int × Int), re := pyxlaw1_LimbTens.j7000.re, fin := pyxlaw1_LimbTens.j7000.fin, finK := pyxlaw1_LimbTens.j7000.finK, finK_eq := pyxlaw1_LimbTens.j7000.finK_eq }
theorem pyxlaw1_LimbTens.j7000.fit (o : Out U) (y : (Int × Bool × Int × Int)) (h : pyxlaw1_LimbTens.j7000.re o = some y) : FitsO o (pyxlaw1_LimbTens.j7000.fin y) := by
  unfold pyxlaw1_LimbTens.j7000.re at h
  split at h
  · split at h
    · cases h
      refine fitsO_norm (fits_ren [] ?_ ?_ ren_nil rfl)
      · exact List.forall_mem_cons.2 ⟨FV.same (by assumption) (fun _ _ _ hh => by cases hh) (fun _ hh => by cases hh), List.forall_mem_cons.2 ⟨FV.same (by assumption) (fun _ _ _ hh => by cases hh) (fun _ hh => by cases hh), List.forall_mem_cons.2 ⟨FV.same (by assumption) (fun _ _ _ hh => by cases hh) (fun _ hh => by cases hh), fun _ hp => (List.not_mem_nil hp).elim⟩⟩⟩
      · exact List.forall_mem_cons.2 ⟨(show lk (St.o _) 7 = some _ from by assumption), fun _ hp => (List.not_mem_nil hp).elim⟩
    · cases h
  · cases h
noncomputable def pyxlaw1_LimbTens.jl : List (Nat × JDen U) := [(7000, pyxlaw1_LimbTens.j7000.J)]
noncomputable def pyxlaw1_LimbTens.fl (k : Nat) : List (Nat × FDen U) := [(21, pyxhand_Pick.D k), (28, limb_Ten.D k), (17, pyxlaw1_known.D k), (25, limb_Mul.D k), (20, limb_Wide.D k), (26, limb_Of.D k), (27, limb_Div.D k)]
noncomputable def pyxlaw1_LimbTens.ll (k : Nat) : List (Nat × LDen U) := []
noncomputable def pyxlaw1_LimbTens.E (k : Nat) : Env U := { P := Try.prog, D := DD, fd := lk (pyxlaw1_LimbTens.fl k), ld := lk (pyxlaw1_LimbTens.ll k), jd := lk pyxlaw1_LimbTens.jl, mode := lk [], elc := lk ec, dyn := fun t => false, vecs := fun d => false, results := Try.f6.results.toList }
theorem pyxlaw1_LimbTens.ok (k : Nat) : EnvOk (pyxlaw1_LimbTens.E k) := envOk lawful (pyxlaw1_LimbTens.fl k) (pyxlaw1_LimbTens.ll k) pyxlaw1_LimbTens.jl _ _ _ _ _ (by
  intro p hp
  simp only [pyxlaw1_LimbTens.fl, List.mem_cons, List.not_mem_nil, or_false] at hp
  rcases hp with rfl | rfl | rfl | rfl | rfl | rfl | rfl
  · exact ⟨pyxhand_Pick.sound k, enter_of Try.func21 (by kernel_rfl) (by kernel_rfl)⟩
  · exact ⟨limb_Ten.sound k, enter_of Try.func28 (by kernel_rfl) (by kernel_rfl)⟩
  · exact ⟨pyxlaw1_known.sound k, enter_of Try.func17 (by kernel_rfl) (by kernel_rfl)⟩
  · exact ⟨limb_Mul.sound k, enter_of Try.func25 (by kernel_rfl) (by kernel_rfl)⟩
  · exact ⟨limb_Wide.sound k, enter_of Try.func20 (by kernel_rfl) (by kernel_rfl)⟩
  · exact ⟨limb_Of.sound k, enter_of Try.func26 (by kernel_rfl) (by kernel_rfl)⟩
  · exact ⟨limb_Div.sound k, enter_of Try.func27 (by kernel_rfl) (by kernel_rfl)⟩) (by
  intro p hp
  simp only [pyxlaw1_LimbTens.jl, List.mem_cons, List.not_mem_nil, or_false] at hp
  rcases hp with rfl
  · exact pyxlaw1_LimbTens.j7000.fit)
theorem pyxlaw1_LimbTens.eq (k : Nat) (x : (Int × Int × Int)) : runF (pyxlaw1_LimbTens.E k) (codeOf Try.f6) (pyxlaw1_LimbTens.mk x) pyxlaw1_LimbTens.re = (pyxlaw1_LimbTens.D k).f x := by kernel_rfl
theorem pyxlaw1_LimbTens.sound (k : Nat) : Sound Try.prog DD 6 (pyxlaw1_LimbTens.D k) :=
  fun_sound (E := pyxlaw1_LimbTens.E k) (fn := Try.f6) (c := codeOf Try.f6) (pyxlaw1_LimbTens.ok k) mixed rfl Try.func6 (by kernel_rfl) (by kernel_rfl) (allL_of (l := []) (by kernel_rfl) allL_nil) (pyxlaw1_LimbTens.D k) pyxlaw1_LimbTens.mk pyxlaw1_LimbTens.re
    (by intro args x h; replace h : pyxlaw1_LimbTens.un args = some x := h; unfold pyxlaw1_LimbTens.un at h; split at h; · cases h; rfl
        · cases h)
    (by intro v y h; unfold pyxlaw1_LimbTens.re at h; split at h; · cases h; rfl
        · cases h)
    (fun _ => rfl) (fun x => Nat.le_of_ble_eq_true (by kernel_rfl)) (pyxlaw1_LimbTens.eq k)
/-! ### pyx/pyxref1.Word: function 67 -/
noncomputable def pyxref1_Word.l2.once (k : Nat) (x : (Int × List Int)) : Option ((Int × List Int) ⊕ (List Int)) := match x with | (x1, x2) => cond (decide (x1 > 0)) (cond (okLen (List.length x2 + List.length [IntKind.wrap .i64 (Int.tmod x1 10)]) 8) (some (.inl (IntKind.wrap .u64 (Int.tdiv x1 10), x2 ++ [IntKind.wrap .i64 (Int.tmod x1 10)]))) none) (some (.inr x2))
noncomputable def pyxref1_Word.f (k : Nat) (a0 : Int) : Option (List Int) := (iter (pyxref1_Word.l2.once k) k (a0, ([] : List Int))).bind fun y4 => (some y4)
noncomputable def pyxref1_Word.un : List (AV U) → Option Int | [.flat (.int .u64 x1)] => some x1 | _ => none
noncomputable def pyxref1_Word.mk (x : Int) : List (AV U) := [.flat (.int .u64 x)]
noncomputable def pyxref1_Word.D (k : Nat) : FDen U := { X := Int, Y := List Int, un := pyxref1_Word.un, f := fun x => pyxref1_Word.f k (x), fin := fun y => .row C.i64 y }
noncomputable def pyxref1_Word.re : AV U → Option (List Int) | .row C.i64 x1 => some x1 | _ => none
noncomputable def pyxref1_Word.l2.mk (x : (Int × List Int)) : St U := match x with | (x1, x2) => ⟨[(0, .flat (.int .u64 x1)), (3, .tip 1002003 C.i64 x2)], [(1002003, .tip 1)]⟩
noncomputable def pyxref1_Word.l2.un (s : St U) : Option (Int × List Int) := (tip_i64 s.o 1 (s.get 3)).bind fun q0 => (match s.get 0 with | .flat (.int .u64 x1) => some (x1, q0.2) | _ => none)
noncomputable def pyxref1_Word.l2.fin (y : List Int) : Out U := match y with | x3 => .exit 0 ⟨[(3, .tip 1002003 C.i64 x3)], [(1002003, .tip 1)]⟩
noncomputable def pyxref1_Word.l2.finK {ρ : Type} (y : List Int) (K : Out U → Option ρ) : Option ρ := match y with | x3 => K (.exit 0 ⟨[(3, .tip 1002003 C.i64 x3)], [(1002003, .tip 1)]⟩)
theorem pyxref1_Word.l2.finK_eq {ρ : Type} (y : List Int) (K : Out U → Option ρ) : pyxref1_Word.l2.finK y K = K (pyxref1_Word.l2.fin y) := by
  unfold pyxref1_Word.l2.finK pyxref1_Word.l2.fin
  first | rfl | (split <;> rfl)
noncomputable def pyxref1_Word.l2.re : Out U → Option (List Int) | .exit 0 s => ((tip_i64 s.o 1 (s.get 3)).bind fun q0 => (some q0.2)) | _ => none
noncomputable def pyxref1_Word.l2.L (k : Nat) : LDen U := { X := (Int × List Int), Y := List Int, un := pyxref1_Word.l2.un, f := iter (pyxref1_Word.l2.once k) k, fin := pyxref1_Word.l2.fin, finK := pyxref1_Word.l2.finK, finK_eq := pyxref1_Word.l2.finK_eq }
noncomputable def pyxref1_Word.jl : List (Nat × JDen U) := []
noncomputable def pyxref1_Word.fl (k : Nat) : List (Nat × FDen U) := []
noncomputable def pyxref1_Word.ll (k : Nat) : List (Nat × LDen U) := [(2, pyxref1_Word.l2.L k)]
noncomputable def pyxref1_Word.E (k : Nat) : Env U := { P := Try.prog, D := DD, fd := lk (pyxref1_Word.fl k), ld := lk (pyxref1_Word.ll k), jd := lk pyxref1_Word.jl, mode := lk [], elc := lk ec, dyn := fun t => false, vecs := fun d => false, results := Try.f67.results.toList }
theorem pyxref1_Word.ok (k : Nat) : EnvOk (pyxref1_Word.E k) := envOk lawful (pyxref1_Word.fl k) (pyxref1_Word.ll k) pyxref1_Word.jl _ _ _ _ _ (by
  intro p hp
  simp [pyxref1_Word.fl] at hp) (by
  intro p hp
  simp [pyxref1_Word.jl] at hp)
theorem pyxref1_Word.l2.eq (k : Nat) (x : (Int × List Int)) : evC (pyxref1_Word.E k) (loopAt Try.f67 2) (pyxref1_Word.l2.mk x) (headK pyxref1_Word.l2.un pyxref1_Word.l2.re) = pyxref1_Word.l2.once k x := by kernel_rfl
theorem pyxref1_Word.l2.fit (s : St U) (x : (Int × List Int)) (h : pyxref1_Word.l2.un s = some x) : Fits s (pyxref1_Word.l2.mk x) := by
  unfold pyxref1_Word.l2.un at h
  obtain ⟨q0, eq0, h1⟩ := Option.bind_eq_some_iff.1 h
  split at h1
  · cases h1
    refine fits_ren [(1002003, q0.1)] ?_ ?_ ren_one rfl
    · exact List.forall_mem_cons.2 ⟨FV.same (by assumption) (fun _ _ _ hh => by cases hh) (fun _ hh => by cases hh), List.forall_mem_cons.2 ⟨(tip_i64_fit eq0 rfl).1, fun _ hp => (List.not_mem_nil hp).elim⟩⟩
    · exact List.forall_mem_cons.2 ⟨(tip_i64_fit eq0 rfl).2, fun _ hp => (List.not_mem_nil hp).elim⟩
  · cases h1
theorem pyxref1_Word.l2.fitO (o : Out U) (y : List Int) (h : pyxref1_Word.l2.re o = some y) : FitsO o (pyxref1_Word.l2.fin y) := by
  unfold pyxref1_Word.l2.re at h
  split at h
  · obtain ⟨q0, eq0, h1⟩ := Option.bind_eq_some_iff.1 h
    cases h1
    refine fitsO_exit (fits_ren [(1002003, q0.1)] ?_ ?_ ren_one rfl)
    · exact List.forall_mem_cons.2 ⟨(tip_i64_fit eq0 rfl).1, fun _ hp => (List.not_mem_nil hp).elim⟩
    · exact List.forall_mem_cons.2 ⟨(tip_i64_fit eq0 rfl).2, fun _ hp => (List.not_mem_nil hp).elim⟩
  · cases h
theorem pyxref1_Word.l2.sound (k : Nat) : LSound (pyxref1_Word.E k) Try.f67.ntmps Try.f67 (loopAt Try.f67 2) (pyxref1_Word.l2.L k) :=
  loop_sound (pyxref1_Word.ok k) mixed rfl (by kernel_rfl) (allL_of (l := []) (by kernel_rfl) allL_nil) pyxref1_Word.l2.un pyxref1_Word.l2.mk pyxref1_Word.l2.fin pyxref1_Word.l2.re (pyxref1_Word.l2.once k) k pyxref1_Word.l2.fit pyxref1_Word.l2.fitO (pyxref1_Word.l2.eq k) pyxref1_Word.l2.finK pyxref1_Word.l2.finK_eq
theorem pyxref1_Word.eq (k : Nat) (x : Int) : runF (pyxref1_Word.E k) (codeOf Try.f67) (pyxref1_Word.mk x) pyxref1_Word.re = (pyxref1_Word.D k).f x := by kernel_rfl
theorem pyxref1_Word.sound (k : Nat) : Sound Try.prog DD 67 (pyxref1_Word.D k) :=
  fun_sound (E := pyxref1_Word.E k) (fn := Try.f67) (c := codeOf Try.f67) (pyxref1_Word.ok k) mixed rfl Try.func67 (by kernel_rfl) (by kernel_rfl) (allL_of (l := [loopAt Try.f67 2]) (by kernel_rfl) (allL_cons (key := 2) (by kernel_rfl) rfl (pyxref1_Word.l2.sound k) allL_nil)) (pyxref1_Word.D k) pyxref1_Word.mk pyxref1_Word.re
    (by intro args x h; replace h : pyxref1_Word.un args = some x := h; unfold pyxref1_Word.un at h; split at h; · cases h; rfl
        · cases h)
    (by intro v y h; unfold pyxref1_Word.re at h; split at h; · cases h; rfl
        · cases h)
    (fun _ => rfl) (fun x => Nat.le_of_ble_eq_true (by kernel_rfl)) (pyxref1_Word.eq k)
/-! ### pyx/pyxref1.digit: function 70 -/
noncomputable def pyxref1_digit.f (k : Nat) (a0 : List Int) (a1 : Int) : Option Int := cond (decide (a1 < (List.length a0 : Int))) (cond (inb a1 (List.length a0)) (some (List.getD a0 (Int.toNat a1) 0)) none) (some 0)
noncomputable def pyxref1_digit.un : List (AV U) → Option (List Int × Int) | [.row C.i64 x1, .flat (.int .i64 x2)] => some (x1, x2) | _ => none
noncomputable def pyxref1_digit.mk (x : (List Int × Int)) : List (AV U) := [.row C.i64 x.1, .flat (.int .i64 x.2)]
noncomputable def pyxref1_digit.D (k : Nat) : FDen U := { X := (List Int × Int), Y := Int, un := pyxref1_digit.un, f := fun x => pyxref1_digit.f k (x.1) (x.2), fin := fun y => .flat (.int .i64 y) }
noncomputable def pyxref1_digit.re : AV U → Option Int | .flat (.int .i64 x1) => some x1 | _ => none
noncomputable def pyxref1_digit.jl : List (Nat × JDen U) := []
noncomputable def pyxref1_digit.fl (k : Nat) : List (Nat × FDen U) := []
noncomputable def pyxref1_digit.ll (k : Nat) : List (Nat × LDen U) := []
noncomputable def pyxref1_digit.E (k : Nat) : Env U := { P := Try.prog, D := DD, fd := lk (pyxref1_digit.fl k), ld := lk (pyxref1_digit.ll k), jd := lk pyxref1_digit.jl, mode := lk [], elc := lk ec, dyn := fun t => false, vecs := fun d => false, results := Try.f70.results.toList }
theorem pyxref1_digit.ok (k : Nat) : EnvOk (pyxref1_digit.E k) := envOk lawful (pyxref1_digit.fl k) (pyxref1_digit.ll k) pyxref1_digit.jl _ _ _ _ _ (by
  intro p hp
  simp [pyxref1_digit.fl] at hp) (by
  intro p hp
  simp [pyxref1_digit.jl] at hp)
theorem pyxref1_digit.eq (k : Nat) (x : (List Int × Int)) : runF (pyxref1_digit.E k) (codeOf Try.f70) (pyxref1_digit.mk x) pyxref1_digit.re = (pyxref1_digit.D k).f x := by kernel_rfl
theorem pyxref1_digit.sound (k : Nat) : Sound Try.prog DD 70 (pyxref1_digit.D k) :=
  fun_sound (E := pyxref1_digit.E k) (fn := Try.f70) (c := codeOf Try.f70) (pyxref1_digit.ok k) mixed rfl Try.func70 (by kernel_rfl) (by kernel_rfl) (allL_of (l := []) (by kernel_rfl) allL_nil) (pyxref1_digit.D k) pyxref1_digit.mk pyxref1_digit.re
    (by intro args x h; replace h : pyxref1_digit.un args = some x := h; unfold pyxref1_digit.un at h; split at h; · cases h; rfl
        · cases h)
    (by intro v y h; unfold pyxref1_digit.re at h; split at h; · cases h; rfl
        · cases h)
    (fun _ => rfl) (fun x => Nat.le_of_ble_eq_true (by kernel_rfl)) (pyxref1_digit.eq k)
/-! ### pyx/pyxref1.trim: function 71 -/
noncomputable def pyxref1_trim.l1.once (k : Nat) (x : List Int) : Option ((List Int) ⊕ (List Int)) := match x with | x1 => ((cond (decide ((List.length x1 : Int) > 0)) (cond (inb (IntKind.wrap .i64 ((List.length x1 : Int) - 1)) (List.length x1)) (some (x1, (List.getD x1 (Int.toNat (IntKind.wrap .i64 ((List.length x1 : Int) - 1))) 0) == 0)) none) (some (x1, false))) : Option (List Int × Bool)).bind fun y4 => (cond (y4.2) (cond (inS 0 (IntKind.wrap .i64 ((List.length y4.1 : Int) - 1)) (List.length y4.1)) (some (.inl (List.take (Int.toNat (IntKind.wrap .i64 ((List.length y4.1 : Int) - 1))) y4.1))) none) (some (.inr y4.1)))
noncomputable def pyxref1_trim.f (k : Nat) (a0 : List Int) : Option (List Int) := (iter (pyxref1_trim.l1.once k) k a0).bind fun y6 => (some y6)
noncomputable def pyxref1_trim.un : List (AV U) → Option (List Int) | [.row C.i64 x1] => some x1 | _ => none
noncomputable def pyxref1_trim.mk (x : List Int) : List (AV U) := [.row C.i64 x]
noncomputable def pyxref1_trim.D (k : Nat) : FDen U := { X := List Int, Y := List Int, un := pyxref1_trim.un, f := fun x => pyxref1_trim.f k (x), fin := fun y => .row C.i64 y }
noncomputable def pyxref1_trim.re : AV U → Option (List Int) | .row C.i64 x1 => some x1 | _ => none
noncomputable def pyxref1_trim.l1.mk (x : List Int) : St U := match x with | x1 => ⟨[(0, .row C.i64 x1)], []⟩
noncomputable def pyxref1_trim.l1.un (s : St U) : Option (List Int) := (row_i64 (s.get 0)).bind fun q0 => (some q0)
noncomputable def pyxref1_trim.l1.fin (y : List Int) : Out U := match y with | x5 => .exit 0 ⟨[(0, .row C.i64 x5)], []⟩
noncomputable def pyxref1_trim.l1.finK {ρ : Type} (y : List Int) (K : Out U → Option ρ) : Option ρ := match y with | x5 => K (.exit 0 ⟨[(0, .row C.i64 x5)], []⟩)
theorem pyxref1_trim.l1.finK_eq {ρ : Type} (y : List Int) (K : Out U → Option ρ) : pyxref1_trim.l1.finK y K = K (pyxref1_trim.l1.fin y) := by
  unfold pyxref1_trim.l1.finK pyxref1_trim.l1.fin
  first | rfl | (split <;> rfl)
noncomputable def pyxref1_trim.l1.re : Out U → Option (List Int) | .exit 0 s => ((row_i64 (s.get 0)).bind fun q0 => (some q0)) | _ => none
noncomputable def pyxref1_trim.l1.L (k : Nat) : LDen U := { X := List Int, Y := List Int, un := pyxref1_trim.l1.un, f := iter (pyxref1_trim.l1.once k) k, fin := pyxref1_trim.l1.fin, finK := pyxref1_trim.l1.finK, finK_eq := pyxref1_trim.l1.finK_eq }
noncomputable def pyxref1_trim.j1000.fin (y : (List Int × Bool)) : Out U := match y with | (x2, x3) => .norm ⟨[(0, .row C.i64 x2), (14, .flat (.bool x3))], []⟩
noncomputable def pyxref1_trim.j1000.finK {ρ : Type} (y : (List Int × Bool)) (K : Out U → Option ρ) : Option ρ := match y with | (x2, x3) => K (.norm ⟨[(0, .row C.i64 x2), (14, .flat (.bool x3))], []⟩)
theorem pyxref1_trim.j1000.finK_eq {ρ : Type} (y : (List Int × Bool)) (K : Out U → Option ρ) : pyxref1_trim.j1000.finK y K = K (pyxref1_trim.j1000.fin y) := by
  unfold pyxref1_trim.j1000.finK pyxref1_trim.j1000.fin
  first | rfl | (split <;> rfl)
noncomputable def pyxref1_trim.j1000.re : Out U → Option ((List Int × Bool)) | .norm s => ((row_i64 (s.get 0)).bind fun q0 => (match s.get 14 with | .flat (.bool x3) => some (q0, x3) | _ => none)) | _ => none
noncomputable def pyxref1_trim.j1000.J : JDen U := { Y := (List Int × Bool), re := pyxref1_trim.j1000.re, fin := pyxref1_trim.j1000.fin, finK := pyxref1_trim.j1000.finK, finK_eq := pyxref1_trim.j1000.finK_eq }
theorem pyxref1_trim.j1000.fit (o : Out U) (y : (List Int × Bool)) (h : pyxref1_trim.j1000.re o = some y) : FitsO o (pyxref1_trim.j1000.fin y) := by
  unfold pyxref1_trim.j1000.re at h
  split at h
  · obtain ⟨q0, eq0, h1⟩ := Option.bind_eq_some_iff.1 h
    split at h1
    · cases h1
      refine fitsO_norm (fits_ren [] ?_ ?_ ren_nil rfl)
      · exact List.forall_mem_cons.2 ⟨row_i64_fit eq0, List.forall_mem_cons.2 ⟨FV.same (by assumption) (fun _ _ _ hh => by cases hh) (fun _ hh => by cases hh), fun _ hp => (List.not_mem_nil hp).elim⟩⟩
      · exact fun _ hp => (List.not_mem_nil hp).elim
    · cases h1
  · cases h
noncomputable def pyxref1_trim.jl : List (Nat × JDen U) := [(1000, pyxref1_trim.j1000.J)]
noncomputable def pyxref1_trim.fl (k : Nat) : List (Nat × FDen U) := []
noncomputable def pyxref1_trim.ll (k : Nat) : List (Nat × LDen U) := [(1, pyxref1_trim.l1.L k)]
noncomputable def pyxref1_trim.E (k : Nat) : Env U := { P := Try.prog, D := DD, fd := lk (pyxref1_trim.fl k), ld := lk (pyxref1_trim.ll k), jd := lk pyxref1_trim.jl, mode := lk [], elc := lk ec, dyn := fun t => false, vecs := fun d => false, results := Try.f71.results.toList }
theorem pyxref1_trim.ok (k : Nat) : EnvOk (pyxref1_trim.E k) := envOk lawful (pyxref1_trim.fl k) (pyxref1_trim.ll k) pyxref1_trim.jl _ _ _ _ _ (by
  intro p hp
  simp [pyxref1_trim.fl] at hp) (by
  intro p hp
  simp only [pyxref1_trim.jl, List.mem_cons, List.not_mem_nil, or_false] at hp
  rcases hp with rfl
  · exact pyxref1_trim.j1000.fit)
theorem pyxref1_trim.l1.eq (k : Nat) (x : List Int) : evC (pyxref1_trim.E k) (loopAt Try.f71 1) (pyxref1_trim.l1.mk x) (headK pyxref1_trim.l1.un pyxref1_trim.l1.re) = pyxref1_trim.l1.once k x := by kernel_rfl
theorem pyxref1_trim.l1.fit (s : St U) (x : List Int) (h : pyxref1_trim.l1.un s = some x) : Fits s (pyxref1_trim.l1.mk x) := by
  unfold pyxref1_trim.l1.un at h
  obtain ⟨q0, eq0, h1⟩ := Option.bind_eq_some_iff.1 h
  cases h1
  refine fits_ren [] ?_ ?_ ren_nil rfl
  · exact List.forall_mem_cons.2 ⟨row_i64_fit eq0, fun _ hp => (List.not_mem_nil hp).elim⟩
  · exact fun _ hp => (List.not_mem_nil hp).elim
theorem pyxref1_trim.l1.fitO (o : Out U) (y : List Int) (h : pyxref1_trim.l1.re o = some y) : FitsO o (pyxref1_trim.l1.fin y) := by
  unfold pyxref1_trim.l1.re at h
  split at h
  · obtain ⟨q0, eq0, h1⟩ := Option.bind_eq_some_iff.1 h
    cases h1
    refine fitsO_exit (fits_ren [] ?_ ?_ ren_nil rfl)
    · exact List.forall_mem_cons.2 ⟨row_i64_fit eq0, fun _ hp => (List.not_mem_nil hp).elim⟩
    · exact fun _ hp => (List.not_mem_nil hp).elim
  · cases h
theorem pyxref1_trim.l1.sound (k : Nat) : LSound (pyxref1_trim.E k) Try.f71.ntmps Try.f71 (loopAt Try.f71 1) (pyxref1_trim.l1.L k) :=
  loop_sound (pyxref1_trim.ok k) mixed rfl (by kernel_rfl) (allL_of (l := []) (by kernel_rfl) allL_nil) pyxref1_trim.l1.un pyxref1_trim.l1.mk pyxref1_trim.l1.fin pyxref1_trim.l1.re (pyxref1_trim.l1.once k) k pyxref1_trim.l1.fit pyxref1_trim.l1.fitO (pyxref1_trim.l1.eq k) pyxref1_trim.l1.finK pyxref1_trim.l1.finK_eq
theorem pyxref1_trim.eq (k : Nat) (x : List Int) : runF (pyxref1_trim.E k) (codeOf Try.f71) (pyxref1_trim.mk x) pyxref1_trim.re = (pyxref1_trim.D k).f x := by kernel_rfl
theorem pyxref1_trim.sound (k : Nat) : Sound Try.prog DD 71 (pyxref1_trim.D k) :=
  fun_sound (E := pyxref1_trim.E k) (fn := Try.f71) (c := codeOf Try.f71) (pyxref1_trim.ok k) mixed rfl Try.func71 (by kernel_rfl) (by kernel_rfl) (allL_of (l := [loopAt Try.f71 1]) (by kernel_rfl) (allL_cons (key := 1) (by kernel_rfl) rfl (pyxref1_trim.l1.sound k) allL_nil)) (pyxref1_trim.D k) pyxref1_trim.mk pyxref1_trim.re
    (by intro args x h; replace h : pyxref1_trim.un args = some x := h; unfold pyxref1_trim.un at h; split at h; · cases h; rfl
        · cases h)
    (by intro v y h; unfold pyxref1_trim.re at h; split at h; · cases h; rfl
        · cases h)
    (fun _ => rfl) (fun x => Nat.le_of_ble_eq_true (by kernel_rfl)) (pyxref1_trim.eq k)
/-! ### pyx/pyxref1.AddNat: function 32 -/
noncomputable def pyxref1_AddNat.l4.once (k : Nat) (x : (List Int × List Int × List Int × Int × Int)) : Option ((List Int × List Int × List Int × Int × Int) ⊕ (List Int)) := match x with | (x1, x2, x3, x4, x5) => ((cond (decide (x5 < (List.length x1 : Int))) (some (x1, x2, x3, x4, x5, true)) (cond (decide (x5 < (List.length x2 : Int))) (some (x1, x2, x3, x4, x5, true)) (some (x1, x2, x3, x4, x5, decide (x4 > 0))))) : Option (List Int × List Int × List Int × Int × Int × Bool)).bind fun y12 => (cond (y12.2.2.2.2.2) ((pyxref1_digit.f k y12.1 y12.2.2.2.2.1).bind fun t13 => ((pyxref1_digit.f k y12.2.1 y12.2.2.2.2.1).bind fun t14 => (cond (okLen (List.length y12.2.2.1 + List.length [Int.tmod (IntKind.wrap .i64 ((IntKind.wrap .i64 (t13 + t14)) + y12.2.2.2.1)) 10]) 8) (some (.inl (y12.1, y12.2.1, y12.2.2.1 ++ [Int.tmod (IntKind.wrap .i64 ((IntKind.wrap .i64 (t13 + t14)) + y12.2.2.2.1)) 10], IntKind.wrap .i64 (Int.tdiv (IntKind.wrap .i64 ((IntKind.wrap .i64 (t13 + t14)) + y12.2.2.2.1)) 10), IntKind.wrap .i64 (y12.2.2.2.2.1 + 1)))) none))) (some (.inr y12.2.2.1)))
noncomputable def pyxref1_AddNat.f (k : Nat) (a0 : List Int) (a1 : List Int) : Option (List Int) := (iter (pyxref1_AddNat.l4.once k) k (a0, a1, ([] : List Int), 0, 0)).bind fun y16 => ((pyxref1_trim.f k y16).bind fun t17 => (some t17))
noncomputable def pyxref1_AddNat.un : List (AV U) → Option (List Int × List Int) | [.row C.i64 x1, .row C.i64 x2] => some (x1, x2) | _ => none
noncomputable def pyxref1_AddNat.mk (x : (List Int × List Int)) : List (AV U) := [.row C.i64 x.1, .row C.i64 x.2]
noncomputable def pyxref1_AddNat.D (k : Nat) : FDen U := { X := (List Int × List Int), Y := List Int, un := pyxref1_AddNat.un, f := fun x => pyxref1_AddNat.f k (x.1) (x.2), fin := fun y => .row C.i64 y }
noncomputable def pyxref1_AddNat.re : AV U → Option (List Int) | .row C.i64 x1 => some x1 | _ => none
noncomputable def pyxref1_AddNat.l4.mk (x : (List Int × List Int × List Int × Int × Int)) : St U := match x with | (x1, x2, x3, x4, x5) => ⟨[(0, .row C.i64 x1), (1, .row C.i64 x2), (5, .tip 1004005 C.i64 x3), (6, .flat (.int .i64 x4)), (7, .flat (.int .i64 x5))], [(1004005, .tip 1)]⟩
noncomputable def pyxref1_AddNat.l4.un (s : St U) : Option (List Int × List Int × List Int × Int × Int) := (row_i64 (s.get 0)).bind fun q0 => ((row_i64 (s.get 1)).bind fun q1 => ((tip_i64 s.o 1 (s.get 5)).bind fun q2 => (match s.get 6, s.get 7 with | .flat (.int .i64 x4), .flat (.int .i64 x5) => some (q0, q1, q2.2, x4, x5) | _, _ => none)))
noncomputable def pyxref1_AddNat.l4.fin (y : List Int) : Out U := match y with | x15 => .exit 0 ⟨[(5, .tip 1004005 C.i64 x15)], [(1004005, .tip 1)]⟩
noncomputable def pyxref1_AddNat.l4.finK {ρ : Type} (y : List Int) (K : Out U → Option ρ) : Option ρ := match y with | x15 => K (.exit 0 ⟨[(5, .tip 1004005 C.i64 x15)], [(1004005, .tip 1)]⟩)
theorem pyxref1_AddNat.l4.finK_eq {ρ : Type} (y : List Int) (K : Out U → Option ρ) : pyxref1_AddNat.l4.finK y K = K (pyxref1_AddNat.l4.fin y) := by
  unfold pyxref1_AddNat.l4.finK pyxref1_AddNat.l4.fin
  first | rfl | (split <;> rfl)
noncomputable def pyxref1_AddNat.l4.re : Out U → Option (List Int) | .exit 0 s => ((tip_i64 s.o 1 (s.get 5)).bind fun q0 => (some q0.2)) | _ => none
noncomputable def pyxref1_AddNat.l4.L (k : Nat) : LDen U := { X := (List Int × List Int × List Int × Int × Int), Y := List Int, un := pyxref1_AddNat.l4.un, f := iter (pyxref1_AddNat.l4.once k) k, fin := pyxref1_AddNat.l4.fin, finK := pyxref1_AddNat.l4.finK, finK_eq := pyxref1_AddNat.l4.finK_eq }
noncomputable def pyxref1_AddNat.j4000.fin (y : (List Int × List Int × List Int × Int × Int × Bool)) : Out U := match y with | (x6, x7, x8, x9, x10, x11) => .norm ⟨[(0, .row C.i64 x6), (1, .row C.i64 x7), (5, .tip 1005000005 C.i64 x8), (6, .flat (.int .i64 x9)), (7, .flat (.int .i64 x10)), (22, .flat (.bool x11))], [(1005000005, .tip 1)]⟩
noncomputable def pyxref1_AddNat.j4000.finK {ρ : Type} (y : (List Int × List Int × List Int × Int × Int × Bool)) (K : Out U → Option ρ) : Option ρ := match y with | (x6, x7, x8, x9, x10, x11) => K (.norm ⟨[(0, .row C.i64 x6), (1, .row C.i64 x7), (5, .tip 1005000005 C.i64 x8), (6, .flat (.int .i64 x9)), (7, .flat (.int .i64 x10)), (22, .flat (.bool x11))], [(1005000005, .tip 1)]⟩)
theorem pyxref1_AddNat.j4000.finK_eq {ρ : Type} (y : (List Int × List Int × List Int × Int × Int × Bool)) (K : Out U → Option ρ) : pyxref1_AddNat.j4000.finK y K = K (pyxref1_AddNat.j4000.fin y) := by
  unfold pyxref1_AddNat.j4000.finK pyxref1_AddNat.j4000.fin
  first | rfl | (split <;> rfl)
noncomputable def pyxref1_AddNat.j4000.re : Out U → Option ((List Int × List Int × List Int × Int × Int × Bool)) | .norm s => ((row_i64 (s.get 0)).bind fun q0 => ((row_i64 (s.get 1)).bind fun q1 => ((tip_i64 s.o 1 (s.get 5)).bind fun q2 => (match s.get 6, s.get 7, s.get 22 with | .flat (.int .i64 x9), .flat (.int .i64 x10), .flat (.bool x11) => some (q0, q1, q2.2, x9, x10, x11) | _, _, _ => none)))) | _ => none
noncomputable def pyxref1_AddNat.j4000.J : JDen U := { Y := (List Int × List Int × List Int × Int × Int × Bool), re := pyxref1_AddNat.j4000.re, fin := pyxref1_AddNat.j4000.fin, finK := pyxref1_AddNat.j4000.finK, finK_eq := pyxref1_AddNat.j4000.finK_eq }
theorem pyxref1_AddNat.j4000.fit (o : Out U) (y : (List Int × List Int × List Int × Int × Int × Bool)) (h : pyxref1_AddNat.j4000.re o = some y) : FitsO o (pyxref1_AddNat.j4000.fin y) := by
  unfold pyxref1_AddNat.j4000.re at h
  split at h
  · obtain ⟨q0, eq0, h1⟩ := Option.bind_eq_some_iff.1 h
    obtain ⟨q1, eq1, h2⟩ := Option.bind_eq_some_iff.1 h1
    obtain ⟨q2, eq2, h3⟩ := Option.bind_eq_some_iff.1 h2
    split at h3
    · cases h3
      refine fitsO_norm (fits_ren [(1005000005, q2.1)] ?_ ?_ ren_one rfl)
      · exact List.forall_mem_cons.2 ⟨row_i64_fit eq0, List.forall_mem_cons.2 ⟨row_i64_fit eq1, List.forall_mem_cons.2 ⟨(tip_i64_fit eq2 rfl).1, List.forall_mem_cons.2 ⟨FV.same (by assumption) (fun _ _ _ hh => by cases hh) (fun _ hh => by cases hh), List.forall_mem_cons.2 ⟨FV.same (by assumption) (fun _ _ _ hh => by cases hh) (fun _ hh => by cases hh), List.forall_mem_cons.2 ⟨FV.same (by assumption) (fun _ _ _ hh => by cases hh) (fun _ hh => by cases hh), fun _ hp => (List.not_mem_nil hp).elim⟩⟩⟩⟩⟩⟩
      · exact List.forall_mem_cons.2 ⟨(tip_i64_fit eq2 rfl).2, fun _ hp => (List.not_mem_nil hp).elim⟩
    · cases h3
  · cases h
noncomputable def pyxref1_AddNat.jl : List (Nat × JDen U) := [(4000, pyxref1_AddNat.j4000.J)]
noncomputable def pyxref1_AddNat.fl (k : Nat) : List (Nat × FDen U) := [(70, pyxref1_digit.D k), (71, pyxref1_trim.D k)]
noncomputable def pyxref1_AddNat.ll (k : Nat) : List (Nat × LDen U) := [(4, pyxref1_AddNat.l4.L k)]
noncomputable def pyxref1_AddNat.E (k : Nat) : Env U := { P := Try.prog, D := DD, fd := lk (pyxref1_AddNat.fl k), ld := lk (pyxref1_AddNat.ll k), jd := lk pyxref1_AddNat.jl, mode := lk [], elc := lk ec, dyn := fun t => false, vecs := fun d => false, results := Try.f32.results.toList }
theorem pyxref1_AddNat.ok (k : Nat) : EnvOk (pyxref1_AddNat.E k) := envOk lawful (pyxref1_AddNat.fl k) (pyxref1_AddNat.ll k) pyxref1_AddNat.jl _ _ _ _ _ (by
  intro p hp
  simp only [pyxref1_AddNat.fl, List.mem_cons, List.not_mem_nil, or_false] at hp
  rcases hp with rfl | rfl
  · exact ⟨pyxref1_digit.sound k, enter_of Try.func70 (by kernel_rfl) (by kernel_rfl)⟩
  · exact ⟨pyxref1_trim.sound k, enter_of Try.func71 (by kernel_rfl) (by kernel_rfl)⟩) (by
  intro p hp
  simp only [pyxref1_AddNat.jl, List.mem_cons, List.not_mem_nil, or_false] at hp
  rcases hp with rfl
  · exact pyxref1_AddNat.j4000.fit)
theorem pyxref1_AddNat.l4.eq (k : Nat) (x : (List Int × List Int × List Int × Int × Int)) : evC (pyxref1_AddNat.E k) (loopAt Try.f32 4) (pyxref1_AddNat.l4.mk x) (headK pyxref1_AddNat.l4.un pyxref1_AddNat.l4.re) = pyxref1_AddNat.l4.once k x := by kernel_rfl
theorem pyxref1_AddNat.l4.fit (s : St U) (x : (List Int × List Int × List Int × Int × Int)) (h : pyxref1_AddNat.l4.un s = some x) : Fits s (pyxref1_AddNat.l4.mk x) := by
  unfold pyxref1_AddNat.l4.un at h
  obtain ⟨q0, eq0, h1⟩ := Option.bind_eq_some_iff.1 h
  obtain ⟨q1, eq1, h2⟩ := Option.bind_eq_some_iff.1 h1
  obtain ⟨q2, eq2, h3⟩ := Option.bind_eq_some_iff.1 h2
  split at h3
  · cases h3
    refine fits_ren [(1004005, q2.1)] ?_ ?_ ren_one rfl
    · exact List.forall_mem_cons.2 ⟨row_i64_fit eq0, List.forall_mem_cons.2 ⟨row_i64_fit eq1, List.forall_mem_cons.2 ⟨(tip_i64_fit eq2 rfl).1, List.forall_mem_cons.2 ⟨FV.same (by assumption) (fun _ _ _ hh => by cases hh) (fun _ hh => by cases hh), List.forall_mem_cons.2 ⟨FV.same (by assumption) (fun _ _ _ hh => by cases hh) (fun _ hh => by cases hh), fun _ hp => (List.not_mem_nil hp).elim⟩⟩⟩⟩⟩
    · exact List.forall_mem_cons.2 ⟨(tip_i64_fit eq2 rfl).2, fun _ hp => (List.not_mem_nil hp).elim⟩
  · cases h3
theorem pyxref1_AddNat.l4.fitO (o : Out U) (y : List Int) (h : pyxref1_AddNat.l4.re o = some y) : FitsO o (pyxref1_AddNat.l4.fin y) := by
  unfold pyxref1_AddNat.l4.re at h
  split at h
  · obtain ⟨q0, eq0, h1⟩ := Option.bind_eq_some_iff.1 h
    cases h1
    refine fitsO_exit (fits_ren [(1004005, q0.1)] ?_ ?_ ren_one rfl)
    · exact List.forall_mem_cons.2 ⟨(tip_i64_fit eq0 rfl).1, fun _ hp => (List.not_mem_nil hp).elim⟩
    · exact List.forall_mem_cons.2 ⟨(tip_i64_fit eq0 rfl).2, fun _ hp => (List.not_mem_nil hp).elim⟩
  · cases h
theorem pyxref1_AddNat.l4.sound (k : Nat) : LSound (pyxref1_AddNat.E k) Try.f32.ntmps Try.f32 (loopAt Try.f32 4) (pyxref1_AddNat.l4.L k) :=
  loop_sound (pyxref1_AddNat.ok k) mixed rfl (by kernel_rfl) (allL_of (l := []) (by kernel_rfl) allL_nil) pyxref1_AddNat.l4.un pyxref1_AddNat.l4.mk pyxref1_AddNat.l4.fin pyxref1_AddNat.l4.re (pyxref1_AddNat.l4.once k) k pyxref1_AddNat.l4.fit pyxref1_AddNat.l4.fitO (pyxref1_AddNat.l4.eq k) pyxref1_AddNat.l4.finK pyxref1_AddNat.l4.finK_eq
theorem pyxref1_AddNat.eq (k : Nat) (x : (List Int × List Int)) : runF (pyxref1_AddNat.E k) (codeOf Try.f32) (pyxref1_AddNat.mk x) pyxref1_AddNat.re = (pyxref1_AddNat.D k).f x := by kernel_rfl
theorem pyxref1_AddNat.sound (k : Nat) : Sound Try.prog DD 32 (pyxref1_AddNat.D k) :=
  fun_sound (E := pyxref1_AddNat.E k) (fn := Try.f32) (c := codeOf Try.f32) (pyxref1_AddNat.ok k) mixed rfl Try.func32 (by kernel_rfl) (by kernel_rfl) (allL_of (l := [loopAt Try.f32 4]) (by kernel_rfl) (allL_cons (key := 4) (by kernel_rfl) rfl (pyxref1_AddNat.l4.sound k) allL_nil)) (pyxref1_AddNat.D k) pyxref1_AddNat.mk pyxref1_AddNat.re
    (by intro args x h; replace h : pyxref1_AddNat.un args = some x := h; unfold pyxref1_AddNat.un at h; split at h; · cases h; rfl
        · cases h)
    (by intro v y h; unfold pyxref1_AddNat.re at h; split at h; · cases h; rfl
        · cases h)
    (fun _ => rfl) (fun x => Nat.le_of_ble_eq_true (by kernel_rfl)) (pyxref1_AddNat.eq k)
/-! ### pyx/pyxref1.radix: function 68 -/
noncomputable def pyxref1_radix.f (k : Nat)  : Option (List Int) := (pyxref1_Word.f k 18446744073709551615).bind fun t1 => ((pyxref1_AddNat.f k t1 [1]).bind fun t2 => (some t2))
noncomputable def pyxref1_radix.un : List (AV U) → Option Unit | [] => some () | _ => none
noncomputable def pyxref1_radix.mk (x : Unit) : List (AV U) := []
noncomputable def pyxref1_radix.D (k : Nat) : FDen U := { X := Unit, Y := List Int, un := pyxref1_radix.un, f := fun x => pyxref1_radix.f k , fin := fun y => .row C.i64 y }
noncomputable def pyxref1_radix.re : AV U → Option (List Int) | .row C.i64 x1 => some x1 | _ => none
noncomputable def pyxref1_radix.jl : List (Nat × JDen U) := []
noncomputable def pyxref1_radix.fl (k : Nat) : List (Nat × FDen U) := [(67, pyxref1_Word.D k), (32, pyxref1_AddNat.D k)]
noncomputable def pyxref1_radix.ll (k : Nat) : List (Nat × LDen U) := []
noncomputable def pyxref1_radix.E (k : Nat) : Env U := { P := Try.prog, D := DD, fd := lk (pyxref1_radix.fl k), ld := lk (pyxref1_radix.ll k), jd := lk pyxref1_radix.jl, mode := lk [], elc := lk ec, dyn := fun t => false, vecs := fun d => false, results := Try.f68.results.toList }
theorem pyxref1_radix.ok (k : Nat) : EnvOk (pyxref1_radix.E k) := envOk lawful (pyxref1_radix.fl k) (pyxref1_radix.ll k) pyxref1_radix.jl _ _ _ _ _ (by
  intro p hp
  simp only [pyxref1_radix.fl, List.mem_cons, List.not_mem_nil, or_false] at hp
  rcases hp with rfl | rfl
  · exact ⟨pyxref1_Word.sound k, enter_of Try.func67 (by kernel_rfl) (by kernel_rfl)⟩
  · exact ⟨pyxref1_AddNat.sound k, enter_of Try.func32 (by kernel_rfl) (by kernel_rfl)⟩) (by
  intro p hp
  simp [pyxref1_radix.jl] at hp)
theorem pyxref1_radix.eq (k : Nat) (x : Unit) : runF (pyxref1_radix.E k) (codeOf Try.f68) (pyxref1_radix.mk x) pyxref1_radix.re = (pyxref1_radix.D k).f x := by kernel_rfl
theorem pyxref1_radix.sound (k : Nat) : Sound Try.prog DD 68 (pyxref1_radix.D k) :=
  fun_sound (E := pyxref1_radix.E k) (fn := Try.f68) (c := codeOf Try.f68) (pyxref1_radix.ok k) mixed rfl Try.func68 (by kernel_rfl) (by kernel_rfl) (allL_of (l := []) (by kernel_rfl) allL_nil) (pyxref1_radix.D k) pyxref1_radix.mk pyxref1_radix.re
    (by intro args x h; replace h : pyxref1_radix.un args = some x := h; unfold pyxref1_radix.un at h; split at h; · cases h; rfl
        · cases h)
    (by intro v y h; unfold pyxref1_radix.re at h; split at h; · cases h; rfl
        · cases h)
    (fun _ => rfl) (fun x => Nat.le_of_ble_eq_true (by kernel_rfl)) (pyxref1_radix.eq k)
/-! ### pyx/pyxref1.MulNat: function 35 -/
noncomputable def pyxref1_MulNat.l7.once (k : Nat) (x : (List Int × List Int × Int × Int × Int × List Int)) : Option ((List Int × List Int × Int × Int × Int × List Int) ⊕ ((List Int × List Int × Int × List Int))) := match x with | (x5, x6, x8, x9, x10, x7) => ((cond (decide (x10 < (List.length x6 : Int))) (some (x5, x6, x8, x9, x10, true, x7)) (some (x5, x6, x8, x9, x10, decide (x9 > 0), x7))) : Option (List Int × List Int × Int × Int × Int × Bool × List Int)).bind fun y18 => (cond (y18.2.2.2.2.2.1) (cond (inb (IntKind.wrap .i64 (y18.2.2.1 + y18.2.2.2.2.1)) (List.length y18.2.2.2.2.2.2)) (cond (Nat.blt (Int.toNat (IntKind.wrap .i64 (y18.2.2.1 + y18.2.2.2.2.1))) (List.length y18.2.2.2.2.2.2)) (cond (inb y18.2.2.1 (List.length y18.1)) ((pyxref1_digit.f k y18.2.1 y18.2.2.2.2.1).bind fun t19 => (cond (inb (IntKind.wrap .i64 (y18.2.2.1 + y18.2.2.2.2.1)) (List.length y18.2.2.2.2.2.2)) (cond (Nat.blt (Int.toNat (IntKind.wrap .i64 (y18.2.2.1 + y18.2.2.2.2.1))) (List.length y18.2.2.2.2.2.2)) (some (.inl (y18.1, y18.2.1, y18.2.2.1, IntKind.wrap .i64 (Int.tdiv (IntKind.wrap .i64 ((IntKind.wrap .i64 ((List.getD y18.2.2.2.2.2.2 (Int.toNat (IntKind.wrap .i64 (y18.2.2.1 + y18.2.2.2.2.1))) 0) + (IntKind.wrap .i64 ((List.getD y18.1 (Int.toNat y18.2.2.1) 0) * t19)))) + y18.2.2.2.1)) 10), IntKind.wrap .i64 (y18.2.2.2.2.1 + 1), List.set y18.2.2.2.2.2.2 (Int.toNat (IntKind.wrap .i64 (y18.2.2.1 + y18.2.2.2.2.1))) (Int.tmod (IntKind.wrap .i64 ((IntKind.wrap .i64 ((List.getD y18.2.2.2.2.2.2 (Int.toNat (IntKind.wrap .i64 (y18.2.2.1 + y18.2.2.2.2.1))) 0) + (IntKind.wrap .i64 ((List.getD y18.1 (Int.toNat y18.2.2.1) 0) * t19)))) + y18.2.2.2.1)) 10)))) none) none)) none) none) none) (some (.inr (y18.1, y18.2.1, y18.2.2.1, y18.2.2.2.2.2.2))))
noncomputable def pyxref1_MulNat.l3.once (k : Nat) (x : (List Int × List Int × Int × List Int)) : Option ((List Int × List Int × Int × List Int) ⊕ (List Int)) := match x with | (x1, x2, x4, x3) => cond (decide (x4 < (List.length x1 : Int))) ((iter (pyxref1_MulNat.l7.once k) k (x1, x2, x4, 0, 0, x3)).bind fun y24 => (some (.inl (y24.1, y24.2.1, IntKind.wrap .i64 (y24.2.2.1 + 1), y24.2.2.2)))) (some (.inr x3))
noncomputable def pyxref1_MulNat.f (k : Nat) (a0 : List Int) (a1 : List Int) : Option (List Int) := cond ((decide (0 ≤ IntKind.wrap .i64 ((IntKind.wrap .i64 ((List.length a0 : Int) + (List.length a1 : Int))) + 1)) && decide (IntKind.wrap .i64 ((IntKind.wrap .i64 ((List.length a0 : Int) + (List.length a1 : Int))) + 1) = IntKind.wrap .i64 ((IntKind.wrap .i64 ((List.length a0 : Int) + (List.length a1 : Int))) + 1))) && decide ((IntKind.wrap .i64 ((IntKind.wrap .i64 ((List.length a0 : Int) + (List.length a1 : Int))) + 1)) * 8 ≤ 140737488355328)) ((iter (pyxref1_MulNat.l3.once k) k (a0, a1, 0, List.replicate (Int.toNat (IntKind.wrap .i64 ((IntKind.wrap .i64 ((List.length a0 : Int) + (List.length a1 : Int))) + 1))) (0 : Int))).bind fun y26 => ((pyxref1_trim.f k y26).bind fun t27 => (some t27))) none
noncomputable def pyxref1_MulNat.un : List (AV U) → Option (List Int × List Int) | [.row C.i64 x1, .row C.i64 x2] => some (x1, x2) | _ => none
noncomputable def pyxref1_MulNat.mk (x : (List Int × List Int)) : List (AV U) := [.row C.i64 x.1, .row C.i64 x.2]
noncomputable def pyxref1_MulNat.D (k : Nat) : FDen U := { X := (List Int × List Int), Y := List Int, un := pyxref1_MulNat.un, f := fun x => pyxref1_MulNat.f k (x.1) (x.2), fin := fun y => .row C.i64 y }
noncomputable def pyxref1_MulNat.re : AV U → Option (List Int) | .row C.i64 x1 => some x1 | _ => none
noncomputable def pyxref1_MulNat.l7.mk (x : (List Int × List Int × Int × Int × Int × List Int)) : St U := match x with | (x5, x6, x8, x9, x10, x7) => ⟨[(0, .row C.i64 x5), (1, .row C.i64 x6), (5, .vs 1007005), (6, .flat (.int .i64 x8)), (7, .flat (.int .i64 x9)), (8, .flat (.int .i64 x10))], [(1007005, .vec C.i64 x7)]⟩
noncomputable def pyxref1_MulNat.l7.un (s : St U) : Option (List Int × List Int × Int × Int × Int × List Int) := (row_i64 (s.get 0)).bind fun q0 => ((row_i64 (s.get 1)).bind fun q1 => ((vec_i64 s.o (s.get 5)).bind fun q2 => (match s.get 6, s.get 7, s.get 8 with | .flat (.int .i64 x8), .flat (.int .i64 x9), .flat (.int .i64 x10) => some (q0, q1, x8, x9, x10, q2.2) | _, _, _ => none)))
noncomputable def pyxref1_MulNat.l7.fin (y : (List Int × List Int × Int × List Int)) : Out U := match y with | (x20, x21, x23, x22) => .exit 2 ⟨[(0, .row C.i64 x20), (1, .row C.i64 x21), (5, .vs 1007005), (6, .flat (.int .i64 x23))], [(1007005, .vec C.i64 x22)]⟩
noncomputable def pyxref1_MulNat.l7.finK {ρ : Type} (y : (List Int × List Int × Int × List Int)) (K : Out U → Option ρ) : Option ρ := match y with | (x20, x21, x23, x22) => K (.exit 2 ⟨[(0, .row C.i64 x20), (1, .row C.i64 x21), (5, .vs 1007005), (6, .flat (.int .i64 x23))], [(1007005, .vec C.i64 x22)]⟩)
theorem pyxref1_MulNat.l7.finK_eq {ρ : Type} (y : (List Int × List Int × Int × List Int)) (K : Out U → Option ρ) : pyxref1_MulNat.l7.finK y K = K (pyxref1_MulNat.l7.fin y) := by
  unfold pyxref1_MulNat.l7.finK pyxref1_MulNat.l7.fin
  first | rfl | (split <;> rfl)
noncomputable def pyxref1_MulNat.l7.re : Out U → Option ((List Int × List Int × Int × List Int)) | .exit 2 s => ((row_i64 (s.get 0)).bind fun q0 => ((row_i64 (s.get 1)).bind fun q1 => ((vec_i64 s.o (s.get 5)).bind fun q2 => (match s.get 6 with | .flat (.int .i64 x23) => some (q0, q1, x23, q2.2) | _ => none)))) | _ => none
noncomputable def pyxref1_MulNat.l7.L (k : Nat) : LDen U := { X := (List Int × List Int × Int × Int × Int × List Int), Y := (List Int × List Int × Int × List Int), un := pyxref1_MulNat.l7.un, f := iter (pyxref1_MulNat.l7.once k) k, fin := pyxref1_MulNat.l7.fin, finK := pyxref1_MulNat.l7.finK, finK_eq := pyxref1_MulNat.l7.finK_eq }
noncomputable def pyxref1_MulNat.l3.mk (x : (List Int × List Int × Int × List Int)) : St U := match x with | (x1, x2, x4, x3) => ⟨[(0, .row C.i64 x1), (1, .row C.i64 x2), (5, .vs 1003005), (6, .flat (.int .i64 x4))], [(1003005, .vec C.i64 x3)]⟩
noncomputable def pyxref1_MulNat.l3.un (s : St U) : Option (List Int × List Int × Int × List Int) := (row_i64 (s.get 0)).bind fun q0 => ((row_i64 (s.get 1)).bind fun q1 => ((vec_i64 s.o (s.get 5)).bind fun q2 => (match s.get 6 with | .flat (.int .i64 x4) => some (q0, q1, x4, q2.2) | _ => none)))
noncomputable def pyxref1_MulNat.l3.fin (y : List Int) : Out U := match y with | x25 => .exit 0 ⟨[(5, .vs 1003005)], [(1003005, .vec C.i64 x25)]⟩
noncomputable def pyxref1_MulNat.l3.finK {ρ : Type} (y : List Int) (K : Out U → Option ρ) : Option ρ := match y with | x25 => K (.exit 0 ⟨[(5, .vs 1003005)], [(1003005, .vec C.i64 x25)]⟩)
theorem pyxref1_MulNat.l3.finK_eq {ρ : Type} (y : List Int) (K : Out U → Option ρ) : pyxref1_MulNat.l3.finK y K = K (pyxref1_MulNat.l3.fin y) := by
  unfold pyxref1_MulNat.l3.finK pyxref1_MulNat.l3.fin
  first | rfl | (split <;> rfl)
noncomputable def pyxref1_MulNat.l3.re : Out U → Option (List Int) | .exit 0 s => ((vec_i64 s.o (s.get 5)).bind fun q0 => (some q0.2)) | _ => none
noncomputable def pyxref1_MulNat.l3.L (k : Nat) : LDen U := { X := (List Int × List Int × Int × List Int), Y := List Int, un := pyxref1_MulNat.l3.un, f := iter (pyxref1_MulNat.l3.once k) k, fin := pyxref1_MulNat.l3.fin, finK := pyxref1_MulNat.l3.finK, finK_eq := pyxref1_MulNat.l3.finK_eq }
noncomputable def pyxref1_MulNat.j7000.fin (y : (List Int × List Int × Int × Int × Int × Bool × List Int)) : Out U := match y with | (x11, x12, x14, x15, x16, x17, x13) => .norm ⟨[(0, .row C.i64 x11), (1, .row C.i64 x12), (5, .vs 1008000005), (6, .flat (.int .i64 x14)), (7, .flat (.int .i64 x15)), (8, .flat (.int .i64 x16)), (30, .flat (.bool x17))], [(1008000005, .vec C.i64 x13)]⟩
noncomputable def pyxref1_MulNat.j7000.finK {ρ : Type} (y : (List Int × List Int × Int × Int × Int × Bool × List Int)) (K : Out U → Option ρ) : Option ρ := match y with | (x11, x12, x14, x15, x16, x17, x13) => K (.norm ⟨[(0, .row C.i64 x11), (1, .row C.i64 x12), (5, .vs 1008000005), (6, .flat (.int .i64 x14)), (7, .flat (.int .i64 x15)), (8, .flat (.int .i64 x16)), (30, .flat (.bool x17))], [(1008000005, .vec C.i64 x13)]⟩)
theorem pyxref1_MulNat.j7000.finK_eq {ρ : Type} (y : (List Int × List Int × Int × Int × Int × Bool × List Int)) (K : Out U → Option ρ) : pyxref1_MulNat.j7000.finK y K = K (pyxref1_MulNat.j7000.fin y) := by
  unfold pyxref1_MulNat.j7000.finK pyxref1_MulNat.j7000.fin
  first | rfl | (split <;> rfl)
noncomputable def pyxref1_MulNat.j7000.re : Out U → Option ((List Int × List Int × Int × Int × Int × Bool × List Int)) | .norm s => ((row_i64 (s.get 0)).bind fun q0 => ((row_i64 (s.get 1)).bind fun q1 => ((vec_i64 s.o (s.get 5)).bind fun q2 => (match s.get 6, s.get 7, s.get 8, s.get 30 with | .flat (.int .i64 x14), .flat (.int .i64 x15), .flat (.int .i64 x16), .flat (.bool x17) => some (q0, q1, x14, x15, x16, x17, q2.2) | _, _, _, _ => none)))) | _ => none
noncomputable def pyxref1_MulNat.j7000.J : JDen U := { Y := (List Int × List Int × Int × Int × Int × Bool × List Int), re := pyxref1_MulNat.j7000.re, fin := pyxref1_MulNat.j7000.fin, finK := pyxref1_MulNat.j7000.finK, finK_eq := pyxref1_MulNat.j7000.finK_eq }
theorem pyxref1_MulNat.j7000.fit (o : Out U) (y : (List Int × List Int × Int × Int × Int × Bool × List Int)) (h : pyxref1_MulNat.j7000.re o = some y) : FitsO o (pyxref1_MulNat.j7000.fin y) := by
  unfold pyxref1_MulNat.j7000.re at h
  split at h
  · obtain ⟨q0, eq0, h1⟩ := Option.bind_eq_some_iff.1 h
    obtain ⟨q1, eq1, h2⟩ := Option.bind_eq_some_iff.1 h1
    obtain ⟨q2, eq2, h3⟩ := Option.bind_eq_some_iff.1 h2
    split at h3
    · cases h3
      refine fitsO_norm (fits_ren [(1008000005, q2.1)] ?_ ?_ ren_one rfl)
      · exact List.forall_mem_cons.2 ⟨row_i64_fit eq0, List.forall_mem_cons.2 ⟨row_i64_fit eq1, List.forall_mem_cons.2 ⟨(vec_i64_fit eq2 rfl).1, List.forall_mem_cons.2 ⟨FV.same (by assumption) (fun _ _ _ hh => by cases hh) (fun _ hh => by cases hh), List.forall_mem_cons.2 ⟨FV.same (by assumption) (fun _ _ _ hh => by cases hh) (fun _ hh => by cases hh), List.forall_mem_cons.2 ⟨FV.same (by assumption) (fun _ _ _ hh => by cases hh) (fun _ hh => by cases hh), List.forall_mem_cons.2 ⟨FV.same (by assumption) (fun _ _ _ hh => by cases hh) (fun _ hh => by cases hh), fun _ hp => (List.not_mem_nil hp).elim⟩⟩⟩⟩⟩⟩⟩
      · exact List.forall_mem_cons.2 ⟨(vec_i64_fit eq2 rfl).2, fun _ hp => (List.not_mem_nil hp).elim⟩
    · cases h3
  · cases h
noncomputable def pyxref1_MulNat.jl : List (Nat × JDen U) := [(7000, pyxref1_MulNat.j7000.J)]
noncomputable def pyxref1_MulNat.fl (k : Nat) : List (Nat × FDen U) := [(70, pyxref1_digit.D k), (71, pyxref1_trim.D k)]
noncomputable def pyxref1_MulNat.ll (k : Nat) : List (Nat × LDen U) := [(7, pyxref1_MulNat.l7.L k), (3, pyxref1_MulNat.l3.L k)]
noncomputable def pyxref1_MulNat.E (k : Nat) : Env U := { P := Try.prog, D := DD, fd := lk (pyxref1_MulNat.fl k), ld := lk (pyxref1_MulNat.ll k), jd := lk pyxref1_MulNat.jl, mode := lk [], elc := lk ec, dyn := fun t => false, vecs := fun d => Nat.beq d 16, results := Try.f35.results.toList }
theorem pyxref1_MulNat.ok (k : Nat) : EnvOk (pyxref1_MulNat.E k) := envOk lawful (pyxref1_MulNat.fl k) (pyxref1_MulNat.ll k) pyxref1_MulNat.jl _ _ _ _ _ (by
  intro p hp
  simp only [pyxref1_MulNat.fl, List.mem_cons, List.not_mem_nil, or_false] at hp
  rcases hp with rfl | rfl
  · exact ⟨pyxref1_digit.sound k, enter_of Try.func70 (by kernel_rfl) (by kernel_rfl)⟩
  · exact ⟨pyxref1_trim.sound k, enter_of Try.func71 (by kernel_rfl) (by kernel_rfl)⟩) (by
  intro p hp
  simp only [pyxref1_MulNat.jl, List.mem_cons, List.not_mem_nil, or_false] at hp
  rcases hp with rfl
  · exact pyxref1_MulNat.j7000.fit)
theorem pyxref1_MulNat.l7.eq (k : Nat) (x : (List Int × List Int × Int × Int × Int × List Int)) : evC (pyxref1_MulNat.E k) (loopAt Try.f35 7) (pyxref1_MulNat.l7.mk x) (headK pyxref1_MulNat.l7.un pyxref1_MulNat.l7.re) = pyxref1_MulNat.l7.once k x := by kernel_rfl
theorem pyxref1_MulNat.l7.fit (s : St U) (x : (List Int × List Int × Int × Int × Int × List Int)) (h : pyxref1_MulNat.l7.un s = some x) : Fits s (pyxref1_MulNat.l7.mk x) := by
  unfold pyxref1_MulNat.l7.un at h
  obtain ⟨q0, eq0, h1⟩ := Option.bind_eq_some_iff.1 h
  obtain ⟨q1, eq1, h2⟩ := Option.bind_eq_some_iff.1 h1
  obtain ⟨q2, eq2, h3⟩ := Option.bind_eq_some_iff.1 h2
  split at h3
  · cases h3
    refine fits_ren [(1007005, q2.1)] ?_ ?_ ren_one rfl
    · exact List.forall_mem_cons.2 ⟨row_i64_fit eq0, List.forall_mem_cons.2 ⟨row_i64_fit eq1, List.forall_mem_cons.2 ⟨(vec_i64_fit eq2 rfl).1, List.forall_mem_cons.2 ⟨FV.same (by assumption) (fun _ _ _ hh => by cases hh) (fun _ hh => by cases hh), List.forall_mem_cons.2 ⟨FV.same (by assumption) (fun _ _ _ hh => by cases hh) (fun _ hh => by cases hh), List.forall_mem_cons.2 ⟨FV.same (by assumption) (fun _ _ _ hh => by cases hh) (fun _ hh => by cases hh), fun _ hp => (List.not_mem_nil hp).elim⟩⟩⟩⟩⟩⟩
    · exact List.forall_mem_cons.2 ⟨(vec_i64_fit eq2 rfl).2, fun _ hp => (List.not_mem_nil hp).elim⟩
  · cases h3
theorem pyxref1_MulNat.l7.fitO (o : Out U) (y : (List Int × List Int × Int × List Int)) (h : pyxref1_MulNat.l7.re o = some y) : FitsO o (pyxref1_MulNat.l7.fin y) := by
  unfold pyxref1_MulNat.l7.re at h
  split at h
  · obtain ⟨q0, eq0, h1⟩ := Option.bind_eq_some_iff.1 h
    obtain ⟨q1, eq1, h2⟩ := Option.bind_eq_some_iff.1 h1
    obtain ⟨q2, eq2, h3⟩ := Option.bind_eq_some_iff.1 h2
    split at h3
    · cases h3
      refine fitsO_exit (fits_ren [(1007005, q2.1)] ?_ ?_ ren_one rfl)
      · exact List.forall_mem_cons.2 ⟨row_i64_fit eq0, List.forall_mem_cons.2 ⟨row_i64_fit eq1, List.forall_mem_cons.2 ⟨(vec_i64_fit eq2 rfl).1, List.forall_mem_cons.2 ⟨FV.same (by assumption) (fun _ _ _ hh => by cases hh) (fun _ hh => by cases hh), fun _ hp => (List.not_mem_nil hp).elim⟩⟩⟩⟩
      · exact List.forall_mem_cons.2 ⟨(vec_i64_fit eq2 rfl).2, fun _ hp => (List.not_mem_nil hp).elim⟩
    · cases h3
  · cases h
theorem pyxref1_MulNat.l7.sound (k : Nat) : LSound (pyxref1_MulNat.E k) Try.f35.ntmps Try.f35 (loopAt Try.f35 7) (pyxref1_MulNat.l7.L k) :=
  loop_sound (pyxref1_MulNat.ok k) mixed rfl (by kernel_rfl) (allL_of (l := []) (by kernel_rfl) allL_nil) pyxref1_MulNat.l7.un pyxref1_MulNat.l7.mk pyxref1_MulNat.l7.fin pyxref1_MulNat.l7.re (pyxref1_MulNat.l7.once k) k pyxref1_MulNat.l7.fit pyxref1_MulNat.l7.fitO (pyxref1_MulNat.l7.eq k) pyxref1_MulNat.l7.finK pyxref1_MulNat.l7.finK_eq
theorem pyxref1_MulNat.l3.eq (k : Nat) (x : (List Int × List Int × Int × List Int)) : evC (pyxref1_MulNat.E k) (loopAt Try.f35 3) (pyxref1_MulNat.l3.mk x) (headK pyxref1_MulNat.l3.un pyxref1_MulNat.l3.re) = pyxref1_MulNat.l3.once k x := by kernel_rfl
theorem pyxref1_MulNat.l3.fit (s : St U) (x : (List Int × List Int × Int × List Int)) (h : pyxref1_MulNat.l3.un s = some x) : Fits s (pyxref1_MulNat.l3.mk x) := by
  unfold pyxref1_MulNat.l3.un at h
  obtain ⟨q0, eq0, h1⟩ := Option.bind_eq_some_iff.1 h
  obtain ⟨q1, eq1, h2⟩ := Option.bind_eq_some_iff.1 h1
  obtain ⟨q2, eq2, h3⟩ := Option.bind_eq_some_iff.1 h2
  split at h3
  · cases h3
    refine fits_ren [(1003005, q2.1)] ?_ ?_ ren_one rfl
    · exact List.forall_mem_cons.2 ⟨row_i64_fit eq0, List.forall_mem_cons.2 ⟨row_i64_fit eq1, List.forall_mem_cons.2 ⟨(vec_i64_fit eq2 rfl).1, List.forall_mem_cons.2 ⟨FV.same (by assumption) (fun _ _ _ hh => by cases hh) (fun _ hh => by cases hh), fun _ hp => (List.not_mem_nil hp).elim⟩⟩⟩⟩
    · exact List.forall_mem_cons.2 ⟨(vec_i64_fit eq2 rfl).2, fun _ hp => (List.not_mem_nil hp).elim⟩
  · cases h3
theorem pyxref1_MulNat.l3.fitO (o : Out U) (y : List Int) (h : pyxref1_MulNat.l3.re o = some y) : FitsO o (pyxref1_MulNat.l3.fin y) := by
  unfold pyxref1_MulNat.l3.re at h
  split at h
  · obtain ⟨q0, eq0, h1⟩ := Option.bind_eq_some_iff.1 h
    cases h1
    refine fitsO_exit (fits_ren [(1003005, q0.1)] ?_ ?_ ren_one rfl)
    · exact List.forall_mem_cons.2 ⟨(vec_i64_fit eq0 rfl).1, fun _ hp => (List.not_mem_nil hp).elim⟩
    · exact List.forall_mem_cons.2 ⟨(vec_i64_fit eq0 rfl).2, fun _ hp => (List.not_mem_nil hp).elim⟩
  · cases h
theorem pyxref1_MulNat.l3.sound (k : Nat) : LSound (pyxref1_MulNat.E k) Try.f35.ntmps Try.f35 (loopAt Try.f35 3) (pyxref1_MulNat.l3.L k) :=
  loop_sound (pyxref1_MulNat.ok k) mixed rfl (by kernel_rfl) (allL_of (l := [loopAt Try.f35 7]) (by kernel_rfl) (allL_cons (key := 7) (by kernel_rfl) rfl (pyxref1_MulNat.l7.sound k) allL_nil)) pyxref1_MulNat.l3.un pyxref1_MulNat.l3.mk pyxref1_MulNat.l3.fin pyxref1_MulNat.l3.re (pyxref1_MulNat.l3.once k) k pyxref1_MulNat.l3.fit pyxref1_MulNat.l3.fitO (pyxref1_MulNat.l3.eq k) pyxref1_MulNat.l3.finK pyxref1_MulNat.l3.finK_eq
theorem pyxref1_MulNat.eq (k : Nat) (x : (List Int × List Int)) : runF (pyxref1_MulNat.E k) (codeOf Try.f35) (pyxref1_MulNat.mk x) pyxref1_MulNat.re = (pyxref1_MulNat.D k).f x := by kernel_rfl
theorem pyxref1_MulNat.sound (k : Nat) : Sound Try.prog DD 35 (pyxref1_MulNat.D k) :=
  fun_sound (E := pyxref1_MulNat.E k) (fn := Try.f35) (c := codeOf Try.f35) (pyxref1_MulNat.ok k) mixed rfl Try.func35 (by kernel_rfl) (by kernel_rfl) (allL_of (l := [loopAt Try.f35 3]) (by kernel_rfl) (allL_cons (key := 3) (by kernel_rfl) rfl (pyxref1_MulNat.l3.sound k) allL_nil)) (pyxref1_MulNat.D k) pyxref1_MulNat.mk pyxref1_MulNat.re
    (by intro args x h; replace h : pyxref1_MulNat.un args = some x := h; unfold pyxref1_MulNat.un at h; split at h; · cases h; rfl
        · cases h)
    (by intro v y h; unfold pyxref1_MulNat.re at h; split at h; · cases h; rfl
        · cases h)
    (fun _ => rfl) (fun x => Nat.le_of_ble_eq_true (by kernel_rfl)) (pyxref1_MulNat.eq k)
/-! ### pyx/pyxref1.Nat2: function 30 -/
noncomputable def pyxref1_Nat2.f (k : Nat) (a0 : (Int × Int)) : Option (List Int) := (pyxref1_Word.f k a0.2).bind fun t1 => ((pyxref1_radix.f k).bind fun t2 => ((pyxref1_MulNat.f k t1 t2).bind fun t3 => ((pyxref1_Word.f k a0.1).bind fun t4 => ((pyxref1_AddNat.f k t3 t4).bind fun t5 => (some t5)))))
noncomputable def pyxref1_Nat2.un : List (AV U) → Option (Int × Int) | [.agg [.flat (.int .u64 x1), .flat (.int .u64 x2)]] => some (x1, x2) | _ => none
noncomputable def pyxref1_Nat2.mk (x : (Int × Int)) : List (AV U) := [.agg [.flat (.int .u64 x.1), .flat (.int .u64 x.2)]]
noncomputable def pyxref1_Nat2.D (k : Nat) : FDen U := { X := (Int × Int), Y := List Int, un := pyxref1_Nat2.un, f := fun x => pyxref1_Nat2.f k (x), fin := fun y => .row C.i64 y }
noncomputable def pyxref1_Nat2.re : AV U → Option (List Int) | .row C.i64 x1 => some x1 | _ => none
noncomputable def pyxref1_Nat2.jl : List (Nat × JDen U) := []
noncomputable def pyxref1_Nat2.fl (k : Nat) : List (Nat × FDen U) := [(67, pyxref1_Word.D k), (68, pyxref1_radix.D k), (35, pyxref1_MulNat.D k), (32, pyxref1_AddNat.D k)]
noncomputable def pyxref1_Nat2.ll (k : Nat) : List (Nat × LDen U) := []
noncomputable def pyxref1_Nat2.E (k : Nat) : Env U := { P := Try.prog, D := DD, fd := lk (pyxref1_Nat2.fl k), ld := lk (pyxref1_Nat2.ll k), jd := lk pyxref1_Nat2.jl, mode := lk [], elc := lk ec, dyn := fun t => false, vecs := fun d => false, results := Try.f30.results.toList }
theorem pyxref1_Nat2.ok (k : Nat) : EnvOk (pyxref1_Nat2.E k) := envOk lawful (pyxref1_Nat2.fl k) (pyxref1_Nat2.ll k) pyxref1_Nat2.jl _ _ _ _ _ (by
  intro p hp
  simp only [pyxref1_Nat2.fl, List.mem_cons, List.not_mem_nil, or_false] at hp
  rcases hp with rfl | rfl | rfl | rfl
  · exact ⟨pyxref1_Word.sound k, enter_of Try.func67 (by kernel_rfl) (by kernel_rfl)⟩
  · exact ⟨pyxref1_radix.sound k, enter_of Try.func68 (by kernel_rfl) (by kernel_rfl)⟩
  · exact ⟨pyxref1_MulNat.sound k, enter_of Try.func35 (by kernel_rfl) (by kernel_rfl)⟩
  · exact ⟨pyxref1_AddNat.sound k, enter_of Try.func32 (by kernel_rfl) (by kernel_rfl)⟩) (by
  intro p hp
  simp [pyxref1_Nat2.jl] at hp)
theorem pyxref1_Nat2.eq (k : Nat) (x : (Int × Int)) : runF (pyxref1_Nat2.E k) (codeOf Try.f30) (pyxref1_Nat2.mk x) pyxref1_Nat2.re = (pyxref1_Nat2.D k).f x := by kernel_rfl
theorem pyxref1_Nat2.sound (k : Nat) : Sound Try.prog DD 30 (pyxref1_Nat2.D k) :=
  fun_sound (E := pyxref1_Nat2.E k) (fn := Try.f30) (c := codeOf Try.f30) (pyxref1_Nat2.ok k) mixed rfl Try.func30 (by kernel_rfl) (by kernel_rfl) (allL_of (l := []) (by kernel_rfl) allL_nil) (pyxref1_Nat2.D k) pyxref1_Nat2.mk pyxref1_Nat2.re
    (by intro args x h; replace h : pyxref1_Nat2.un args = some x := h; unfold pyxref1_Nat2.un at h; split at h; · cases h; rfl
        · cases h)
    (by intro v y h; unfold pyxref1_Nat2.re at h; split at h; · cases h; rfl
        · cases h)
    (fun _ => rfl) (fun x => Nat.le_of_ble_eq_true (by kernel_rfl)) (pyxref1_Nat2.eq k)
end
end Go.Proofs.Ythknecaigoilmaa
