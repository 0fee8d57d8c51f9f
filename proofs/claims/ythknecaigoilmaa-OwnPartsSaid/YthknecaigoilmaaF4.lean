import Derived.Test.YthknecaigoilmaaF3
/-! Functions, told; their equations with the evaluator; that they are sound. Written by gen.py. -/
namespace Go.Proofs.Ythknecaigoilmaa
open Go Go.Ev
noncomputable section
set_option linter.unusedVariables false
set_option linter.unusedSimpArgs false
set_option maxRecDepth 100000
/-! ### pyx/quant.middle: function 120 -/
noncomputable def quant_middle.f (k : Nat) (a0 : (Int × Int)) (a1 : (Int × Int)) : Option Int := (limb_Sub.f k (a1.1, a1.2) (a0.1, a0.2)).bind fun t1 => ((limb_Cmp.f k (a0.1, a0.2) (t1.1.1, t1.1.2)).bind fun t2 => (some t2))
noncomputable def quant_middle.un : List (AV U) → Option ((Int × Int) × (Int × Int)) | [.agg [.flat (.int .u64 x1), .flat (.int .u64 x2)], .agg [.flat (.int .u64 x3), .flat (.int .u64 x4)]] => some ((x1, x2), (x3, x4)) | _ => none
noncomputable def quant_middle.mk (x : ((Int × Int) × (Int × Int))) : List (AV U) := [.agg [.flat (.int .u64 x.1.1), .flat (.int .u64 x.1.2)], .agg [.flat (.int .u64 x.2.1), .flat (.int .u64 x.2.2)]]
noncomputable def quant_middle.D (k : Nat) : FDen U := { X := ((Int × Int) × (Int × Int)), Y := Int, un := quant_middle.un, f := fun x => quant_middle.f k (x.1) (x.2), fin := fun y => .flat (.int .i64 y) }
noncomputable def quant_middle.re : AV U → Option Int | .flat (.int .i64 x1) => some x1 | _ => none
noncomputable def quant_middle.jl : List (Nat × JDen U) := []
noncomputable def quant_middle.fl (k : Nat) : List (Nat × FDen U) := [(18, limb_Sub.D k), (19, limb_Cmp.D k)]
noncomputable def quant_middle.ll (k : Nat) : List (Nat × LDen U) := []
noncomputable def quant_middle.E (k : Nat) : Env U := { P := Try.prog, D := DD, fd := lk (quant_middle.fl k), ld := lk (quant_middle.ll k), jd := lk quant_middle.jl, mode := lk [], elc := lk ec, dyn := fun t => false, vecs := fun d => false, results := Try.f120.results.toList }
theorem quant_middle.ok (k : Nat) : EnvOk (quant_middle.E k) := envOk lawful (quant_middle.fl k) (quant_middle.ll k) quant_middle.jl _ _ _ _ _ (by
  intro p hp
  simp only [quant_middle.fl, List.mem_cons, List.not_mem_nil, or_false] at hp
  rcases hp with rfl | rfl
  · exact ⟨limb_Sub.sound k, enter_of Try.func18 (by kernel_rfl) (by kernel_rfl)⟩
  · exact ⟨limb_Cmp.sound k, enter_of Try.func19 (by kernel_rfl) (by kernel_rfl)⟩) (by
  intro p hp
  simp [quant_middle.jl] at hp)
theorem quant_middle.eq (k : Nat) (x : ((Int × Int) × (Int × Int))) : runF (quant_middle.E k) (codeOf Try.f120) (quant_middle.mk x) quant_middle.re = (quant_middle.D k).f x := by kernel_rfl
theorem quant_middle.sound (k : Nat) : Sound Try.prog DD 120 (quant_middle.D k) :=
  fun_sound (E := quant_middle.E k) (fn := Try.f120) (c := codeOf Try.f120) (quant_middle.ok k) mixed rfl Try.func120 (by kernel_rfl) (by kernel_rfl) (allL_of (l := []) (by kernel_rfl) allL_nil) (quant_middle.D k) quant_middle.mk quant_middle.re
    (by intro args x h; replace h : quant_middle.un args = some x := h; unfold quant_middle.un at h; split at h; · cases h; rfl
        · cases h)
    (by intro v y h; unfold quant_middle.re at h; split at h; · cases h; rfl
        · cases h)
    (fun _ => rfl) (fun x => Nat.le_of_ble_eq_true (by kernel_rfl)) (quant_middle.eq k)
/-! ### pyx/quant.farther: function 119 -/
noncomputable def quant_farther.f (k : Nat) (a0 : Bool) (a1 : Bool) (a2 : (Int × Int)) (a3 : (Int × Int)) (a4 : Int) : Option Bool := cond ((a2.1 == 0) && (a2.2 == 0)) (some false) (cond (a4 == 1) (some true) (cond (a4 == 2) (some a0) (cond (a4 == 3) ((quant_middle.f k (a2.1, a2.2) (a3.1, a3.2)).bind fun t1 => (some (decide (t1 ≥ 0)))) (cond (a4 == 4) ((quant_middle.f k (a2.1, a2.2) (a3.1, a3.2)).bind fun t2 => (cond (decide (t2 > 0)) (some true) (cond (t2 == 0) (some a1) (some false)))) (some false)))))
noncomputable def quant_farther.un : List (AV U) → Option (Bool × Bool × (Int × Int) × (Int × Int) × Int) | [.flat (.bool x1), .flat (.bool x2), .agg [.flat (.int .u64 x3), .flat (.int .u64 x4)], .agg [.flat (.int .u64 x5), .flat (.int .u64 x6)], .flat (.int .i64 x7)] => some (x1, x2, (x3, x4), (x5, x6), x7) | _ => none
noncomputable def quant_farther.mk (x : (Bool × Bool × (Int × Int) × (Int × Int) × Int)) : List (AV U) := [.flat (.bool x.1), .flat (.bool x.2.1), .agg [.flat (.int .u64 x.2.2.1.1), .flat (.int .u64 x.2.2.1.2)], .agg [.flat (.int .u64 x.2.2.2.1.1), .flat (.int .u64 x.2.2.2.1.2)], .flat (.int .i64 x.2.2.2.2)]
noncomputable def quant_farther.D (k : Nat) : FDen U := { X := (Bool × Bool × (Int × Int) × (Int × Int) × Int), Y := Bool, un := quant_farther.un, f := fun x => quant_farther.f k (x.1) (x.2.1) (x.2.2.1) (x.2.2.2.1) (x.2.2.2.2), fin := fun y => .flat (.bool y) }
noncomputable def quant_farther.re : AV U → Option Bool | .flat (.bool x1) => some x1 | _ => none
noncomputable def quant_farther.jl : List (Nat × JDen U) := []
noncomputable def quant_farther.fl (k : Nat) : List (Nat × FDen U) := [(120, quant_middle.D k)]
noncomputable def quant_farther.ll (k : Nat) : List (Nat × LDen U) := []
noncomputable def quant_farther.E (k : Nat) : Env U := { P := Try.prog, D := DD, fd := lk (quant_farther.fl k), ld := lk (quant_farther.ll k), jd := lk quant_farther.jl, mode := lk [], elc := lk ec, dyn := fun t => false, vecs := fun d => false, results := Try.f119.results.toList }
theorem quant_farther.ok (k : Nat) : EnvOk (quant_farther.E k) := envOk lawful (quant_farther.fl k) (quant_farther.ll k) quant_farther.jl _ _ _ _ _ (by
  intro p hp
  simp only [quant_farther.fl, List.mem_cons, List.not_mem_nil, or_false] at hp
  rcases hp with rfl
  · exact ⟨quant_middle.sound k, enter_of Try.func120 (by kernel_rfl) (by kernel_rfl)⟩) (by
  intro p hp
  simp [quant_farther.jl] at hp)
theorem quant_farther.eq (k : Nat) (x : (Bool × Bool × (Int × Int) × (Int × Int) × Int)) : runF (quant_farther.E k) (codeOf Try.f119) (quant_farther.mk x) quant_farther.re = (quant_farther.D k).f x := by kernel_rfl
theorem quant_farther.sound (k : Nat) : Sound Try.prog DD 119 (quant_farther.D k) :=
  fun_sound (E := quant_farther.E k) (fn := Try.f119) (c := codeOf Try.f119) (quant_farther.ok k) mixed rfl Try.func119 (by kernel_rfl) (by kernel_rfl) (allL_of (l := []) (by kernel_rfl) allL_nil) (quant_farther.D k) quant_farther.mk quant_farther.re
    (by intro args x h; replace h : quant_farther.un args = some x := h; unfold quant_farther.un at h; split at h; · cases h; rfl
        · cases h)
    (by intro v y h; unfold quant_farther.re at h; split at h; · cases h; rfl
        · cases h)
    (fun _ => rfl) (fun x => Nat.le_of_ble_eq_true (by kernel_rfl)) (quant_farther.eq k)
/-! ### pyx/quant.made: function 113 -/
noncomputable def quant_made.f (k : Nat) (a0 : Bool) (a1 : (Int × Int × Int × Int)) (a2 : Int) : Option (Sapi_Dec × Int) := (limb_Short.f k (a1.1, a1.2.1, a1.2.2.1, a1.2.2.2)).bind fun t1 => (((cond (a0) (some (t1.2, false, 0, 0, 0, !((t1.1.1 == 0) && (t1.1.2 == 0)), t1.1.1, t1.1.2, a2)) (some (t1.2, false, 0, 0, 0, false, t1.1.1, t1.1.2, a2))) : Option (Bool × Bool × Int × Int × Int × Bool × Int × Int × Int)).bind fun y11 => (((cond (!y11.1) (some (true, y11.2.1, y11.2.2.1, y11.2.2.2.1, y11.2.2.2.2.1, y11.2.2.2.2.2.1, y11.2.2.2.2.2.2.1, y11.2.2.2.2.2.2.2.1, y11.2.2.2.2.2.2.2.2)) ((dec_Right.f k (⟨y11.2.2.2.2.2.1, (y11.2.2.2.2.2.2.1, y11.2.2.2.2.2.2.2.1), y11.2.2.2.2.2.2.2.2⟩ : Sapi_Dec)).bind fun t21 => (some (!t21, y11.2.1, y11.2.2.1, y11.2.2.2.1, y11.2.2.2.2.1, y11.2.2.2.2.2.1, y11.2.2.2.2.2.2.1, y11.2.2.2.2.2.2.2.1, y11.2.2.2.2.2.2.2.2)))) : Option (Bool × Bool × Int × Int × Int × Bool × Int × Int × Int)).bind fun y22 => (cond (y22.1) (some ((⟨false, (0, 0), 0⟩ : Sapi_Dec), 3)) (some ((⟨y22.2.2.2.2.2.1, (y22.2.2.2.2.2.2.1, y22.2.2.2.2.2.2.2.1), y22.2.2.2.2.2.2.2.2⟩ : Sapi_Dec), 0)))))
noncomputable def quant_made.un : List (AV U) → Option (Bool × (Int × Int × Int × Int) × Int) | [.flat (.bool x1), .agg [.flat (.int .u64 x2), .flat (.int .u64 x3), .flat (.int .u64 x4), .flat (.int .u64 x5)], .flat (.int .i64 x6)] => some (x1, (x2, x3, x4, x5), x6) | _ => none
noncomputable def quant_made.mk (x : (Bool × (Int × Int × Int × Int) × Int)) : List (AV U) := [.flat (.bool x.1), .agg [.flat (.int .u64 x.2.1.1), .flat (.int .u64 x.2.1.2.1), .flat (.int .u64 x.2.1.2.2.1), .flat (.int .u64 x.2.1.2.2.2)], .flat (.int .i64 x.2.2)]
noncomputable def quant_made.D (k : Nat) : FDen U := { X := (Bool × (Int × Int × Int × Int) × Int), Y := (Sapi_Dec × Int), un := quant_made.un, f := fun x => quant_made.f k (x.1) (x.2.1) (x.2.2), fin := fun y => .tup [.agg [.flat (.bool y.1.f_Neg), .flat (.int .u64 y.1.f_C.1), .flat (.int .u64 y.1.f_C.2), .flat (.int .i64 y.1.f_Scale)], .flat (.int .i64 y.2)] }
noncomputable def quant_made.re : AV U → Option (Sapi_Dec × Int) | .tup [.agg [.flat (.bool x1), .flat (.int .u64 x2), .flat (.int .u64 x3), .flat (.int .i64 x4)], .flat (.int .i64 x5)] => some ((⟨x1, (x2, x3), x4⟩ : Sapi_Dec), x5) | _ => none
noncomputable def quant_made.j2000.fin (y : (Bool × Bool × Int × Int × Int × Bool × Int × Int × Int)) : Out U := match y with | (x6, x2, x3, x4, x5, x7, x8, x9, x10) => .norm ⟨[(6, .ptr 6 0), (10, .ptr 10 0), (9, .flat (.bool x6))], [(6, .lit [.flat (.bool x2), .flat (.int .u64 x3), .flat (.int .u64 x4), .flat (.int .i64 x5)]), (10, .lit [.flat (.bool x7), .flat (.int .u64 x8), .flat (.int .u64 x9), .flat (.int .i64 x10)])]⟩
noncomputable def quant_made.j2000.finK {ρ : Type} (y : (Bool × Bool × Int × Int × Int × Bool × Int × Int × Int)) (K : Out U → Option ρ) : Option ρ := match y with | (x6, x2, x3, x4, x5, x7, x8, x9, x10) => K (.norm ⟨[(6, .ptr 6 0), (10, .ptr 10 0), (9, .flat (.bool x6))], [(6, .lit [.flat (.bool x2), .flat (.int .u64 x3), .flat (.int .u64 x4), .flat (.int .i64 x5)]), (10, .lit [.flat (.bool x7), .flat (.int .u64 x8), .flat (.int .u64 x9), .flat (.int .i64 x10)])]⟩)
theorem quant_made.j2000.finK_eq {ρ : Type} (y : (Bool × Bool × Int × Int × Int × Bool × Int × Int × Int)) (K : Out U → Option ρ) : quant_made.j2000.finK y K = K (quant_made.j2000.fin y) := by
  unfold quant_made.j2000.finK quant_made.j2000.fin
  first | rfl | (split <;> rfl)
noncomputable def quant_made.j2000.re : Out U → Option ((Bool × Bool × Int × Int × Int × Bool × Int × Int × Int)) | .norm s => (match s.get 6, s.get 10, s.get 9, lk s.o 6, lk s.o 10 with | .ptr 6 0, .ptr 10 0, .flat (.bool x6), some (.lit [.flat (.bool x2), .flat (.int .u64 x3), .flat (.int .u64 x4), .flat (.int .i64 x5)]), some (.lit [.flat (.bool x7), .flat (.int .u64 x8), .flat (.int .u64 x9), .flat (.int .i64 x10)]) => some (x6, x2, x3, x4, x5, x7, x8, x9, x10) | _, _, _, _, _ => none) | _ => none
noncomputable def quant_made.j2000.J : JDen U := { Y := (Bool × Bool × Int × Int × Int × Bool × Int × Int × Int), re := quant_made.j2000.re, fin := quant_made.j2000.fin, finK := quant_made.j2000.finK, finK_eq := quant_made.j2000.finK_eq }
theorem quant_made.j2000.fit (o : Out U) (y : (Bool × Bool × Int × Int × Int × Bool × Int × Int × Int)) (h : quant_made.j2000.re o = some y) : FitsO o (quant_made.j2000.fin y) := by
  unfold quant_made.j2000.re at h
  split at h
  · split at h
    · cases h
      refine fitsO_norm (fits_ren [] ?_ ?_ ren_nil rfl)
      · exact List.forall_mem_cons.2 ⟨FV.same (by assumption) (fun _ _ _ hh => by cases hh) (fun _ hh => by cases hh), List.forall_mem_cons.2 ⟨FV.same (by assumption) (fun _ _ _ hh => by cases hh) (fun _ hh => by cases hh), List.forall_mem_cons.2 ⟨FV.same (by assumption) (fun _ _ _ hh => by cases hh) (fun _ hh => by cases hh), fun _ hp => (List.not_mem_nil hp).elim⟩⟩⟩
      · exact List.forall_mem_cons.2 ⟨(show lk (St.o _) 6 = some _ from by assumption), List.forall_mem_cons.2 ⟨(show lk (St.o _) 10 = some _ from by assumption), fun _ hp => (List.not_mem_nil hp).elim⟩⟩
    · cases h
  · cases h
noncomputable def quant_made.j3000.fin (y : (Bool × Bool × Int × Int × Int × Bool × Int × Int × Int)) : Out U := match y with | (x20, x12, x13, x14, x15, x16, x17, x18, x19) => .norm ⟨[(6, .ptr 6 0), (10, .ptr 10 0), (31, .flat (.bool x20))], [(6, .lit [.flat (.bool x12), .flat (.int .u64 x13), .flat (.int .u64 x14), .flat (.int .i64 x15)]), (10, .lit [.flat (.bool x16), .flat (.int .u64 x17), .flat (.int .u64 x18), .flat (.int .i64 x19)])]⟩
noncomputable def quant_made.j3000.finK {ρ : Type} (y : (Bool × Bool × Int × Int × Int × Bool × Int × Int × Int)) (K : Out U → Option ρ) : Option ρ := match y with | (x20, x12, x13, x14, x15, x16, x17, x18, x19) => K (.norm ⟨[(6, .ptr 6 0), (10, .ptr 10 0), (31, .flat (.bool x20))], [(6, .lit [.flat (.bool x12), .flat (.int .u64 x13), .flat (.int .u64 x14), .flat (.int .i64 x15)]), (10, .lit [.flat (.bool x16), .flat (.int .u64 x17), .flat (.int .u64 x18), .flat (.int .i64 x19)])]⟩)
theorem quant_made.j3000.finK_eq {ρ : Type} (y : (Bool × Bool × Int × Int × Int × Bool × Int × Int × Int)) (K : Out U → Option ρ) : quant_made.j3000.finK y K = K (quant_made.j3000.fin y) := by
  unfold quant_made.j3000.finK quant_made.j3000.fin
  first | rfl | (split <;> rfl)
noncomputable def quant_made.j3000.re : Out U → Option ((Bool × Bool × Int × Int × Int × Bool × Int × Int × Int)) | .norm s => (match s.get 6, s.get 10, s.get 31, lk s.o 6, lk s.o 10 with | .ptr 6 0, .ptr 10 0, .flat (.bool x20), some (.lit [.flat (.bool x12), .flat (.int .u64 x13), .flat (.int .u64 x14), .flat (.int .i64 x15)]), some (.lit [.flat (.bool x16), .flat (.int .u64 x17), .flat (.int .u64 x18), .flat (.int .i64 x19)]) => some (x20, x12, x13, x14, x15, x16, x17, x18, x19) | _, _, _, _, _ => none) | _ => none
noncomputable def quant_made.j3000.J : JDen U := { Y := (Bool × Bool × Int × Int × Int × Bool × Int × Int × Int), re := quant_made.j3000.re, fin := quant_made.j3000.fin, finK := quant_made.j3000.finK, finK_eq := quant_made.j3000.finK_eq }
theorem quant_made.j3000.fit (o : Out U) (y : (Bool × Bool × Int × Int × Int × Bool × Int × Int × Int)) (h : quant_made.j3000.re o = some y) : FitsO o (quant_made.j3000.fin y) := by
  unfold quant_made.j3000.re at h
  split at h
  · split at h
    · cases h
      refine fitsO_norm (fits_ren [] ?_ ?_ ren_nil rfl)
      · exact List.forall_mem_cons.2 ⟨FV.same (by assumption) (fun _ _ _ hh => by cases hh) (fun _ hh => by cases hh), List.forall_mem_cons.2 ⟨FV.same (by assumption) (fun _ _ _ hh => by cases hh) (fun _ hh => by cases hh), List.forall_mem_cons.2 ⟨FV.same (by assumption) (fun _ _ _ hh => by cases hh) (fun _ hh => by cases hh), fun _ hp => (List.not_mem_nil hp).elim⟩⟩⟩
      · exact List.forall_mem_cons.2 ⟨(show lk (St.o _) 6 = some _ from by assumption), List.forall_mem_cons.2 ⟨(show lk (St.o _) 10 = some _ from by assumption), fun _ hp => (List.not_mem_nil hp).elim⟩⟩
    · cases h
  · cases h
noncomputable def quant_made.jl : List (Nat × JDen U) := [(2000, quant_made.j2000.J), (3000, quant_made.j3000.J)]
noncomputable def quant_made.fl (k : Nat) : List (Nat × FDen U) := [(29, limb_Short.D k), (99, dec_Right.D k)]
noncomputable def quant_made.ll (k : Nat) : List (Nat × LDen U) := []
noncomputable def quant_made.E (k : Nat) : Env U := { P := Try.prog, D := DD, fd := lk (quant_made.fl k), ld := lk (quant_made.ll k), jd := lk quant_made.jl, mode := lk [], elc := lk ec, dyn := fun t => false, vecs := fun d => false, results := Try.f113.results.toList }
theorem quant_made.ok (k : Nat) : EnvOk (quant_made.E k) := envOk lawful (quant_made.fl k) (quant_made.ll k) quant_made.jl _ _ _ _ _ (by
  intro p hp
  simp only [quant_made.fl, List.mem_cons, List.not_mem_nil, or_false] at hp
  rcases hp with rfl | rfl
  · exact ⟨limb_Short.sound k, enter_of Try.func29 (by kernel_rfl) (by kernel_rfl)⟩
  · exact ⟨dec_Right.sound k, enter_of Try.func99 (by kernel_rfl) (by kernel_rfl)⟩) (by
  intro p hp
  simp only [quant_made.jl, List.mem_cons, List.not_mem_nil, or_false] at hp
  rcases hp with rfl | rfl
  · exact quant_made.j2000.fit
  · exact quant_made.j3000.fit)
theorem quant_made.eq (k : Nat) (x : (Bool × (Int × Int × Int × Int) × Int)) : runF (quant_made.E k) (codeOf Try.f113) (quant_made.mk x) quant_made.re = (quant_made.D k).f x := by kernel_rfl
theorem quant_made.sound (k : Nat) : Sound Try.prog DD 113 (quant_made.D k) :=
  fun_sound (E := quant_made.E k) (fn := Try.f113) (c := codeOf Try.f113) (quant_made.ok k) mixed rfl Try.func113 (by kernel_rfl) (by kernel_rfl) (allL_of (l := []) (by kernel_rfl) allL_nil) (quant_made.D k) quant_made.mk quant_made.re
    (by intro args x h; replace h : quant_made.un args = some x := h; unfold quant_made.un at h; split at h; · cases h; rfl
        · cases h)
    (by intro v y h; unfold quant_made.re at h; split at h; · cases h; rfl
        · cases h)
    (fun _ => rfl) (fun x => Nat.le_of_ble_eq_true (by kernel_rfl)) (quant_made.eq k)
/-! ### pyx/quant.rounded: function 111 -/
noncomputable def quant_rounded.f (k : Nat) (a0 : Bool) (a1 : (Int × Int × Int × Int)) (a2 : (Int × Int)) (a3 : Int) (a4 : Int) : Option (Sapi_Dec × Int) := (limb_Div.f k (a1.1, a1.2.1, a1.2.2.1, a1.2.2.2) (a2.1, a2.2)).bind fun t1 => ((limb_Short.f k (t1.1.1, t1.1.2.1, t1.1.2.2.1, t1.1.2.2.2)).bind fun t2 => (cond (!t2.2) (some ((⟨false, (0, 0), 0⟩ : Sapi_Dec), 3)) ((quant_farther.f k a0 (decide ((bits .and .u64 t2.1.1 1) > 0)) (t1.2.1.1, t1.2.1.2) (a2.1, a2.2) a4).bind fun t3 => (((cond (t3) ((limb_Of.f k 1).bind fun t4 => ((limb_Add.f k (t2.1.1, t2.1.2) (t4.1, t4.2)).bind fun t5 => (cond (!t5.2) (some (.inr ((⟨false, (0, 0), 0⟩ : Sapi_Dec), 3))) (some (.inl (a0, a3, false, 0, 0, 0, t5.1.1, t5.1.2)))))) (some (.inl (a0, a3, false, 0, 0, 0, t2.1.1, t2.1.2)))) : Option ((Bool × Int × Bool × Int × Int × Int × Int × Int) ⊕ (Sapi_Dec × Int))).bind fun | .inl y15 => ((limb_Wide.f k (y15.2.2.2.2.2.2.1, y15.2.2.2.2.2.2.2)).bind fun t16 => ((quant_made.f k y15.1 (t16.1, t16.2.1, t16.2.2.1, t16.2.2.2) y15.2.1).bind fun t17 => (some ((⟨t17.1.f_Neg, (t17.1.f_C.1, t17.1.f_C.2), t17.1.f_Scale⟩ : Sapi_Dec), t17.2)))) | .inr y18 => (some ((⟨y18.1.f_Neg, (y18.1.f_C.1, y18.1.f_C.2), y18.1.f_Scale⟩ : Sapi_Dec), y18.2))))))
noncomputable def quant_rounded.un : List (AV U) → Option (Bool × (Int × Int × Int × Int) × (Int × Int) × Int × Int) | [.flat (.bool x1), .agg [.flat (.int .u64 x2), .flat (.int .u64 x3), .flat (.int .u64 x4), .flat (.int .u64 x5)], .agg [.flat (.int .u64 x6), .flat (.int .u64 x7)], .flat (.int .i64 x8), .flat (.int .i64 x9)] => some (x1, (x2, x3, x4, x5), (x6, x7), x8, x9) | _ => none
noncomputable def quant_rounded.mk (x : (Bool × (Int × Int × Int × Int) × (Int × Int) × Int × Int)) : List (AV U) := [.flat (.bool x.1), .agg [.flat (.int .u64 x.2.1.1), .flat (.int .u64 x.2.1.2.1), .flat (.int .u64 x.2.1.2.2.1), .flat (.int .u64 x.2.1.2.2.2)], .agg [.flat (.int .u64 x.2.2.1.1), .flat (.int .u64 x.2.2.1.2)], .flat (.int .i64 x.2.2.2.1), .flat (.int .i64 x.2.2.2.2)]
noncomputable def quant_rounded.D (k : Nat) : FDen U := { X := (Bool × (Int × Int × Int × Int) × (Int × Int) × Int × Int), Y := (Sapi_Dec × Int), un := quant_rounded.un, f := fun x => quant_rounded.f k (x.1) (x.2.1) (x.2.2.1) (x.2.2.2.1) (x.2.2.2.2), fin := fun y => .tup [.agg [.flat (.bool y.1.f_Neg), .flat (.int .u64 y.1.f_C.1), .flat (.int .u64 y.1.f_C.2), .flat (.int .i64 y.1.f_Scale)], .flat (.int .i64 y.2)] }
noncomputable def quant_rounded.re : AV U → Option (Sapi_Dec × Int) | .tup [.agg [.flat (.bool x1), .flat (.int .u64 x2), .flat (.int .u64 x3), .flat (.int .i64 x4)], .flat (.int .i64 x5)] => some ((⟨x1, (x2, x3), x4⟩ : Sapi_Dec), x5) | _ => none
noncomputable def quant_rounded.j6001.fin (y : (Bool × Int × Bool × Int × Int × Int × Int × Int) ⊕ (Sapi_Dec × Int)) : Out U := match y with | .inl (x6, x7, x8, x9, x10, x11, x12, x13) => .norm ⟨[(10, .ptr 10 0), (15, .ptr 15 0), (0, .flat (.bool x6)), (3, .flat (.int .i64 x7))], [(10, .lit [.flat (.bool x8), .flat (.int .u64 x9), .flat (.int .u64 x10), .flat (.int .i64 x11)]), (15, .lit [.flat (.int .u64 x12), .flat (.int .u64 x13)])]⟩ | .inr z => .ret (.tup [.agg [.flat (.bool z.1.f_Neg), .flat (.int .u64 z.1.f_C.1), .flat (.int .u64 z.1.f_C.2), .flat (.int .i64 z.1.f_Scale)], .flat (.int .i64 z.2)])
noncomputable def quant_rounded.j6001.finK {ρ : Type} (y : (Bool × Int × Bool × Int × Int × Int × Int × Int) ⊕ (Sapi_Dec × Int)) (K : Out U → Option ρ) : Option ρ := match y with | .inl (x6, x7, x8, x9, x10, x11, x12, x13) => K (.norm ⟨[(10, .ptr 10 0), (15, .ptr 15 0), (0, .flat (.bool x6)), (3, .flat (.int .i64 x7))], [(10, .lit [.flat (.bool x8), .flat (.int .u64 x9), .flat (.int .u64 x10), .flat (.int .i64 x11)]), (15, .lit [.flat (.int .u64 x12), .flat (.int .u64 x13)])]⟩) | .inr z => K (.ret (.tup [.agg [.flat (.bool z.1.f_Neg), .flat (.int .u64 z.1.f_C.1), .flat (.int .u64 z.1.f_C.2), .flat (.int .i64 z.1.f_Scale)], .flat (.int .i64 z.2)]))
theorem quant_rounded.j6001.finK_eq {ρ : Type} (y : (Bool × Int × Bool × Int × Int × Int × Int × Int) ⊕ (Sapi_Dec × Int)) (K : Out U → Option ρ) : quant_rounded.j6001.finK y K = K (quant_rounded.j6001.fin y) := by
  unfold quant_rounded.j6001.finK quant_rounded.j6001.fin
  first | rfl | (split <;> rfl)
noncomputable def quant_rounded.j6001.re : Out U → Option ((Bool × Int × Bool × Int × Int × Int × Int × Int) ⊕ (Sapi_Dec × Int)) | .norm s => (match s.get 10, s.get 15, s.get 0, s.get 3, lk s.o 10, lk s.o 15 with | .ptr 10 0, .ptr 15 0, .flat (.bool x6), .flat (.int .i64 x7), some (.lit [.flat (.bool x8), .flat (.int .u64 x9), .flat (.int .u64 x10), .flat (.int .i64 x11)]), some (.lit [.flat (.int .u64 x12), .flat (.int .u64 x13)]) => some (.inl (x6, x7, x8, x9, x10, x11, x12, x13)) | _, _, _, _, _, _ => none) | .ret v => (match v with | .tup [.agg [.flat (.bool x1), .flat (.int .u64 x2), .flat (.int .u64 x3), .flat (.int .i64 x4)], .flat (.int .i64 x5)] => some (.inr ((⟨x1, (x2, x3), x4⟩ : Sapi_Dec), x5)) | _ => none) | _ => none
noncomputable def quant_rounded.j6001.J : JDen U := { Y := (Bool × Int × Bool × Int × Int × Int × Int × Int) ⊕ (Sapi_Dec × Int), re := quant_rounded.j6001.re, fin := quant_rounded.j6001.fin, finK := quant_rounded.j6001.finK, finK_eq := quant_rounded.j6001.finK_eq }
theorem quant_rounded.j6001.fit (o : Out U) (y : (Bool × Int × Bool × Int × Int × Int × Int × Int) ⊕ (Sapi_Dec × Int)) (h : quant_rounded.j6001.re o = some y) : FitsO o (quant_rounded.j6001.fin y) := by
  unfold quant_rounded.j6001.re at h
  split at h
  · split at h
    · cases h
      refine fitsO_norm (fits_ren [] ?_ ?_ ren_nil rfl)
      · exact List.forall_mem_cons.2 ⟨FV.same (by assumption) (fun _ _ _ hh => by cases hh) (fun _ hh => by cases hh), List.forall_mem_cons.2 ⟨FV.same (by assumption) (fun _ _ _ hh => by cases hh) (fun _ hh => by cases hh), List.forall_mem_cons.2 ⟨FV.same (by assumption) (fun _ _ _ hh => by cases hh) (fun _ hh => by cases hh), List.forall_mem_cons.2 ⟨FV.same (by assumption) (fun _ _ _ hh => by cases hh) (fun _ hh => by cases hh), fun _ hp => (List.not_mem_nil hp).elim⟩⟩⟩⟩
      · exact List.forall_mem_cons.2 ⟨(show lk (St.o _) 10 = some _ from by assumption), List.forall_mem_cons.2 ⟨(show lk (St.o _) 15 = some _ from by assumption), fun _ hp => (List.not_mem_nil hp).elim⟩⟩
    · cases h
  · split at h
    · cases h; exact fitsO_ret
    · cases h
  · cases h
noncomputable def quant_rounded.jl : List (Nat × JDen U) := [(6001, quant_rounded.j6001.J)]
noncomputable def quant_rounded.fl (k : Nat) : List (Nat × FDen U) := [(27, limb_Div.D k), (29, limb_Short.D k), (119, quant_farther.D k), (26, limb_Of.D k), (16, limb_Add.D k), (20, limb_Wide.D k), (113, quant_made.D k)]
noncomputable def quant_rounded.ll (k : Nat) : List (Nat × LDen U) := []
noncomputable def quant_rounded.E (k : Nat) : Env U := { P := Try.prog, D := DD, fd := lk (quant_rounded.fl k), ld := lk (quant_rounded.ll k), jd := lk quant_rounded.jl, mode := lk [], elc := lk ec, dyn := fun t => false, vecs := fun d => false, results := Try.f111.results.toList }
theorem quant_rounded.ok (k : Nat) : EnvOk (quant_rounded.E k) := envOk lawful (quant_rounded.fl k) (quant_rounded.ll k) quant_rounded.jl _ _ _ _ _ (by
  intro p hp
  simp only [quant_rounded.fl, List.mem_cons, List.not_mem_nil, or_false] at hp
  rcases hp with rfl | rfl | rfl | rfl | rfl | rfl | rfl
  · exact ⟨limb_Div.sound k, enter_of Try.func27 (by kernel_rfl) (by kernel_rfl)⟩
  · exact ⟨limb_Short.sound k, enter_of Try.func29 (by kernel_rfl) (by kernel_rfl)⟩
  · exact ⟨quant_farther.sound k, enter_of Try.func119 (by kernel_rfl) (by kernel_rfl)⟩
  · exact ⟨limb_Of.sound k, enter_of Try.func26 (by kernel_rfl) (by kernel_rfl)⟩
  · exact ⟨limb_Add.sound k, enter_of Try.func16 (by kernel_rfl) (by kernel_rfl)⟩
  · exact ⟨limb_Wide.sound k, enter_of Try.func20 (by kernel_rfl) (by kernel_rfl)⟩
  · exact ⟨quant_made.sound k, enter_of Try.func113 (by kernel_rfl) (by kernel_rfl)⟩) (by
  intro p hp
  simp only [quant_rounded.jl, List.mem_cons, List.not_mem_nil, or_false] at hp
  rcases hp with rfl
  · exact quant_rounded.j6001.fit)
theorem quant_rounded.eq (k : Nat) (x : (Bool × (Int × Int × Int × Int) × (Int × Int) × Int × Int)) : runF (quant_rounded.E k) (codeOf Try.f111) (quant_rounded.mk x) quant_rounded.re = (quant_rounded.D k).f x := by kernel_rfl
theorem quant_rounded.sound (k : Nat) : Sound Try.prog DD 111 (quant_rounded.D k) :=
  fun_sound (E := quant_rounded.E k) (fn := Try.f111) (c := codeOf Try.f111) (quant_rounded.ok k) mixed rfl Try.func111 (by kernel_rfl) (by kernel_rfl) (allL_of (l := []) (by kernel_rfl) allL_nil) (quant_rounded.D k) quant_rounded.mk quant_rounded.re
    (by intro args x h; replace h : quant_rounded.un args = some x := h; unfold quant_rounded.un at h; split at h; · cases h; rfl
        · cases h)
    (by intro v y h; unfold quant_rounded.re at h; split at h; · cases h; rfl
        · cases h)
    (fun _ => rfl) (fun x => Nat.le_of_ble_eq_true (by kernel_rfl)) (quant_rounded.eq k)
/-! ### pyx/quant.Times: function 96 -/
noncomputable def quant_Times.f (k : Nat) (a0 : Sapi_Dec) (a1 : Sapi_Dec) (a2 : Int) (a3 : Int) : Option (Sapi_Dec × Int) := (quant_right.f k a2 a3 [(⟨a0.f_Neg, (a0.f_C.1, a0.f_C.2), a0.f_Scale⟩ : Sapi_Dec), (⟨a1.f_Neg, (a1.f_C.1, a1.f_C.2), a1.f_Scale⟩ : Sapi_Dec)]).bind fun t1 => (cond (!t1) (some ((⟨false, (0, 0), 0⟩ : Sapi_Dec), 1)) ((limb_Mul.f k (a0.f_C.1, a0.f_C.2) (a1.f_C.1, a1.f_C.2)).bind fun t2 => (cond (decide ((IntKind.wrap .i64 ((IntKind.wrap .i64 (a2 - a0.f_Scale)) - a1.f_Scale)) < 0)) ((quant_ten.f k (IntKind.wrap .i64 (0 - (IntKind.wrap .i64 ((IntKind.wrap .i64 (a2 - a0.f_Scale)) - a1.f_Scale))))).bind fun t3 => ((quant_rounded.f k (!(a0.f_Neg == a1.f_Neg)) (t2.1, t2.2.1, t2.2.2.1, t2.2.2.2) (t3.1, t3.2) a2 a3).bind fun t4 => (some ((⟨t4.1.f_Neg, (t4.1.f_C.1, t4.1.f_C.2), t4.1.f_Scale⟩ : Sapi_Dec), t4.2)))) ((quant_made.f k (!(a0.f_Neg == a1.f_Neg)) (t2.1, t2.2.1, t2.2.2.1, t2.2.2.2) 0).bind fun t5 => (cond (t5.2 != 0) (some ((⟨false, (0, 0), 0⟩ : Sapi_Dec), t5.2)) ((quant_ten.f k (IntKind.wrap .i64 ((IntKind.wrap .i64 (a2 - a0.f_Scale)) - a1.f_Scale))).bind fun t6 => ((limb_Mul.f k (t5.1.f_C.1, t5.1.f_C.2) (t6.1, t6.2)).bind fun t7 => ((quant_made.f k (!(a0.f_Neg == a1.f_Neg)) (t7.1, t7.2.1, t7.2.2.1, t7.2.2.2) a2).bind fun t8 => (some ((⟨t8.1.f_Neg, (t8.1.f_C.1, t8.1.f_C.2), t8.1.f_Scale⟩ : Sapi_Dec), t8.2))))))))))
noncomputable def quant_Times.un : List (AV U) → Option (Sapi_Dec × Sapi_Dec × Int × Int) | [.agg [.flat (.bool x1), .flat (.int .u64 x2), .flat (.int .u64 x3), .flat (.int .i64 x4)], .agg [.flat (.bool x5), .flat (.int .u64 x6), .flat (.int .u64 x7), .flat (.int .i64 x8)], .flat (.int .i64 x9), .flat (.int .i64 x10)] => some ((⟨x1, (x2, x3), x4⟩ : Sapi_Dec), (⟨x5, (x6, x7), x8⟩ : Sapi_Dec), x9, x10) | _ => none
noncomputable def quant_Times.mk (x : (Sapi_Dec × Sapi_Dec × Int × Int)) : List (AV U) := [.agg [.flat (.bool x.1.f_Neg), .flat (.int .u64 x.1.f_C.1), .flat (.int .u64 x.1.f_C.2), .flat (.int .i64 x.1.f_Scale)], .agg [.flat (.bool x.2.1.f_Neg), .flat (.int .u64 x.2.1.f_C.1), .flat (.int .u64 x.2.1.f_C.2), .flat (.int .i64 x.2.1.f_Scale)], .flat (.int .i64 x.2.2.1), .flat (.int .i64 x.2.2.2)]
noncomputable def quant_Times.D (k : Nat) : FDen U := { X := (Sapi_Dec × Sapi_Dec × Int × Int), Y := (Sapi_Dec × Int), un := quant_Times.un, f := fun x => quant_Times.f k (x.1) (x.2.1) (x.2.2.1) (x.2.2.2), fin := fun y => .tup [.agg [.flat (.bool y.1.f_Neg), .flat (.int .u64 y.1.f_C.1), .flat (.int .u64 y.1.f_C.2), .flat (.int .i64 y.1.f_Scale)], .flat (.int .i64 y.2)] }
noncomputable def quant_Times.re : AV U → Option (Sapi_Dec × Int) | .tup [.agg [.flat (.bool x1), .flat (.int .u64 x2), .flat (.int .u64 x3), .flat (.int .i64 x4)], .flat (.int .i64 x5)] => some ((⟨x1, (x2, x3), x4⟩ : Sapi_Dec), x5) | _ => none
noncomputable def quant_Times.jl : List (Nat × JDen U) := []
noncomputable def quant_Times.fl (k : Nat) : List (Nat × FDen U) := [(110, quant_right.D k), (25, limb_Mul.D k), (112, quant_ten.D k), (111, quant_rounded.D k), (113, quant_made.D k)]
noncomputable def quant_Times.ll (k : Nat) : List (Nat × LDen U) := []
noncomputable def quant_Times.E (k : Nat) : Env U := { P := Try.prog, D := DD, fd := lk (quant_Times.fl k), ld := lk (quant_Times.ll k), jd := lk quant_Times.jl, mode := lk [], elc := lk ec, dyn := fun t => false, vecs := fun d => false, results := Try.f96.results.toList }
theorem quant_Times.ok (k : Nat) : EnvOk (quant_Times.E k) := envOk lawful (quant_Times.fl k) (quant_Times.ll k) quant_Times.jl _ _ _ _ _ (by
  intro p hp
  simp only [quant_Times.fl, List.mem_cons, List.not_mem_nil, or_false] at hp
  rcases hp with rfl | rfl | rfl | rfl | rfl
  · exact ⟨quant_right.sound k, enter_of Try.func110 (by kernel_rfl) (by kernel_rfl)⟩
  · exact ⟨limb_Mul.sound k, enter_of Try.func25 (by kernel_rfl) (by kernel_rfl)⟩
  · exact ⟨quant_ten.sound k, enter_of Try.func112 (by kernel_rfl) (by kernel_rfl)⟩
  · exact ⟨quant_rounded.sound k, enter_of Try.func111 (by kernel_rfl) (by kernel_rfl)⟩
  · exact ⟨quant_made.sound k, enter_of Try.func113 (by kernel_rfl) (by kernel_rfl)⟩) (by
  intro p hp
  simp [quant_Times.jl] at hp)
theorem quant_Times.eq (k : Nat) (x : (Sapi_Dec × Sapi_Dec × Int × Int)) : runF (quant_Times.E k) (codeOf Try.f96) (quant_Times.mk x) quant_Times.re = (quant_Times.D k).f x := by kernel_rfl
theorem quant_Times.sound (k : Nat) : Sound Try.prog DD 96 (quant_Times.D k) :=
  fun_sound (E := quant_Times.E k) (fn := Try.f96) (c := codeOf Try.f96) (quant_Times.ok k) mixed rfl Try.func96 (by kernel_rfl) (by kernel_rfl) (allL_of (l := []) (by kernel_rfl) allL_nil) (quant_Times.D k) quant_Times.mk quant_Times.re
    (by intro args x h; replace h : quant_Times.un args = some x := h; unfold quant_Times.un at h; split at h; · cases h; rfl
        · cases h)
    (by intro v y h; unfold quant_Times.re at h; split at h; · cases h; rfl
        · cases h)
    (fun _ => rfl) (fun x => Nat.le_of_ble_eq_true (by kernel_rfl)) (quant_Times.eq k)
/-! ### pyx/own.Part: function 56 -/
noncomputable def own_Part.l4.once (k : Nat) (x : (List Sapi_Ent × Int × Bool × Int × Int × Int × Bool × Int × Int × Int)) : Option ((List Sapi_Ent × Int × Bool × Int × Int × Int × Bool × Int × Int × Int) ⊕ ((Bool × Int × Int × Int × Bool × Int × Int × Int))) := match x with | (x4, x5, x6, x7, x8, x9, x10, x11, x12, x13) => cond (decide (x5 ≥ 0)) (cond (inb x5 (List.length x4)) ((dec_Of.f k ((List.getD x4 (Int.toNat x5) Sapi_Ent.zero).f_Share) 4).bind fun t14 => ((quant_Times.f k (⟨x10, (x11, x12), x13⟩ : Sapi_Dec) (⟨t14.f_Neg, (t14.f_C.1, t14.f_C.2), t14.f_Scale⟩ : Sapi_Dec) 6 4).bind fun t15 => (cond (inb x5 (List.length x4)) (some (.inl (x4, (List.getD x4 (Int.toNat x5) Sapi_Ent.zero).f_Parent, x6, x7, x8, x9, t15.1.f_Neg, t15.1.f_C.1, t15.1.f_C.2, t15.1.f_Scale))) none))) none) (some (.inr (x6, x7, x8, x9, x10, x11, x12, x13)))
noncomputable def own_Part.f (k : Nat) (a0 : List Sapi_Ent) (a1 : Int) : Option Sapi_Dec := (own_right.f k a0 a1).bind fun t1 => (cond (!t1) (some (⟨false, (0, 0), 0⟩ : Sapi_Dec)) ((dec_Of.f k 1 0).bind fun t2 => ((dec_Scaled.f k (⟨t2.f_Neg, (t2.f_C.1, t2.f_C.2), t2.f_Scale⟩ : Sapi_Dec) 6).bind fun t3 => ((iter (own_Part.l4.once k) k (a0, a1, false, 0, 0, 0, t3.1.f_Neg, t3.1.f_C.1, t3.1.f_C.2, t3.1.f_Scale)).bind fun y24 => (some (⟨y24.2.2.2.2.1, (y24.2.2.2.2.2.1, y24.2.2.2.2.2.2.1), y24.2.2.2.2.2.2.2⟩ : Sapi_Dec))))))
noncomputable def own_Part.un : List (AV U) → Option (List Sapi_Ent × Int) | [.row C.Sapi_Ent x1, .flat (.int .i64 x2)] => some (x1, x2) | _ => none
noncomputable def own_Part.mk (x : (List Sapi_Ent × Int)) : List (AV U) := [.row C.Sapi_Ent x.1, .flat (.int .i64 x.2)]
noncomputable def own_Part.D (k : Nat) : FDen U := { X := (List Sapi_Ent × Int), Y := Sapi_Dec, un := own_Part.un, f := fun x => own_Part.f k (x.1) (x.2), fin := fun y => .agg [.flat (.bool y.f_Neg), .flat (.int .u64 y.f_C.1), .flat (.int .u64 y.f_C.2), .flat (.int .i64 y.f_Scale)] }
noncomputable def own_Part.re : AV U → Option Sapi_Dec | .agg [.flat (.bool x1), .flat (.int .u64 x2), .flat (.int .u64 x3), .flat (.int .i64 x4)] => some (⟨x1, (x2, x3), x4⟩ : Sapi_Dec) | _ => none
noncomputable def own_Part.l4.mk (x : (List Sapi_Ent × Int × Bool × Int × Int × Int × Bool × Int × Int × Int)) : St U := match x with | (x4, x5, x6, x7, x8, x9, x10, x11, x12, x13) => ⟨[(4, .ptr 4 0), (5, .ptr 5 0), (0, .row C.Sapi_Ent x4), (1, .flat (.int .i64 x5))], [(4, .lit [.flat (.bool x6), .flat (.int .u64 x7), .flat (.int .u64 x8), .flat (.int .i64 x9)]), (5, .lit [.flat (.bool x10), .flat (.int .u64 x11), .flat (.int .u64 x12), .flat (.int .i64 x13)])]⟩
noncomputable def own_Part.l4.un (s : St U) : Option (List Sapi_Ent × Int × Bool × Int × Int × Int × Bool × Int × Int × Int) := (row_Sapi_Ent (s.get 0)).bind fun q0 => (match s.get 4, s.get 5, s.get 1, lk s.o 4, lk s.o 5 with | .ptr 4 0, .ptr 5 0, .flat (.int .i64 x5), some (.lit [.flat (.bool x6), .flat (.int .u64 x7), .flat (.int .u64 x8), .flat (.int .i64 x9)]), some (.lit [.flat (.bool x10), .flat (.int .u64 x11), .flat (.int .u64 x12), .flat (.int .i64 x13)]) => some (q0, x5, x6, x7, x8, x9, x10, x11, x12, x13) | _, _, _, _, _ => none)
noncomputable def own_Part.l4.fin (y : (Bool × Int × Int × Int × Bool × Int × Int × Int)) : Out U := match y with | (x16, x17, x18, x19, x20, x21, x22, x23) => .exit 0 ⟨[(4, .ptr 4 0), (5, .ptr 5 0)], [(4, .lit [.flat (.bool x16), .flat (.int .u64 x17), .flat (.int .u64 x18), .flat (.int .i64 x19)]), (5, .lit [.flat (.bool x20), .flat (.int .u64 x21), .flat (.int .u64 x22), .flat (.int .i64 x23)])]⟩
noncomputable def own_Part.l4.finK {ρ : Type} (y : (Bool × Int × Int × Int × Bool × Int × Int × Int)) (K : Out U → Option ρ) : Option ρ := match y with | (x16, x17, x18, x19, x20, x21, x22, x23) => K (.exit 0 ⟨[(4, .ptr 4 0), (5, .ptr 5 0)], [(4, .lit [.flat (.bool x16), .flat (.int .u64 x17), .flat (.int .u64 x18), .flat (.int .i64 x19)]), (5, .lit [.flat (.bool x20), .flat (.int .u64 x21), .flat (.int .u64 x22), .flat (.int .i64 x23)])]⟩)
theorem own_Part.l4.finK_eq {ρ : Type} (y : (Bool × Int × Int × Int × Bool × Int × Int × Int)) (K : Out U → Option ρ) : own_Part.l4.finK y K = K (own_Part.l4.fin y) := by
  unfold own_Part.l4.finK own_Part.l4.fin
  first | rfl | (split <;> rfl)
noncomputable def own_Part.l4.re : Out U → Option ((Bool × Int × Int × Int × Bool × Int × Int × Int)) | .exit 0 s => (match s.get 4, s.get 5, lk s.o 4, lk s.o 5 with | .ptr 4 0, .ptr 5 0, some (.lit [.flat (.bool x16), .flat (.int .u64 x17), .flat (.int .u64 x18), .flat (.int .i64 x19)]), some (.lit [.flat (.bool x20), .flat (.int .u64 x21), .flat (.int .u64 x22), .flat (.int .i64 x23)]) => some (x16, x17, x18, x19, x20, x21, x22, x23) | _, _, _, _ => none) | _ => none
noncomputable def own_Part.l4.L (k : Nat) : LDen U := { X := (List Sapi_Ent × Int × Bool × Int × Int × Int × Bool × Int × Int × Int), Y := (Bool × Int × Int × Int × Bool × Int × Int × Int), un := own_Part.l4.un, f := iter (own_Part.l4.once k) k, fin := own_Part.l4.fin, finK := own_Part.l4.finK, finK_eq := own_Part.l4.finK_eq }
noncomputable def own_Part.jl : List (Nat × JDen U) := []
noncomputable def own_Part.fl (k : Nat) : List (Nat × FDen U) := [(93, own_right.D k), (95, dec_Of.D k), (94, dec_Scaled.D k), (96, quant_Times.D k)]
noncomputable def own_Part.ll (k : Nat) : List (Nat × LDen U) := [(4, own_Part.l4.L k)]
noncomputable def own_Part.E (k : Nat) : Env U := { P := Try.prog, D := DD, fd := lk (own_Part.fl k), ld := lk (own_Part.ll k), jd := lk own_Part.jl, mode := lk [], elc := lk ec, dyn := fun t => false, vecs := fun d => false, results := Try.f56.results.toList }
theorem own_Part.ok (k : Nat) : EnvOk (own_Part.E k) := envOk lawful (own_Part.fl k) (own_Part.ll k) own_Part.jl _ _ _ _ _ (by
  intro p hp
  simp only [own_Part.fl, List.mem_cons, List.not_mem_nil, or_false] at hp
  rcases hp with rfl | rfl | rfl | rfl
  · exact ⟨own_right.sound k, enter_of Try.func93 (by kernel_rfl) (by kernel_rfl)⟩
  · exact ⟨dec_Of.sound k, enter_of Try.func95 (by kernel_rfl) (by kernel_rfl)⟩
  · exact ⟨dec_Scaled.sound k, enter_of Try.func94 (by kernel_rfl) (by kernel_rfl)⟩
  · exact ⟨quant_Times.sound k, enter_of Try.func96 (by kernel_rfl) (by kernel_rfl)⟩) (by
  intro p hp
  simp [own_Part.jl] at hp)
theorem own_Part.l4.eq (k : Nat) (x : (List Sapi_Ent × Int × Bool × Int × Int × Int × Bool × Int × Int × Int)) : evC (own_Part.E k) (loopAt Try.f56 4) (own_Part.l4.mk x) (headK own_Part.l4.un own_Part.l4.re) = own_Part.l4.once k x := by kernel_rfl
theorem own_Part.l4.fit (s : St U) (x : (List Sapi_Ent × Int × Bool × Int × Int × Int × Bool × Int × Int × Int)) (h : own_Part.l4.un s = some x) : Fits s (own_Part.l4.mk x) := by
  unfold own_Part.l4.un at h
  obtain ⟨q0, eq0, h1⟩ := Option.bind_eq_some_iff.1 h
  split at h1
  · cases h1
    refine fits_ren [] ?_ ?_ ren_nil rfl
    · exact List.forall_mem_cons.2 ⟨FV.same (by assumption) (fun _ _ _ hh => by cases hh) (fun _ hh => by cases hh), List.forall_mem_cons.2 ⟨FV.same (by assumption) (fun _ _ _ hh => by cases hh) (fun _ hh => by cases hh), List.forall_mem_cons.2 ⟨row_Sapi_Ent_fit eq0, List.forall_mem_cons.2 ⟨FV.same (by assumption) (fun _ _ _ hh => by cases hh) (fun _ hh => by cases hh), fun _ hp => (List.not_mem_nil hp).elim⟩⟩⟩⟩
    · exact List.forall_mem_cons.2 ⟨(show lk (St.o _) 4 = some _ from by assumption), List.forall_mem_cons.2 ⟨(show lk (St.o _) 5 = some _ from by assumption), fun _ hp => (List.not_mem_nil hp).elim⟩⟩
  · cases h1
theorem own_Part.l4.fitO (o : Out U) (y : (Bool × Int × Int × Int × Bool × Int × Int × Int)) (h : own_Part.l4.re o = some y) : FitsO o (own_Part.l4.fin y) := by
  unfold own_Part.l4.re at h
  split at h
  · split at h
    · cases h
      refine fitsO_exit (fits_ren [] ?_ ?_ ren_nil rfl)
      · exact List.forall_mem_cons.2 ⟨FV.same (by assumption) (fun _ _ _ hh => by cases hh) (fun _ hh => by cases hh), List.forall_mem_cons.2 ⟨FV.same (by assumption) (fun _ _ _ hh => by cases hh) (fun _ hh => by cases hh), fun _ hp => (List.not_mem_nil hp).elim⟩⟩
      · exact List.forall_mem_cons.2 ⟨(show lk (St.o _) 4 = some _ from by assumption), List.forall_mem_cons.2 ⟨(show lk (St.o _) 5 = some _ from by assumption), fun _ hp => (List.not_mem_nil hp).elim⟩⟩
    · cases h
  · cases h
theorem own_Part.l4.sound (k : Nat) : LSound (own_Part.E k) Try.f56.ntmps Try.f56 (loopAt Try.f56 4) (own_Part.l4.L k) :=
  loop_sound (own_Part.ok k) mixed rfl (by kernel_rfl) (allL_of (l := []) (by kernel_rfl) allL_nil) own_Part.l4.un own_Part.l4.mk own_Part.l4.fin own_Part.l4.re (own_Part.l4.once k) k own_Part.l4.fit own_Part.l4.fitO (own_Part.l4.eq k) own_Part.l4.finK own_Part.l4.finK_eq
theorem own_Part.eq (k : Nat) (x : (List Sapi_Ent × Int)) : runF (own_Part.E k) (codeOf Try.f56) (own_Part.mk x) own_Part.re = (own_Part.D k).f x := by kernel_rfl
theorem own_Part.sound (k : Nat) : Sound Try.prog DD 56 (own_Part.D k) :=
  fun_sound (E := own_Part.E k) (fn := Try.f56) (c := codeOf Try.f56) (own_Part.ok k) mixed rfl Try.func56 (by kernel_rfl) (by kernel_rfl) (allL_of (l := [loopAt Try.f56 4]) (by kernel_rfl) (allL_cons (key := 4) (by kernel_rfl) rfl (own_Part.l4.sound k) allL_nil)) (own_Part.D k) own_Part.mk own_Part.re
    (by intro args x h; replace h : own_Part.un args = some x := h; unfold own_Part.un at h; split at h; · cases h; rfl
        · cases h)
    (by intro v y h; unfold own_Part.re at h; split at h; · cases h; rfl
        · cases h)
    (fun _ => rfl) (fun x => Nat.le_of_ble_eq_true (by kernel_rfl)) (own_Part.eq k)
/-! ### pyx/pyxref1.Make: function 83 -/
noncomputable def pyxref1_Make.f (k : Nat) (a0 : Bool) (a1 : List Int) (a2 : Int) : Option (Sapi_Dec × Int) := ((cond (decide ((List.length a1 : Int) > 30)) (some (a0, a1, a2, true, false, 0, 0, 0)) (cond (decide (a2 < 0)) (some (a0, a1, a2, true, false, 0, 0, 0)) (some (a0, a1, a2, decide (a2 > 9), false, 0, 0, 0)))) : Option (Bool × List Int × Int × Bool × Bool × Int × Int × Int)).bind fun y9 => (cond (y9.2.2.2.1) (some ((⟨false, (0, 0), 0⟩ : Sapi_Dec), 3)) ((pyxref1_Words2.f k y9.2.1).bind fun t10 => (cond (y9.1) (some ((⟨decide ((List.length y9.2.1 : Int) > 0), (t10.1.1, t10.1.2), y9.2.2.1⟩ : Sapi_Dec), 0)) (some ((⟨false, (t10.1.1, t10.1.2), y9.2.2.1⟩ : Sapi_Dec), 0)))))
noncomputable def pyxref1_Make.un : List (AV U) → Option (Bool × List Int × Int) | [.flat (.bool x1), .row C.i64 x2, .flat (.int .i64 x3)] => some (x1, x2, x3) | _ => none
noncomputable def pyxref1_Make.mk (x : (Bool × List Int × Int)) : List (AV U) := [.flat (.bool x.1), .row C.i64 x.2.1, .flat (.int .i64 x.2.2)]
noncomputable def pyxref1_Make.D (k : Nat) : FDen U := { X := (Bool × List Int × Int), Y := (Sapi_Dec × Int), un := pyxref1_Make.un, f := fun x => pyxref1_Make.f k (x.1) (x.2.1) (x.2.2), fin := fun y => .tup [.agg [.flat (.bool y.1.f_Neg), .flat (.int .u64 y.1.f_C.1), .flat (.int .u64 y.1.f_C.2), .flat (.int .i64 y.1.f_Scale)], .flat (.int .i64 y.2)] }
noncomputable def pyxref1_Make.re : AV U → Option (Sapi_Dec × Int) | .tup [.agg [.flat (.bool x1), .flat (.int .u64 x2), .flat (.int .u64 x3), .flat (.int .i64 x4)], .flat (.int .i64 x5)] => some ((⟨x1, (x2, x3), x4⟩ : Sapi_Dec), x5) | _ => none
noncomputable def pyxref1_Make.j1000.fin (y : (Bool × List Int × Int × Bool × Bool × Int × Int × Int)) : Out U := match y with | (x1, x2, x3, x8, x4, x5, x6, x7) => .norm ⟨[(6, .ptr 6 0), (0, .flat (.bool x1)), (1, .row C.i64 x2), (2, .flat (.int .i64 x3)), (20, .flat (.bool x8))], [(6, .lit [.flat (.bool x4), .flat (.int .u64 x5), .flat (.int .u64 x6), .flat (.int .i64 x7)])]⟩
noncomputable def pyxref1_Make.j1000.finK {ρ : Type} (y : (Bool × List Int × Int × Bool × Bool × Int × Int × Int)) (K : Out U → Option ρ) : Option ρ := match y with | (x1, x2, x3, x8, x4, x5, x6, x7) => K (.norm ⟨[(6, .ptr 6 0), (0, .flat (.bool x1)), (1, .row C.i64 x2), (2, .flat (.int .i64 x3)), (20, .flat (.bool x8))], [(6, .lit [.flat (.bool x4), .flat (.int .u64 x5), .flat (.int .u64 x6), .flat (.int .i64 x7)])]⟩)
theorem pyxref1_Make.j1000.finK_eq {ρ : Type} (y : (Bool × List Int × Int × Bool × Bool × Int × Int × Int)) (K : Out U → Option ρ) : pyxref1_Make.j1000.finK y K = K (pyxref1_Make.j1000.fin y) := by
  unfold pyxref1_Make.j1000.finK pyxref1_Make.j1000.fin
  first | rfl | (split <;> rfl)
noncomputable def pyxref1_Make.j1000.re : Out U → Option ((Bool × List Int × Int × Bool × Bool × Int × Int × Int)) | .norm s => ((row_i64 (s.get 1)).bind fun q0 => (match s.get 6, s.get 0, s.get 2, s.get 20, lk s.o 6 with | .ptr 6 0, .flat (.bool x1), .flat (.int .i64 x3), .flat (.bool x8), some (.lit [.flat (.bool x4), .flat (.int .u64 x5), .flat (.int .u64 x6), .flat (.int .i64 x7)]) => some (x1, q0, x3, x8, x4, x5, x6, x7) | _, _, _, _, _ => none)) | _ => none
noncomputable def pyxref1_Make.j1000.J : JDen U := { Y := (Bool × List Int × Int × Bool × Bool × Int × Int × Int), re := pyxref1_Make.j1000.re, fin := pyxref1_Make.j1000.fin, finK := pyxref1_Make.j1000.finK, finK_eq := pyxref1_Make.j1000.finK_eq }
theorem pyxref1_Make.j1000.fit (o : Out U) (y : (Bool × List Int × Int × Bool × Bool × Int × Int × Int)) (h : pyxref1_Make.j1000.re o = some y) : FitsO o (pyxref1_Make.j1000.fin y) := by
  unfold pyxref1_Make.j1000.re at h
  split at h
  · obtain ⟨q0, eq0, h1⟩ := Option.bind_eq_some_iff.1 h
    split at h1
    · cases h1
      refine fitsO_norm (fits_ren [] ?_ ?_ ren_nil rfl)
      · exact List.forall_mem_cons.2 ⟨FV.same (by assumption) (fun _ _ _ hh => by cases hh) (fun _ hh => by cases hh), List.forall_mem_cons.2 ⟨FV.same (by assumption) (fun _ _ _ hh => by cases hh) (fun _ hh => by cases hh), List.forall_mem_cons.2 ⟨row_i64_fit eq0, List.forall_mem_cons.2 ⟨FV.same (by assumption) (fun _ _ _ hh => by cases hh) (fun _ hh => by cases hh), List.forall_mem_cons.2 ⟨FV.same (by assumption) (fun _ _ _ hh => by cases hh) (fun _ hh => by cases hh), fun _ hp => (List.not_mem_nil hp).elim⟩⟩⟩⟩⟩
      · exact List.forall_mem_cons.2 ⟨(show lk (St.o _) 6 = some _ from by assumption), fun _ hp => (List.not_mem_nil hp).elim⟩
    · cases h1
  · cases h
noncomputable def pyxref1_Make.jl : List (Nat × JDen U) := [(1000, pyxref1_Make.j1000.J)]
noncomputable def pyxref1_Make.fl (k : Nat) : List (Nat × FDen U) := [(31, pyxref1_Words2.D k)]
noncomputable def pyxref1_Make.ll (k : Nat) : List (Nat × LDen U) := []
noncomputable def pyxref1_Make.E (k : Nat) : Env U := { P := Try.prog, D := DD, fd := lk (pyxref1_Make.fl k), ld := lk (pyxref1_Make.ll k), jd := lk pyxref1_Make.jl, mode := lk [], elc := lk ec, dyn := fun t => false, vecs := fun d => false, results := Try.f83.results.toList }
theorem pyxref1_Make.ok (k : Nat) : EnvOk (pyxref1_Make.E k) := envOk lawful (pyxref1_Make.fl k) (pyxref1_Make.ll k) pyxref1_Make.jl _ _ _ _ _ (by
  intro p hp
  simp only [pyxref1_Make.fl, List.mem_cons, List.not_mem_nil, or_false] at hp
  rcases hp with rfl
  · exact ⟨pyxref1_Words2.sound k, enter_of Try.func31 (by kernel_rfl) (by kernel_rfl)⟩) (by
  intro p hp
  simp only [pyxref1_Make.jl, List.mem_cons, List.not_mem_nil, or_false] at hp
  rcases hp with rfl
  · exact pyxref1_Make.j1000.fit)
theorem pyxref1_Make.eq (k : Nat) (x : (Bool × List Int × Int)) : runF (pyxref1_Make.E k) (codeOf Try.f83) (pyxref1_Make.mk x) pyxref1_Make.re = (pyxref1_Make.D k).f x := by kernel_rfl
theorem pyxref1_Make.sound (k : Nat) : Sound Try.prog DD 83 (pyxref1_Make.D k) :=
  fun_sound (E := pyxref1_Make.E k) (fn := Try.f83) (c := codeOf Try.f83) (pyxref1_Make.ok k) mixed rfl Try.func83 (by kernel_rfl) (by kernel_rfl) (allL_of (l := []) (by kernel_rfl) allL_nil) (pyxref1_Make.D k) pyxref1_Make.mk pyxref1_Make.re
    (by intro args x h; replace h : pyxref1_Make.un args = some x := h; unfold pyxref1_Make.un at h; split at h; · cases h; rfl
        · cases h)
    (by intro v y h; unfold pyxref1_Make.re at h; split at h; · cases h; rfl
        · cases h)
    (fun _ => rfl) (fun x => Nat.le_of_ble_eq_true (by kernel_rfl)) (pyxref1_Make.eq k)
/-! ### pyx/pyxref1.Of: function 52 -/
noncomputable def pyxref1_Of.f (k : Nat) (a0 : Int) (a1 : Int) : Option Sapi_Dec := ((cond (decide (a0 < 0)) (some (a1, decide (a0 < 0), IntKind.wrap .u64 (0 - (IntKind.wrap .u64 (a0))), false, 0, 0, 0)) (some (a1, decide (a0 < 0), IntKind.wrap .u64 (a0), false, 0, 0, 0))) : Option (Int × Bool × Int × Bool × Int × Int × Int)).bind fun y8 => ((pyxref1_Word.f k y8.2.2.1).bind fun t9 => ((pyxref1_Within.f k y8.1 0 9).bind fun t10 => ((pyxref1_Make.f k y8.2.1 t9 t10).bind fun t11 => (some (⟨t11.1.f_Neg, (t11.1.f_C.1, t11.1.f_C.2), t11.1.f_Scale⟩ : Sapi_Dec)))))
noncomputable def pyxref1_Of.un : List (AV U) → Option (Int × Int) | [.flat (.int .i64 x1), .flat (.int .i64 x2)] => some (x1, x2) | _ => none
noncomputable def pyxref1_Of.mk (x : (Int × Int)) : List (AV U) := [.flat (.int .i64 x.1), .flat (.int .i64 x.2)]
noncomputable def pyxref1_Of.D (k : Nat) : FDen U := { X := (Int × Int), Y := Sapi_Dec, un := pyxref1_Of.un, f := fun x => pyxref1_Of.f k (x.1) (x.2), fin := fun y => .agg [.flat (.bool y.f_Neg), .flat (.int .u64 y.f_C.1), .flat (.int .u64 y.f_C.2), .flat (.int .i64 y.f_Scale)] }
noncomputable def pyxref1_Of.re : AV U → Option Sapi_Dec | .agg [.flat (.bool x1), .flat (.int .u64 x2), .flat (.int .u64 x3), .flat (.int .i64 x4)] => some (⟨x1, (x2, x3), x4⟩ : Sapi_Dec) | _ => none
noncomputable def pyxref1_Of.j4001.fin (y : (Int × Bool × Int × Bool × Int × Int × Int)) : Out U := match y with | (x1, x6, x7, x2, x3, x4, x5) => .norm ⟨[(4, .ptr 4 0), (1, .flat (.int .i64 x1)), (5, .flat (.bool x6)), (6, .flat (.int .u64 x7))], [(4, .lit [.flat (.bool x2), .flat (.int .u64 x3), .flat (.int .u64 x4), .flat (.int .i64 x5)])]⟩
noncomputable def pyxref1_Of.j4001.finK {ρ : Type} (y : (Int × Bool × Int × Bool × Int × Int × Int)) (K : Out U → Option ρ) : Option ρ := match y with | (x1, x6, x7, x2, x3, x4, x5) => K (.norm ⟨[(4, .ptr 4 0), (1, .flat (.int .i64 x1)), (5, .flat (.bool x6)), (6, .flat (.int .u64 x7))], [(4, .lit [.flat (.bool x2), .flat (.int .u64 x3), .flat (.int .u64 x4), .flat (.int .i64 x5)])]⟩)
theorem pyxref1_Of.j4001.finK_eq {ρ : Type} (y : (Int × Bool × Int × Bool × Int × Int × Int)) (K : Out U → Option ρ) : pyxref1_Of.j4001.finK y K = K (pyxref1_Of.j4001.fin y) := by
  unfold pyxref1_Of.j4001.finK pyxref1_Of.j4001.fin
  first | rfl | (split <;> rfl)
noncomputable def pyxref1_Of.j4001.re : Out U → Option ((Int × Bool × Int × Bool × Int × Int × Int)) | .norm s => (match s.get 4, s.get 1, s.get 5, s.get 6, lk s.o 4 with | .ptr 4 0, .flat (.int .i64 x1), .flat (.bool x6), .flat (.int .u64 x7), some (.lit [.flat (.bool x2), .flat (.int .u64 x3), .flat (.int .u64 x4), .flat (.int .i64 x5)]) => some (x1, x6, x7, x2, x3, x4, x5) | _, _, _, _, _ => none) | _ => none
noncomputable def pyxref1_Of.j4001.J : JDen U := { Y := (Int × Bool × Int × Bool × Int × Int × Int), re := pyxref1_Of.j4001.re, fin := pyxref1_Of.j4001.fin, finK := pyxref1_Of.j4001.finK, finK_eq := pyxref1_Of.j4001.finK_eq }
theorem pyxref1_Of.j4001.fit (o : Out U) (y : (Int × Bool × Int × Bool × Int × Int × Int)) (h : pyxref1_Of.j4001.re o = some y) : FitsO o (pyxref1_Of.j4001.fin y) := by
  unfold pyxref1_Of.j4001.re at h
  split at h
  · split at h
    · cases h
      refine fitsO_norm (fits_ren [] ?_ ?_ ren_nil rfl)
      · exact List.forall_mem_cons.2 ⟨FV.same (by assumption) (fun _ _ _ hh => by cases hh) (fun _ hh => by cases hh), List.forall_mem_cons.2 ⟨FV.same (by assumption) (fun _ _ _ hh => by cases hh) (fun _ hh => by cases hh), List.forall_mem_cons.2 ⟨FV.same (by assumption) (fun _ _ _ hh => by cases hh) (fun _ hh => by cases hh), List.forall_mem_cons.2 ⟨FV.same (by assumption) (fun _ _ _ hh => by cases hh) (fun _ hh => by cases hh), fun _ hp => (List.not_mem_nil hp).elim⟩⟩⟩⟩
      · exact List.forall_mem_cons.2 ⟨(show lk (St.o _) 4 = some _ from by assumption), fun _ hp => (List.not_mem_nil hp).elim⟩
    · cases h
  · cases h
noncomputable def pyxref1_Of.jl : List (Nat × JDen U) := [(4001, pyxref1_Of.j4001.J)]
noncomputable def pyxref1_Of.fl (k : Nat) : List (Nat × FDen U) := [(67, pyxref1_Word.D k), (74, pyxref1_Within.D k), (83, pyxref1_Make.D k)]
noncomputable def pyxref1_Of.ll (k : Nat) : List (Nat × LDen U) := []
noncomputable def pyxref1_Of.E (k : Nat) : Env U := { P := Try.prog, D := DD, fd := lk (pyxref1_Of.fl k), ld := lk (pyxref1_Of.ll k), jd := lk pyxref1_Of.jl, mode := lk [], elc := lk ec, dyn := fun t => false, vecs := fun d => false, results := Try.f52.results.toList }
theorem pyxref1_Of.ok (k : Nat) : EnvOk (pyxref1_Of.E k) := envOk lawful (pyxref1_Of.fl k) (pyxref1_Of.ll k) pyxref1_Of.jl _ _ _ _ _ (by
  intro p hp
  simp only [pyxref1_Of.fl, List.mem_cons, List.not_mem_nil, or_false] at hp
  rcases hp with rfl | rfl | rfl
  · exact ⟨pyxref1_Word.sound k, enter_of Try.func67 (by kernel_rfl) (by kernel_rfl)⟩
  · exact ⟨pyxref1_Within.sound k, enter_of Try.func74 (by kernel_rfl) (by kernel_rfl)⟩
  · exact ⟨pyxref1_Make.sound k, enter_of Try.func83 (by kernel_rfl) (by kernel_rfl)⟩) (by
  intro p hp
  simp only [pyxref1_Of.jl, List.mem_cons, List.not_mem_nil, or_false] at hp
  rcases hp with rfl
  · exact pyxref1_Of.j4001.fit)
theorem pyxref1_Of.eq (k : Nat) (x : (Int × Int)) : runF (pyxref1_Of.E k) (codeOf Try.f52) (pyxref1_Of.mk x) pyxref1_Of.re = (pyxref1_Of.D k).f x := by kernel_rfl
theorem pyxref1_Of.sound (k : Nat) : Sound Try.prog DD 52 (pyxref1_Of.D k) :=
  fun_sound (E := pyxref1_Of.E k) (fn := Try.f52) (c := codeOf Try.f52) (pyxref1_Of.ok k) mixed rfl Try.func52 (by kernel_rfl) (by kernel_rfl) (allL_of (l := []) (by kernel_rfl) allL_nil) (pyxref1_Of.D k) pyxref1_Of.mk pyxref1_Of.re
    (by intro args x h; replace h : pyxref1_Of.un args = some x := h; unfold pyxref1_Of.un at h; split at h; · cases h; rfl
        · cases h)
    (by intro v y h; unfold pyxref1_Of.re at h; split at h; · cases h; rfl
        · cases h)
    (fun _ => rfl) (fun x => Nat.le_of_ble_eq_true (by kernel_rfl)) (pyxref1_Of.eq k)
/-! ### pyx/pyxlaw19.known: function 55 -/
noncomputable def pyxlaw19_known.f (k : Nat)  : Option Bool := (own_Top.f k [] 0).bind fun t1 => (cond (t1 == (-1)) ((own_Part.f k [(⟨0, 0, (-1), 10000⟩ : Sapi_Ent), (⟨0, 0, 0, 5000⟩ : Sapi_Ent), (⟨0, 0, 1, 5000⟩ : Sapi_Ent)] 2).bind fun t2 => ((pyxref1_Of.f k 250000 6).bind fun t3 => (cond ((t2.f_Neg == t3.f_Neg) && ((t2.f_C.1 == t3.f_C.1) && ((t2.f_C.2 == t3.f_C.2) && (t2.f_Scale == t3.f_Scale)))) ((own_Top.f k [(⟨0, 0, (-1), 10000⟩ : Sapi_Ent), (⟨0, 0, 0, 5000⟩ : Sapi_Ent), (⟨0, 0, 1, 5000⟩ : Sapi_Ent)] 2).bind fun t4 => (some (t4 == 0))) (some false)))) (some false))
noncomputable def pyxlaw19_known.un : List (AV U) → Option Unit | [] => some () | _ => none
noncomputable def pyxlaw19_known.mk (x : Unit) : List (AV U) := []
noncomputable def pyxlaw19_known.D (k : Nat) : FDen U := { X := Unit, Y := Bool, un := pyxlaw19_known.un, f := fun x => pyxlaw19_known.f k , fin := fun y => .flat (.bool y) }
noncomputable def pyxlaw19_known.re : AV U → Option Bool | .flat (.bool x1) => some x1 | _ => none
noncomputable def pyxlaw19_known.jl : List (Nat × JDen U) := []
noncomputable def pyxlaw19_known.fl (k : Nat) : List (Nat × FDen U) := [(57, own_Top.D k), (56, own_Part.D k), (52, pyxref1_Of.D k)]
noncomputable def pyxlaw19_known.ll (k : Nat) : List (Nat × LDen U) := []
noncomputable def pyxlaw19_known.E (k : Nat) : Env U := { P := Try.prog, D := DD, fd := lk (pyxlaw19_known.fl k), ld := lk (pyxlaw19_known.ll k), jd := lk pyxlaw19_known.jl, mode := lk [], elc := lk ec, dyn := fun t => false, vecs := fun d => false, results := Try.f55.results.toList }
theorem pyxlaw19_known.ok (k : Nat) : EnvOk (pyxlaw19_known.E k) := envOk lawful (pyxlaw19_known.fl k) (pyxlaw19_known.ll k) pyxlaw19_known.jl _ _ _ _ _ (by
  intro p hp
  simp only [pyxlaw19_known.fl, List.mem_cons, List.not_mem_nil, or_false] at hp
  rcases hp with rfl | rfl | rfl
  · exact ⟨own_Top.sound k, enter_of Try.func57 (by kernel_rfl) (by kernel_rfl)⟩
  · exact ⟨own_Part.sound k, enter_of Try.func56 (by kernel_rfl) (by kernel_rfl)⟩
  · exact ⟨pyxref1_Of.sound k, enter_of Try.func52 (by kernel_rfl) (by kernel_rfl)⟩) (by
  intro p hp
  simp [pyxlaw19_known.jl] at hp)
theorem pyxlaw19_known.eq (k : Nat) (x : Unit) : runF (pyxlaw19_known.E k) (codeOf Try.f55) (pyxlaw19_known.mk x) pyxlaw19_known.re = (pyxlaw19_known.D k).f x := by kernel_rfl
theorem pyxlaw19_known.sound (k : Nat) : Sound Try.prog DD 55 (pyxlaw19_known.D k) :=
  fun_sound (E := pyxlaw19_known.E k) (fn := Try.f55) (c := codeOf Try.f55) (pyxlaw19_known.ok k) mixed rfl Try.func55 (by kernel_rfl) (by kernel_rfl) (allL_of (l := []) (by kernel_rfl) allL_nil) (pyxlaw19_known.D k) pyxlaw19_known.mk pyxlaw19_known.re
    (by intro args x h; replace h : pyxlaw19_known.un args = some x := h; unfold pyxlaw19_known.un at h; split at h; · cases h; rfl
        · cases h)
    (by intro v y h; unfold pyxlaw19_known.re at h; split at h; · cases h; rfl
        · cases h)
    (fun _ => rfl) (fun x => Nat.le_of_ble_eq_true (by kernel_rfl)) (pyxlaw19_known.eq k)
/-! ### pyx/pyxlaw19.OwnKnown: function 12 -/
noncomputable def pyxlaw19_OwnKnown.f (k : Nat)  : Option Bool := (pyxlaw19_known.f k).bind fun t1 => (cond (t1) ((own_Part.f k [(⟨0, 0, (-1), 10000⟩ : Sapi_Ent), (⟨0, 0, 0, 1⟩ : Sapi_Ent), (⟨0, 0, 1, 50⟩ : Sapi_Ent), (⟨0, 0, (-1), 10000⟩ : Sapi_Ent)] 0).bind fun t2 => ((pyxref1_Of.f k 1000000 6).bind fun t3 => (cond ((t2.f_Neg == t3.f_Neg) && ((t2.f_C.1 == t3.f_C.1) && ((t2.f_C.2 == t3.f_C.2) && (t2.f_Scale == t3.f_Scale)))) ((own_Part.f k [(⟨0, 0, (-1), 10000⟩ : Sapi_Ent), (⟨0, 0, 0, 1⟩ : Sapi_Ent), (⟨0, 0, 1, 50⟩ : Sapi_Ent), (⟨0, 0, (-1), 10000⟩ : Sapi_Ent)] 1).bind fun t4 => ((pyxref1_Of.f k 100 6).bind fun t5 => (cond ((t4.f_Neg == t5.f_Neg) && ((t4.f_C.1 == t5.f_C.1) && ((t4.f_C.2 == t5.f_C.2) && (t4.f_Scale == t5.f_Scale)))) ((own_Part.f k [(⟨0, 0, (-1), 10000⟩ : Sapi_Ent), (⟨0, 0, 0, 1⟩ : Sapi_Ent), (⟨0, 0, 1, 50⟩ : Sapi_Ent), (⟨0, 0, (-1), 10000⟩ : Sapi_Ent)] 2).bind fun t6 => ((pyxref1_Of.f k 0 6).bind fun t7 => (cond ((t6.f_Neg == t7.f_Neg) && ((t6.f_C.1 == t7.f_C.1) && ((t6.f_C.2 == t7.f_C.2) && (t6.f_Scale == t7.f_Scale)))) ((own_Top.f k [(⟨0, 0, (-1), 10000⟩ : Sapi_Ent), (⟨0, 0, 0, 1⟩ : Sapi_Ent), (⟨0, 0, 1, 50⟩ : Sapi_Ent), (⟨0, 0, (-1), 10000⟩ : Sapi_Ent)] 3).bind fun t8 => (cond (t8 == 3) ((own_Part.f k [(⟨0, 0, (-1), 10000⟩ : Sapi_Ent), (⟨0, 0, 0, 1⟩ : Sapi_Ent), (⟨0, 0, 1, 50⟩ : Sapi_Ent), (⟨0, 0, (-1), 10000⟩ : Sapi_Ent)] 4).bind fun t9 => (cond ((t9.f_Neg == false) && ((t9.f_C.1 == 0) && ((t9.f_C.2 == 0) && (t9.f_Scale == 0)))) ((own_Part.f k [(⟨0, 0, (-1), 10000⟩ : Sapi_Ent), (⟨0, 0, 0, 1⟩ : Sapi_Ent), (⟨0, 0, 1, 50⟩ : Sapi_Ent), (⟨0, 0, (-1), 10000⟩ : Sapi_Ent)] (-1)).bind fun t10 => (cond ((t10.f_Neg == false) && ((t10.f_C.1 == 0) && ((t10.f_C.2 == 0) && (t10.f_Scale == 0)))) ((own_Top.f k [(⟨0, 0, (-1), 10000⟩ : Sapi_Ent), (⟨0, 0, 0, 1⟩ : Sapi_Ent), (⟨0, 0, 1, 50⟩ : Sapi_Ent), (⟨0, 0, (-1), 10000⟩ : Sapi_Ent)] 4).bind fun t11 => (cond (t11 == (-1)) ((own_Part.f k [(⟨0, 0, 0, 1⟩ : Sapi_Ent)] 0).bind fun t12 => (cond ((t12.f_Neg == false) && ((t12.f_C.1 == 0) && ((t12.f_C.2 == 0) && (t12.f_Scale == 0)))) ((own_Top.f k [(⟨0, 0, 0, 1⟩ : Sapi_Ent)] 0).bind fun t13 => (cond (t13 == (-1)) ((own_Part.f k [] 0).bind fun t14 => (some ((t14.f_Neg == false) && ((t14.f_C.1 == 0) && ((t14.f_C.2 == 0) && (t14.f_Scale == 0)))))) (some false))) (some false))) (some false))) (some false))) (some false))) (some false))) (some false)))) (some false)))) (some false)))) (some false))
noncomputable def pyxlaw19_OwnKnown.un : List (AV U) → Option Unit | [] => some () | _ => none
noncomputable def pyxlaw19_OwnKnown.mk (x : Unit) : List (AV U) := []
noncomputable def pyxlaw19_OwnKnown.D (k : Nat) : FDen U := { X := Unit, Y := Bool, un := pyxlaw19_OwnKnown.un, f := fun x => pyxlaw19_OwnKnown.f k , fin := fun y => .flat (.bool y) }
noncomputable def pyxlaw19_OwnKnown.re : AV U → Option Bool | .flat (.bool x1) => some x1 | _ => none
noncomputable def pyxlaw19_OwnKnown.jl : List (Nat × JDen U) := []
noncomputable def pyxlaw19_OwnKnown.fl (k : Nat) : List (Nat × FDen U) := [(55, pyxlaw19_known.D k), (56, own_Part.D k), (52, pyxref1_Of.D k), (57, own_Top.D k)]
noncomputable def pyxlaw19_OwnKnown.ll (k : Nat) : List (Nat × LDen U) := []
noncomputable def pyxlaw19_OwnKnown.E (k : Nat) : Env U := { P := Try.prog, D := DD, fd := lk (pyxlaw19_OwnKnown.fl k), ld := lk (pyxlaw19_OwnKnown.ll k), jd := lk pyxlaw19_OwnKnown.jl, mode := lk [], elc := lk ec, dyn := fun t => false, vecs := fun d => false, results := Try.f12.results.toList }
theorem pyxlaw19_OwnKnown.ok (k : Nat) : EnvOk (pyxlaw19_OwnKnown.E k) := envOk lawful (pyxlaw19_OwnKnown.fl k) (pyxlaw19_OwnKnown.ll k) pyxlaw19_OwnKnown.jl _ _ _ _ _ (by
  intro p hp
  simp only [pyxlaw19_OwnKnown.fl, List.mem_cons, List.not_mem_nil, or_false] at hp
  rcases hp with rfl | rfl | rfl | rfl
  · exact ⟨pyxlaw19_known.sound k, enter_of Try.func55 (by kernel_rfl) (by kernel_rfl)⟩
  · exact ⟨own_Part.sound k, enter_of Try.func56 (by kernel_rfl) (by kernel_rfl)⟩
  · exact ⟨pyxref1_Of.sound k, enter_of Try.func52 (by kernel_rfl) (by kernel_rfl)⟩
  · exact ⟨own_Top.sound k, enter_of Try.func57 (by kernel_rfl) (by kernel_rfl)⟩) (by
  intro p hp
  simp [pyxlaw19_OwnKnown.jl] at hp)
theorem pyxlaw19_OwnKnown.eq (k : Nat) (x : Unit) : runF (pyxlaw19_OwnKnown.E k) (codeOf Try.f12) (pyxlaw19_OwnKnown.mk x) pyxlaw19_OwnKnown.re = (pyxlaw19_OwnKnown.D k).f x := by kernel_rfl
theorem pyxlaw19_OwnKnown.sound (k : Nat) : Sound Try.prog DD 12 (pyxlaw19_OwnKnown.D k) :=
  fun_sound (E := pyxlaw19_OwnKnown.E k) (fn := Try.f12) (c := codeOf Try.f12) (pyxlaw19_OwnKnown.ok k) mixed rfl Try.func12 (by kernel_rfl) (by kernel_rfl) (allL_of (l := []) (by kernel_rfl) allL_nil) (pyxlaw19_OwnKnown.D k) pyxlaw19_OwnKnown.mk pyxlaw19_OwnKnown.re
    (by intro args x h; replace h : pyxlaw19_OwnKnown.un args = some x := h; unfold pyxlaw19_OwnKnown.un at h; split at h; · cases h; rfl
        · cases h)
    (by intro v y h; unfold pyxlaw19_OwnKnown.re at h; split at h; · cases h; rfl
        · cases h)
    (fun _ => rfl) (fun x => Nat.le_of_ble_eq_true (by kernel_rfl)) (pyxlaw19_OwnKnown.eq k)
/-! ### pyx/pyxlaw19.ents: function 58 -/
noncomputable def pyxlaw19_ents.l3.once (k : Nat) (x : (List Int × Int × Int × Int × List Sapi_Ent)) : Option ((List Int × Int × Int × Int × List Sapi_Ent) ⊕ ((Int × Int × List Sapi_Ent))) := match x with | (x1, x2, x3, x5, x4) => ((cond (decide ((IntKind.wrap .i64 (x5 + 1)) < (List.length x1 : Int))) (some (x1, x2, x3, x5, decide (x5 < 18), x4)) (some (x1, x2, x3, x5, false, x4))) : Option (List Int × Int × Int × Int × Bool × List Sapi_Ent)).bind fun y12 => (cond (y12.2.2.2.2.1) (((cond (inb y12.2.2.2.1 (List.length y12.1)) ((pyxhand_Pick.f k (List.getD y12.1 (Int.toNat y12.2.2.2.1) 0) (IntKind.wrap .i64 ((List.length y12.2.2.2.2.2 : Int) + 1))).bind fun t13 => (cond (inb (IntKind.wrap .i64 (y12.2.2.2.1 + 1)) (List.length y12.1)) ((pyxhand_Pick.f k (List.getD y12.1 (Int.toNat (IntKind.wrap .i64 (y12.2.2.2.1 + 1))) 0) 10000).bind fun t14 => (((cond (decide ((IntKind.wrap .i64 (t13 - 1)) < 0)) (some (y12.1, y12.2.1, y12.2.2.1, y12.2.2.2.1, y12.2.2.2.2.2, 0, 0, IntKind.wrap .i64 (t13 - 1), 10000)) (some (y12.1, y12.2.1, y12.2.2.1, y12.2.2.2.1, y12.2.2.2.2.2, 0, 0, IntKind.wrap .i64 (t13 - 1), IntKind.wrap .i64 (1 + t14)))) : Option (List Int × Int × Int × Int × List Sapi_Ent × Int × Int × Int × Int)).bind fun y24 => (cond (okLen (List.length y24.2.2.2.2.1 + List.length [(⟨y24.2.2.2.2.2.1, y24.2.2.2.2.2.2.1, y24.2.2.2.2.2.2.2.1, y24.2.2.2.2.2.2.2.2⟩ : Sapi_Ent)]) 32) (some (y24.1, y24.2.1, y24.2.2.1, y24.2.2.2.1, y24.2.2.2.2.1 ++ [(⟨y24.2.2.2.2.2.1, y24.2.2.2.2.2.2.1, y24.2.2.2.2.2.2.2.1, y24.2.2.2.2.2.2.2.2⟩ : Sapi_Ent)])) none))) none)) none) : Option (List Int × Int × Int × Int × List Sapi_Ent)).bind fun y30 => (some (.inl (y30.1, y30.2.1, y30.2.2.1, IntKind.wrap .i64 (y30.2.2.2.1 + 2), y30.2.2.2.2)))) (some (.inr (y12.2.1, y12.2.2.1, y12.2.2.2.2.2))))
noncomputable def pyxlaw19_ents.f (k : Nat) (a0 : List Int) (a1 : Int) (a2 : Int) : Option (List Sapi_Ent) := (iter (pyxlaw19_ents.l3.once k) k (a0, a1, a2, 0, ([] : List Sapi_Ent))).bind fun y34 => (((cond ((List.length y34.2.2 : Int) == 0) (some (y34.1, y34.2.1, [(⟨0, 0, (-1), 10000⟩ : Sapi_Ent)])) (some (y34.1, y34.2.1, y34.2.2))) : Option (Int × Int × List Sapi_Ent)).bind fun y38 => ((pyxhand_Pick.f k y38.2.1 (List.length y38.2.2 : Int)).bind fun t39 => ((pyxhand_Pick.f k y38.1 9).bind fun t40 => (cond (t40 == 6) ((pyxhand_Pick.f k y38.2.1 10005).bind fun t41 => (cond (inb t39 (List.length y38.2.2)) (cond (Nat.blt (Int.toNat t39) (List.length y38.2.2)) (some (List.set y38.2.2 (Int.toNat t39) (⟨(List.getD y38.2.2 (Int.toNat t39) Sapi_Ent.zero).f_Level, (List.getD y38.2.2 (Int.toNat t39) Sapi_Ent.zero).f_Scale, (List.getD y38.2.2 (Int.toNat t39) Sapi_Ent.zero).f_Parent, IntKind.wrap .i64 (t41 - 2)⟩ : Sapi_Ent))) none) none)) (cond (t40 == 7) ((pyxhand_Pick.f k (IntKind.wrap .i64 (Int.tdiv y38.2.1 9)) 12).bind fun t42 => (cond (inb t39 (List.length y38.2.2)) (cond (Nat.blt (Int.toNat t39) (List.length y38.2.2)) (some (List.set y38.2.2 (Int.toNat t39) (⟨(List.getD y38.2.2 (Int.toNat t39) Sapi_Ent.zero).f_Level, (List.getD y38.2.2 (Int.toNat t39) Sapi_Ent.zero).f_Scale, IntKind.wrap .i64 (t42 - 2), (List.getD y38.2.2 (Int.toNat t39) Sapi_Ent.zero).f_Share⟩ : Sapi_Ent))) none) none)) (cond (t40 == 8) ((pyxhand_Pick.f k (IntKind.wrap .i64 (Int.tdiv y38.2.1 9)) 7).bind fun t43 => (cond (inb t39 (List.length y38.2.2)) (cond (Nat.blt (Int.toNat t39) (List.length y38.2.2)) (some (List.set y38.2.2 (Int.toNat t39) (⟨IntKind.wrap .i64 (t43 - 2), (List.getD y38.2.2 (Int.toNat t39) Sapi_Ent.zero).f_Scale, (List.getD y38.2.2 (Int.toNat t39) Sapi_Ent.zero).f_Parent, (List.getD y38.2.2 (Int.toNat t39) Sapi_Ent.zero).f_Share⟩ : Sapi_Ent))) none) none)) (some y38.2.2)))))))
noncomputable def pyxlaw19_ents.un : List (AV U) → Option (List Int × Int × Int) | [.row C.i64 x1, .flat (.int .i64 x2), .flat (.int .i64 x3)] => some (x1, x2, x3) | _ => none
noncomputable def pyxlaw19_ents.mk (x : (List Int × Int × Int)) : List (AV U) := [.row C.i64 x.1, .flat (.int .i64 x.2.1), .flat (.int .i64 x.2.2)]
noncomputable def pyxlaw19_ents.D (k : Nat) : FDen U := { X := (List Int × Int × Int), Y := List Sapi_Ent, un := pyxlaw19_ents.un, f := fun x => pyxlaw19_ents.f k (x.1) (x.2.1) (x.2.2), fin := fun y => .row C.Sapi_Ent y }
noncomputable def pyxlaw19_ents.re : AV U → Option (List Sapi_Ent) | .row C.Sapi_Ent x1 => some x1 | _ => none
noncomputable def pyxlaw19_ents.l3.mk (x : (List Int × Int × Int × Int × List Sapi_Ent)) : St U := match x with | (x1, x2, x3, x5, x4) => ⟨[(0, .row C.i64 x1), (1, .flat (.int .i64 x2)), (2, .flat (.int .i64 x3)), (7, .vs 1003007), (8, .flat (.int .i64 x5))], [(1003007, .vec C.Sapi_Ent x4)]⟩
noncomputable def pyxlaw19_ents.l3.un (s : St U) : Option (List Int × Int × Int × Int × List Sapi_Ent) := (row_i64 (s.get 0)).bind fun q0 => ((vec_Sapi_Ent s.o (s.get 7)).bind fun q1 => (match s.get 1, s.get 2, s.get 8 with | .flat (.int .i64 x2), .flat (.int .i64 x3), .flat (.int .i64 x5) => some (q0, x2, x3, x5, q1.2) | _, _, _ => none))
noncomputable def pyxlaw19_ents.l3.fin (y : (Int × Int × List Sapi_Ent)) : Out U := match y with | (x31, x32, x33) => .exit 0 ⟨[(1, .flat (.int .i64 x31)), (2, .flat (.int .i64 x32)), (7, .vs 1003007)], [(1003007, .vec C.Sapi_Ent x33)]⟩
noncomputable def pyxlaw19_ents.l3.finK {ρ : Type} (y : (Int × Int × List Sapi_Ent)) (K : Out U → Option ρ) : Option ρ := match y with | (x31, x32, x33) => K (.exit 0 ⟨[(1, .flat (.int .i64 x31)), (2, .flat (.int .i64 x32)), (7, .vs 1003007)], [(1003007, .vec C.Sapi_Ent x33)]⟩)
theorem pyxlaw19_ents.l3.finK_eq {ρ : Type} (y : (Int × Int × List Sapi_Ent)) (K : Out U → Option ρ) : pyxlaw19_ents.l3.finK y K = K (pyxlaw19_ents.l3.fin y) := by
  unfold pyxlaw19_ents.l3.finK pyxlaw19_ents.l3.fin
  first | rfl | (split <;> rfl)
noncomputable def pyxlaw19_ents.l3.re : Out U → Option ((Int × Int × List Sapi_Ent)) | .exit 0 s => ((vec_Sapi_Ent s.o (s.get 7)).bind fun q0 => (match s.get 1, s.get 2 with | .flat (.int .i64 x31), .flat (.int .i64 x32) => some (x31, x32, q0.2) | _, _ => none)) | _ => none
noncomputable def pyxlaw19_ents.l3.L (k : Nat) : LDen U := { X := (List Int × Int × Int × Int × List Sapi_Ent), Y := (Int × Int × List Sapi_Ent), un := pyxlaw19_ents.l3.un, f := iter (pyxlaw19_ents.l3.once k) k, fin := pyxlaw19_ents.l3.fin, finK := pyxlaw19_ents.l3.finK, finK_eq := pyxlaw19_ents.l3.finK_eq }
noncomputable def pyxlaw19_ents.j3000.fin (y : (List Int × Int × Int × Int × Bool × List Sapi_Ent)) : Out U := match y with | (x6, x7, x8, x10, x11, x9) => .norm ⟨[(0, .row C.i64 x6), (1, .flat (.int .i64 x7)), (2, .flat (.int .i64 x8)), (7, .vs 1004000007), (8, .flat (.int .i64 x10)), (19, .flat (.bool x11))], [(1004000007, .vec C.Sapi_Ent x9)]⟩
noncomputable def pyxlaw19_ents.j3000.finK {ρ : Type} (y : (List Int × Int × Int × Int × Bool × List Sapi_Ent)) (K : Out U → Option ρ) : Option ρ := match y with | (x6, x7, x8, x10, x11, x9) => K (.norm ⟨[(0, .row C.i64 x6), (1, .flat (.int .i64 x7)), (2, .flat (.int .i64 x8)), (7, .vs 1004000007), (8, .flat (.int .i64 x10)), (19, .flat (.bool x11))], [(1004000007, .vec C.Sapi_Ent x9)]⟩)
theorem pyxlaw19_ents.j3000.finK_eq {ρ : Type} (y : (List Int × Int × Int × Int × Bool × List Sapi_Ent)) (K : Out U → Option ρ) : pyxlaw19_ents.j3000.finK y K = K (pyxlaw19_ents.j3000.fin y) := by
  unfold pyxlaw19_ents.j3000.finK pyxlaw19_ents.j3000.fin
  first | rfl | (split <;> rfl)
noncomputable def pyxlaw19_ents.j3000.re : Out U → Option ((List Int × Int × Int × Int × Bool × List Sapi_Ent)) | .norm s => ((row_i64 (s.get 0)).bind fun q0 => ((vec_Sapi_Ent s.o (s.get 7)).bind fun q1 => (match s.get 1, s.get 2, s.get 8, s.get 19 with | .flat (.int .i64 x7), .flat (.int .i64 x8), .flat (.int .i64 x10), .flat (.bool x11) => some (q0, x7, x8, x10, x11, q1.2) | _, _, _, _ => none))) | _ => none
noncomputable def pyxlaw19_ents.j3000.J : JDen U := { Y := (List Int × Int × Int × Int × Bool × List Sapi_Ent), re := pyxlaw19_ents.j3000.re, fin := pyxlaw19_ents.j3000.fin, finK := pyxlaw19_ents.j3000.finK, finK_eq := pyxlaw19_ents.j3000.finK_eq }
theorem pyxlaw19_ents.j3000.fit (o : Out U) (y : (List Int × Int × Int × Int × Bool × List Sapi_Ent)) (h : pyxlaw19_ents.j3000.re o = some y) : FitsO o (pyxlaw19_ents.j3000.fin y) := by
  unfold pyxlaw19_ents.j3000.re at h
  split at h
  · obtain ⟨q0, eq0, h1⟩ := Option.bind_eq_some_iff.1 h
    obtain ⟨q1, eq1, h2⟩ := Option.bind_eq_some_iff.1 h1
    split at h2
    · cases h2
      refine fitsO_norm (fits_ren [(1004000007, q1.1)] ?_ ?_ ren_one rfl)
      · exact List.forall_mem_cons.2 ⟨row_i64_fit eq0, List.forall_mem_cons.2 ⟨FV.same (by assumption) (fun _ _ _ hh => by cases hh) (fun _ hh => by cases hh), List.forall_mem_cons.2 ⟨FV.same (by assumption) (fun _ _ _ hh => by cases hh) (fun _ hh => by cases hh), List.forall_mem_cons.2 ⟨(vec_Sapi_Ent_fit eq1 rfl).1, List.forall_mem_cons.2 ⟨FV.same (by assumption) (fun _ _ _ hh => by cases hh) (fun _ hh => by cases hh), List.forall_mem_cons.2 ⟨FV.same (by assumption) (fun _ _ _ hh => by cases hh) (fun _ hh => by cases hh), fun _ hp => (List.not_mem_nil hp).elim⟩⟩⟩⟩⟩⟩
      · exact List.forall_mem_cons.2 ⟨(vec_Sapi_Ent_fit eq1 rfl).2, fun _ hp => (List.not_mem_nil hp).elim⟩
    · cases h2
  · cases h
noncomputable def pyxlaw19_ents.j7001.fin (y : (List Int × Int × Int × Int × List Sapi_Ent × Int × Int × Int × Int)) : Out U := match y with | (x15, x16, x17, x19, x18, x20, x21, x22, x23) => .norm ⟨[(9, .ptr 9 0), (0, .row C.i64 x15), (1, .flat (.int .i64 x16)), (2, .flat (.int .i64 x17)), (7, .vs 1008001007), (8, .flat (.int .i64 x19))], [(1008001007, .vec C.Sapi_Ent x18), (9, .lit [.flat (.int .i64 x20), .flat (.int .i64 x21), .flat (.int .i64 x22), .flat (.int .i64 x23)])]⟩
noncomputable def pyxlaw19_ents.j7001.finK {ρ : Type} (y : (List Int × Int × Int × Int × List Sapi_Ent × Int × Int × Int × Int)) (K : Out U → Option ρ) : Option ρ := match y with | (x15, x16, x17, x19, x18, x20, x21, x22, x23) => K (.norm ⟨[(9, .ptr 9 0), (0, .row C.i64 x15), (1, .flat (.int .i64 x16)), (2, .flat (.int .i64 x17)), (7, .vs 1008001007), (8, .flat (.int .i64 x19))], [(1008001007, .vec C.Sapi_Ent x18), (9, .lit [.flat (.int .i64 x20), .flat (.int .i64 x21), .flat (.int .i64 x22), .flat (.int .i64 x23)])]⟩)
theorem pyxlaw19_ents.j7001.finK_eq {ρ : Type} (y : (List Int × Int × Int × Int × List Sapi_Ent × Int × Int × Int × Int)) (K : Out U → Option ρ) : pyxlaw19_ents.j7001.finK y K = K (pyxlaw19_ents.j7001.fin y) := by
  unfold pyxlaw19_ents.j7001.finK pyxlaw19_ents.j7001.fin
  first | rfl | (split <;> rfl)
noncomputable def pyxlaw19_ents.j7001.re : Out U → Option ((List Int × Int × Int × Int × List Sapi_Ent × Int × Int × Int × Int)) | .norm s => ((row_i64 (s.get 0)).bind fun q0 => ((vec_Sapi_Ent s.o (s.get 7)).bind fun q1 => (match s.get 9, s.get 1, s.get 2, s.get 8, lk s.o 9 with | .ptr 9 0, .flat (.int .i64 x16), .flat (.int .i64 x17), .flat (.int .i64 x19), some (.lit [.flat (.int .i64 x20), .flat (.int .i64 x21), .flat (.int .i64 x22), .flat (.int .i64 x23)]) => some (q0, x16, x17, x19, q1.2, x20, x21, x22, x23) | _, _, _, _, _ => none))) | _ => none
noncomputable def pyxlaw19_ents.j7001.J : JDen U := { Y := (List Int × Int × Int × Int × List Sapi_Ent × Int × Int × Int × Int), re := pyxlaw19_ents.j7001.re, fin := pyxlaw19_ents.j7001.fin, finK := pyxlaw19_ents.j7001.finK, finK_eq := pyxlaw19_ents.j7001.finK_eq }
theorem pyxlaw19_ents.j7001.fit (o : Out U) (y : (List Int × Int × Int × Int × List Sapi_Ent × Int × Int × Int × Int)) (h : pyxlaw19_ents.j7001.re o = some y) : FitsO o (pyxlaw19_ents.j7001.fin y) := by
  unfold pyxlaw19_ents.j7001.re at h
  split at h
  · obtain ⟨q0, eq0, h1⟩ := Option.bind_eq_some_iff.1 h
    obtain ⟨q1, eq1, h2⟩ := Option.bind_eq_some_iff.1 h1
    split at h2
    · cases h2
      refine fitsO_norm (fits_ren [(1008001007, q1.1)] ?_ ?_ ren_one rfl)
      · exact List.forall_mem_cons.2 ⟨FV.same (by assumption) (fun _ _ _ hh => by cases hh) (fun _ hh => by cases hh), List.forall_mem_cons.2 ⟨row_i64_fit eq0, List.forall_mem_cons.2 ⟨FV.same (by assumption) (fun _ _ _ hh => by cases hh) (fun _ hh => by cases hh), List.forall_mem_cons.2 ⟨FV.same (by assumption) (fun _ _ _ hh => by cases hh) (fun _ hh => by cases hh), List.forall_mem_cons.2 ⟨(vec_Sapi_Ent_fit eq1 rfl).1, List.forall_mem_cons.2 ⟨FV.same (by assumption) (fun _ _ _ hh => by cases hh) (fun _ hh => by cases hh), fun _ hp => (List.not_mem_nil hp).elim⟩⟩⟩⟩⟩⟩
      · exact List.forall_mem_cons.2 ⟨(vec_Sapi_Ent_fit eq1 rfl).2, List.forall_mem_cons.2 ⟨(show lk (St.o _) 9 = some _ from by assumption), fun _ hp => (List.not_mem_nil hp).elim⟩⟩
    · cases h2
  · cases h
noncomputable def pyxlaw19_ents.j5001.fin (y : (List Int × Int × Int × Int × List Sapi_Ent)) : Out U := match y with | (x25, x26, x27, x29, x28) => .norm ⟨[(0, .row C.i64 x25), (1, .flat (.int .i64 x26)), (2, .flat (.int .i64 x27)), (7, .vs 1006001007), (8, .flat (.int .i64 x29))], [(1006001007, .vec C.Sapi_Ent x28)]⟩
noncomputable def pyxlaw19_ents.j5001.finK {ρ : Type} (y : (List Int × Int × Int × Int × List Sapi_Ent)) (K : Out U → Option ρ) : Option ρ := match y with | (x25, x26, x27, x29, x28) => K (.norm ⟨[(0, .row C.i64 x25), (1, .flat (.int .i64 x26)), (2, .flat (.int .i64 x27)), (7, .vs 1006001007), (8, .flat (.int .i64 x29))], [(1006001007, .vec C.Sapi_Ent x28)]⟩)
theorem pyxlaw19_ents.j5001.finK_eq {ρ : Type} (y : (List Int × Int × Int × Int × List Sapi_Ent)) (K : Out U → Option ρ) : pyxlaw19_ents.j5001.finK y K = K (pyxlaw19_ents.j5001.fin y) := by
  unfold pyxlaw19_ents.j5001.finK pyxlaw19_ents.j5001.fin
  first | rfl | (split <;> rfl)
noncomputable def pyxlaw19_ents.j5001.re : Out U → Option ((List Int × Int × Int × Int × List Sapi_Ent)) | .norm s => ((row_i64 (s.get 0)).bind fun q0 => ((vec_Sapi_Ent s.o (s.get 7)).bind fun q1 => (match s.get 1, s.get 2, s.get 8 with | .flat (.int .i64 x26), .flat (.int .i64 x27), .flat (.int .i64 x29) => some (q0, x26, x27, x29, q1.2) | _, _, _ => none))) | _ => none
noncomputable def pyxlaw19_ents.j5001.J : JDen U := { Y := (List Int × Int × Int × Int × List Sapi_Ent), re := pyxlaw19_ents.j5001.re, fin := pyxlaw19_ents.j5001.fin, finK := pyxlaw19_ents.j5001.finK, finK_eq := pyxlaw19_ents.j5001.finK_eq }
theorem pyxlaw19_ents.j5001.fit (o : Out U) (y : (List Int × Int × Int × Int × List Sapi_Ent)) (h : pyxlaw19_ents.j5001.re o = some y) : FitsO o (pyxlaw19_ents.j5001.fin y) := by
  unfold pyxlaw19_ents.j5001.re at h
  split at h
  · obtain ⟨q0, eq0, h1⟩ := Option.bind_eq_some_iff.1 h
    obtain ⟨q1, eq1, h2⟩ := Option.bind_eq_some_iff.1 h1
    split at h2
    · cases h2
      refine fitsO_norm (fits_ren [(1006001007, q1.1)] ?_ ?_ ren_one rfl)
      · exact List.forall_mem_cons.2 ⟨row_i64_fit eq0, List.forall_mem_cons.2 ⟨FV.same (by assumption) (fun _ _ _ hh => by cases hh) (fun _ hh => by cases hh), List.forall_mem_cons.2 ⟨FV.same (by assumption) (fun _ _ _ hh => by cases hh) (fun _ hh => by cases hh), List.forall_mem_cons.2 ⟨(vec_Sapi_Ent_fit eq1 rfl).1, List.forall_mem_cons.2 ⟨FV.same (by assumption) (fun _ _ _ hh => by cases hh) (fun _ hh => by cases hh), fun _ hp => (List.not_mem_nil hp).elim⟩⟩⟩⟩⟩
      · exact List.forall_mem_cons.2 ⟨(vec_Sapi_Ent_fit eq1 rfl).2, fun _ hp => (List.not_mem_nil hp).elim⟩
    · cases h2
  · cases h
noncomputable def pyxlaw19_ents.j10001.fin (y : (Int × Int × List Sapi_Ent)) : Out U := match y with | (x35, x36, x37) => .norm ⟨[(1, .flat (.int .i64 x35)), (2, .flat (.int .i64 x36)), (7, .vs 1011001007)], [(1011001007, .vec C.Sapi_Ent x37)]⟩
noncomputable def pyxlaw19_ents.j10001.finK {ρ : Type} (y : (Int × Int × List Sapi_Ent)) (K : Out U → Option ρ) : Option ρ := match y with | (x35, x36, x37) => K (.norm ⟨[(1, .flat (.int .i64 x35)), (2, .flat (.int .i64 x36)), (7, .vs 1011001007)], [(1011001007, .vec C.Sapi_Ent x37)]⟩)
theorem pyxlaw19_ents.j10001.finK_eq {ρ : Type} (y : (Int × Int × List Sapi_Ent)) (K : Out U → Option ρ) : pyxlaw19_ents.j10001.finK y K = K (pyxlaw19_ents.j10001.fin y) := by
  unfold pyxlaw19_ents.j10001.finK pyxlaw19_ents.j10001.fin
  first | rfl | (split <;> rfl)
noncomputable def pyxlaw19_ents.j10001.re : Out U → Option ((Int × Int × List Sapi_Ent)) | .norm s => ((vec_Sapi_Ent s.o (s.get 7)).bind fun q0 => (match s.get 1, s.get 2 with | .flat (.int .i64 x35), .flat (.int .i64 x36) => some (x35, x36, q0.2) | _, _ => none)) | _ => none
noncomputable def pyxlaw19_ents.j10001.J : JDen U := { Y := (Int × Int × List Sapi_Ent), re := pyxlaw19_ents.j10001.re, fin := pyxlaw19_ents.j10001.fin, finK := pyxlaw19_ents.j10001.finK, finK_eq := pyxlaw19_ents.j10001.finK_eq }
theorem pyxlaw19_ents.j10001.fit (o : Out U) (y : (Int × Int × List Sapi_Ent)) (h : pyxlaw19_ents.j10001.re o = some y) : FitsO o (pyxlaw19_ents.j10001.fin y) := by
  unfold pyxlaw19_ents.j10001.re at h
  split at h
  · obtain ⟨q0, eq0, h1⟩ := Option.bind_eq_some_iff.1 h
    split at h1
    · cases h1
      refine fitsO_norm (fits_ren [(1011001007, q0.1)] ?_ ?_ ren_one rfl)
      · exact List.forall_mem_cons.2 ⟨FV.same (by assumption) (fun _ _ _ hh => by cases hh) (fun _ hh => by cases hh), List.forall_mem_cons.2 ⟨FV.same (by assumption) (fun _ _ _ hh => by cases hh) (fun _ hh => by cases hh), List.forall_mem_cons.2 ⟨(vec_Sapi_Ent_fit eq0 rfl).1, fun _ hp => (List.not_mem_nil hp).elim⟩⟩⟩
      · exact List.forall_mem_cons.2 ⟨(vec_Sapi_Ent_fit eq0 rfl).2, fun _ hp => (List.not_mem_nil hp).elim⟩
    · cases h1
  · cases h
noncomputable def pyxlaw19_ents.jl : List (Nat × JDen U) := [(3000, pyxlaw19_ents.j3000.J), (7001, pyxlaw19_ents.j7001.J), (5001, pyxlaw19_ents.j5001.J), (10001, pyxlaw19_ents.j10001.J)]
noncomputable def pyxlaw19_ents.fl (k : Nat) : List (Nat × FDen U) := [(21, pyxhand_Pick.D k)]
noncomputable def pyxlaw19_ents.ll (k : Nat) : List (Nat × LDen U) := [(3, pyxlaw19_ents.l3.L k)]
noncomputable def pyxlaw19_ents.E (k : Nat) : Env U := { P := Try.prog, D := DD, fd := lk (pyxlaw19_ents.fl k), ld := lk (pyxlaw19_ents.ll k), jd := lk pyxlaw19_ents.jl, mode := lk [], elc := lk ec, dyn := fun t => false, vecs := fun d => Nat.beq d 7 || Nat.beq d 51, results := Try.f58.results.toList }
theorem pyxlaw19_ents.ok (k : Nat) : EnvOk (pyxlaw19_ents.E k) := envOk lawful (pyxlaw19_ents.fl k) (pyxlaw19_ents.ll k) pyxlaw19_ents.jl _ _ _ _ _ (by
  intro p hp
  simp only [pyxlaw19_ents.fl, List.mem_cons, List.not_mem_nil, or_false] at hp
  rcases hp with rfl
  · exact ⟨pyxhand_Pick.sound k, enter_of Try.func21 (by kernel_rfl) (by kernel_rfl)⟩) (by
  intro p hp
  simp only [pyxlaw19_ents.jl, List.mem_cons, List.not_mem_nil, or_false] at hp
  rcases hp with rfl | rfl | rfl | rfl
  · exact pyxlaw19_ents.j3000.fit
  · exact pyxlaw19_ents.j7001.fit
  · exact pyxlaw19_ents.j5001.fit
  · exact pyxlaw19_ents.j10001.fit)
theorem pyxlaw19_ents.l3.eq (k : Nat) (x : (List Int × Int × Int × Int × List Sapi_Ent)) : evC (pyxlaw19_ents.E k) (loopAt Try.f58 3) (pyxlaw19_ents.l3.mk x) (headK pyxlaw19_ents.l3.un pyxlaw19_ents.l3.re) = pyxlaw19_ents.l3.once k x := by kernel_rfl
theorem pyxlaw19_ents.l3.fit (s : St U) (x : (List Int × Int × Int × Int × List Sapi_Ent)) (h : pyxlaw19_ents.l3.un s = some x) : Fits s (pyxlaw19_ents.l3.mk x) := by
  unfold pyxlaw19_ents.l3.un at h
  obtain ⟨q0, eq0, h1⟩ := Option.bind_eq_some_iff.1 h
  obtain ⟨q1, eq1, h2⟩ := Option.bind_eq_some_iff.1 h1
  split at h2
  · cases h2
    refine fits_ren [(1003007, q1.1)] ?_ ?_ ren_one rfl
    · exact List.forall_mem_cons.2 ⟨row_i64_fit eq0, List.forall_mem_cons.2 ⟨FV.same (by assumption) (fun _ _ _ hh => by cases hh) (fun _ hh => by cases hh), List.forall_mem_cons.2 ⟨FV.same (by assumption) (fun _ _ _ hh => by cases hh) (fun _ hh => by cases hh), List.forall_mem_cons.2 ⟨(vec_Sapi_Ent_fit eq1 rfl).1, List.forall_mem_cons.2 ⟨FV.same (by assumption) (fun _ _ _ hh => by cases hh) (fun _ hh => by cases hh), fun _ hp => (List.not_mem_nil hp).elim⟩⟩⟩⟩⟩
    · exact List.forall_mem_cons.2 ⟨(vec_Sapi_Ent_fit eq1 rfl).2, fun _ hp => (List.not_mem_nil hp).elim⟩
  · cases h2
theorem pyxlaw19_ents.l3.fitO (o : Out U) (y : (Int × Int × List Sapi_Ent)) (h : pyxlaw19_ents.l3.re o = some y) : FitsO o (pyxlaw19_ents.l3.fin y) := by
  unfold pyxlaw19_ents.l3.re at h
  split at h
  · obtain ⟨q0, eq0, h1⟩ := Option.bind_eq_some_iff.1 h
    split at h1
    · cases h1
      refine fitsO_exit (fits_ren [(1003007, q0.1)] ?_ ?_ ren_one rfl)
      · exact List.forall_mem_cons.2 ⟨FV.same (by assumption) (fun _ _ _ hh => by cases hh) (fun _ hh => by cases hh), List.forall_mem_cons.2 ⟨FV.same (by assumption) (fun _ _ _ hh => by cases hh) (fun _ hh => by cases hh), List.forall_mem_cons.2 ⟨(vec_Sapi_Ent_fit eq0 rfl).1, fun _ hp => (List.not_mem_nil hp).elim⟩⟩⟩
      · exact List.forall_mem_cons.2 ⟨(vec_Sapi_Ent_fit eq0 rfl).2, fun _ hp => (List.not_mem_nil hp).elim⟩
    · cases h1
  · cases h
theorem pyxlaw19_ents.l3.sound (k : Nat) : LSound (pyxlaw19_ents.E k) Try.f58.ntmps Try.f58 (loopAt Try.f58 3) (pyxlaw19_ents.l3.L k) :=
  loop_sound (pyxlaw19_ents.ok k) mixed rfl (by kernel_rfl) (allL_of (l := []) (by kernel_rfl) allL_nil) pyxlaw19_ents.l3.un pyxlaw19_ents.l3.mk pyxlaw19_ents.l3.fin pyxlaw19_ents.l3.re (pyxlaw19_ents.l3.once k) k pyxlaw19_ents.l3.fit pyxlaw19_ents.l3.fitO (pyxlaw19_ents.l3.eq k) pyxlaw19_ents.l3.finK pyxlaw19_ents.l3.finK_eq
theorem pyxlaw19_ents.eq (k : Nat) (x : (List Int × Int × Int)) : runF (pyxlaw19_ents.E k) (codeOf Try.f58) (pyxlaw19_ents.mk x) pyxlaw19_ents.re = (pyxlaw19_ents.D k).f x := by kernel_rfl
theorem pyxlaw19_ents.sound (k : Nat) : Sound Try.prog DD 58 (pyxlaw19_ents.D k) :=
  fun_sound (E := pyxlaw19_ents.E k) (fn := Try.f58) (c := codeOf Try.f58) (pyxlaw19_ents.ok k) mixed rfl Try.func58 (by kernel_rfl) (by kernel_rfl) (allL_of (l := [loopAt Try.f58 3]) (by kernel_rfl) (allL_cons (key := 3) (by kernel_rfl) rfl (pyxlaw19_ents.l3.sound k) allL_nil)) (pyxlaw19_ents.D k) pyxlaw19_ents.mk pyxlaw19_ents.re
    (by intro args x h; replace h : pyxlaw19_ents.un args = some x := h; unfold pyxlaw19_ents.un at h; split at h; · cases h; rfl
        · cases h)
    (by intro v y h; unfold pyxlaw19_ents.re at h; split at h; · cases h; rfl
        · cases h)
    (fun _ => rfl) (fun x => Nat.le_of_ble_eq_true (by kernel_rfl)) (pyxlaw19_ents.eq k)
/-! ### pyx/pyxref11.RightEnts: function 97 -/
noncomputable def pyxref11_RightEnts.l2.once (k : Nat) (x : (List Sapi_Ent × Int)) : Option ((List Sapi_Ent × Int) ⊕ ((List Sapi_Ent) ⊕ Bool)) := match x with | (x1, x2) => cond (decide (x2 < (List.length x1 : Int))) (cond (inb x2 (List.length x1)) (((cond (decide (((List.getD x1 (Int.toNat x2) Sapi_Ent.zero).f_Level) < 0)) (some (x1, x2, true)) (cond (decide (((List.getD x1 (Int.toNat x2) Sapi_Ent.zero).f_Level) > 3)) (some (x1, x2, true)) (cond (decide (((List.getD x1 (Int.toNat x2) Sapi_Ent.zero).f_Scale) < 0)) (some (x1, x2, true)) (cond (decide (((List.getD x1 (Int.toNat x2) Sapi_Ent.zero).f_Scale) > 4)) (some (x1, x2, true)) (cond (decide (((List.getD x1 (Int.toNat x2) Sapi_Ent.zero).f_Parent) < (-1))) (some (x1, x2, true)) (cond (decide (((List.getD x1 (Int.toNat x2) Sapi_Ent.zero).f_Parent) ≥ x2)) (some (x1, x2, true)) (cond (decide (((List.getD x1 (Int.toNat x2) Sapi_Ent.zero).f_Share) < 1)) (some (x1, x2, true)) (cond (decide (((List.getD x1 (Int.toNat x2) Sapi_Ent.zero).f_Share) > 10000)) (some (x1, x2, true)) (cond (decide (((List.getD x1 (Int.toNat x2) Sapi_Ent.zero).f_Parent) < 0)) (some (x1, x2, ((List.getD x1 (Int.toNat x2) Sapi_Ent.zero).f_Share) != 10000)) (some (x1, x2, false))))))))))) : Option (List Sapi_Ent × Int × Bool)).bind fun y6 => (cond (y6.2.2) (some (.inr (.inr false))) (some (.inl (y6.1, IntKind.wrap .i64 (y6.2.1 + 1)))))) none) (some (.inr (.inl x1)))
noncomputable def pyxref11_RightEnts.f (k : Nat) (a0 : List Sapi_Ent) : Option Bool := (iter (pyxref11_RightEnts.l2.once k) k (a0, 0)).bind fun | .inl y9 => (cond (decide ((List.length y9 : Int) ≥ 1)) (some (decide ((List.length y9 : Int) ≤ 8))) (some false)) | .inr y10 => (some y10)
noncomputable def pyxref11_RightEnts.un : List (AV U) → Option (List Sapi_Ent) | [.row C.Sapi_Ent x1] => some x1 | _ => none
noncomputable def pyxref11_RightEnts.mk (x : List Sapi_Ent) : List (AV U) := [.row C.Sapi_Ent x]
noncomputable def pyxref11_RightEnts.D (k : Nat) : FDen U := { X := List Sapi_Ent, Y := Bool, un := pyxref11_RightEnts.un, f := fun x => pyxref11_RightEnts.f k (x), fin := fun y => .flat (.bool y) }
noncomputable def pyxref11_RightEnts.re : AV U → Option Bool | .flat (.bool x1) => some x1 | _ => none
noncomputable def pyxref11_RightEnts.l2.mk (x : (List Sapi_Ent × Int)) : St U := match x with | (x1, x2) => ⟨[(0, .row C.Sapi_Ent x1), (3, .flat (.int .i64 x2))], []⟩
noncomputable def pyxref11_RightEnts.l2.un (s : St U) : Option (List Sapi_Ent × Int) := (row_Sapi_Ent (s.get 0)).bind fun q0 => (match s.get 3 with | .flat (.int .i64 x2) => some (q0, x2) | _ => none)
noncomputable def pyxref11_RightEnts.l2.fin (y : (List Sapi_Ent) ⊕ Bool) : Out U := match y with | .inl x7 => .exit 0 ⟨[(0, .row C.Sapi_Ent x7)], []⟩ | .inr z => .ret (.flat (.bool z))
noncomputable def pyxref11_RightEnts.l2.finK {ρ : Type} (y : (List Sapi_Ent) ⊕ Bool) (K : Out U → Option ρ) : Option ρ := match y with | .inl x7 => K (.exit 0 ⟨[(0, .row C.Sapi_Ent x7)], []⟩) | .inr z => K (.ret (.flat (.bool z)))
theorem pyxref11_RightEnts.l2.finK_eq {ρ : Type} (y : (List Sapi_Ent) ⊕ Bool) (K : Out U → Option ρ) : pyxref11_RightEnts.l2.finK y K = K (pyxref11_RightEnts.l2.fin y) := by
  unfold pyxref11_RightEnts.l2.finK pyxref11_RightEnts.l2.fin
  first | rfl | (split <;> rfl)
noncomputable def pyxref11_RightEnts.l2.re : Out U → Option ((List Sapi_Ent) ⊕ Bool) | .exit 0 s => ((row_Sapi_Ent (s.get 0)).bind fun q0 => (some (.inl q0))) | .ret v => (match v with | .flat (.bool x1) => some (.inr x1) | _ => none) | _ => none
noncomputable def pyxref11_RightEnts.l2.L (k : Nat) : LDen U := { X := (List Sapi_Ent × Int), Y := (List Sapi_Ent) ⊕ Bool, un := pyxref11_RightEnts.l2.un, f := iter (pyxref11_RightEnts.l2.once k) k, fin := pyxref11_RightEnts.l2.fin, finK := pyxref11_RightEnts.l2.finK, finK_eq := pyxref11_RightEnts.l2.finK_eq }
noncomputable def pyxref11_RightEnts.j5000.fin (y : (List Sapi_Ent × Int × Bool)) : Out U := match y with | (x3, x4, x5) => .norm ⟨[(0, .row C.Sapi_Ent x3), (3, .flat (.int .i64 x4)), (63, .flat (.bool x5))], []⟩
noncomputable def pyxref11_RightEnts.j5000.finK {ρ : Type} (y : (List Sapi_Ent × Int × Bool)) (K : Out U → Option ρ) : Option ρ := match y with | (x3, x4, x5) => K (.norm ⟨[(0, .row C.Sapi_Ent x3), (3, .flat (.int .i64 x4)), (63, .flat (.bool x5))], []⟩)
theorem pyxref11_RightEnts.j5000.finK_eq {ρ : Type} (y : (List Sapi_Ent × Int × Bool)) (K : Out U → Option ρ) : pyxref11_RightEnts.j5000.finK y K = K (pyxref11_RightEnts.j5000.fin y) := by
  unfold pyxref11_RightEnts.j5000.finK pyxref11_RightEnts.j5000.fin
  first | rfl | (split <;> rfl)
noncomputable def pyxref11_RightEnts.j5000.re : Out U → Option ((List Sapi_Ent × Int × Bool)) | .norm s => ((row_Sapi_Ent (s.get 0)).bind fun q0 => (match s.get 3, s.get 63 with | .flat (.int .i64 x4), .flat (.bool x5) => some (q0, x4, x5) | _, _ => none)) | _ => none
noncomputable def pyxref11_RightEnts.j5000.J : JDen U := { Y := (List Sapi_Ent × Int × Bool), re := pyxref11_RightEnts.j5000.re, fin := pyxref11_RightEnts.j5000.fin, finK := pyxref11_RightEnts.j5000.finK, finK_eq := pyxref11_RightEnts.j5000.finK_eq }
theorem pyxref11_RightEnts.j5000.fit (o : Out U) (y : (List Sapi_Ent × Int × Bool)) (h : pyxref11_RightEnts.j5000.re o = some y) : FitsO o (pyxref11_RightEnts.j5000.fin y) := by
  unfold pyxref11_RightEnts.j5000.re at h
  split at h
  · obtain ⟨q0, eq0, h1⟩ := Option.bind_eq_some_iff.1 h
    split at h1
    · cases h1
      refine fitsO_norm (fits_ren [] ?_ ?_ ren_nil rfl)
      · exact List.forall_mem_cons.2 ⟨row_Sapi_Ent_fit eq0, List.forall_mem_cons.2 ⟨FV.same (by assumption) (fun _ _ _ hh => by cases hh) (fun _ hh => by cases hh), List.forall_mem_cons.2 ⟨FV.same (by assumption) (fun _ _ _ hh => by cases hh) (fun _ hh => by cases hh), fun _ hp => (List.not_mem_nil hp).elim⟩⟩⟩
      · exact fun _ hp => (List.not_mem_nil hp).elim
    · cases h1
  · cases h
noncomputable def pyxref11_RightEnts.jl : List (Nat × JDen U) := [(5000, pyxref11_RightEnts.j5000.J)]
noncomputable def pyxref11_RightEnts.fl (k : Nat) : List (Nat × FDen U) := []
noncomputable def pyxref11_RightEnts.ll (k : Nat) : List (Nat × LDen U) := [(2, pyxref11_RightEnts.l2.L k)]
noncomputable def pyxref11_RightEnts.E (k : Nat) : Env U := { P := Try.prog, D := DD, fd := lk (pyxref11_RightEnts.fl k), ld := lk (pyxref11_RightEnts.ll k), jd := lk pyxref11_RightEnts.jl, mode := lk [], elc := lk ec, dyn := fun t => false, vecs := fun d => false, results := Try.f97.results.toList }
theorem pyxref11_RightEnts.ok (k : Nat) : EnvOk (pyxref11_RightEnts.E k) := envOk lawful (pyxref11_RightEnts.fl k) (pyxref11_RightEnts.ll k) pyxref11_RightEnts.jl _ _ _ _ _ (by
  intro p hp
  simp [pyxref11_RightEnts.fl] at hp) (by
  intro p hp
  simp only [pyxref11_RightEnts.jl, List.mem_cons, List.not_mem_nil, or_false] at hp
  rcases hp with rfl
  · exact pyxref11_RightEnts.j5000.fit)
theorem pyxref11_RightEnts.l2.eq (k : Nat) (x : (List Sapi_Ent × Int)) : evC (pyxref11_RightEnts.E k) (loopAt Try.f97 2) (pyxref11_RightEnts.l2.mk x) (headK pyxref11_RightEnts.l2.un pyxref11_RightEnts.l2.re) = pyxref11_RightEnts.l2.once k x := by kernel_rfl
theorem pyxref11_RightEnts.l2.fit (s : St U) (x : (List Sapi_Ent × Int)) (h : pyxref11_RightEnts.l2.un s = some x) : Fits s (pyxref11_RightEnts.l2.mk x) := by
  unfold pyxref11_RightEnts.l2.un at h
  obtain ⟨q0, eq0, h1⟩ := Option.bind_eq_some_iff.1 h
  split at h1
  · cases h1
    refine fits_ren [] ?_ ?_ ren_nil rfl
    · exact List.forall_mem_cons.2 ⟨row_Sapi_Ent_fit eq0, List.forall_mem_cons.2 ⟨FV.same (by assumption) (fun _ _ _ hh => by cases hh) (fun _ hh => by cases hh), fun _ hp => (List.not_mem_nil hp).elim⟩⟩
    · exact fun _ hp => (List.not_mem_nil hp).elim
  · cases h1
theorem pyxref11_RightEnts.l2.fitO (o : Out U) (y : (List Sapi_Ent) ⊕ Bool) (h : pyxref11_RightEnts.l2.re o = some y) : FitsO o (pyxref11_RightEnts.l2.fin y) := by
  unfold pyxref11_RightEnts.l2.re at h
  split at h
  · obtain ⟨q0, eq0, h1⟩ := Option.bind_eq_some_iff.1 h
    cases h1
    refine fitsO_exit (fits_ren [] ?_ ?_ ren_nil rfl)
    · exact List.forall_mem_cons.2 ⟨row_Sapi_Ent_fit eq0, fun _ hp => (List.not_mem_nil hp).elim⟩
    · exact fun _ hp => (List.not_mem_nil hp).elim
  · split at h
    · cases h; exact fitsO_ret
    · cases h
  · cases h
theorem pyxref11_RightEnts.l2.sound (k : Nat) : LSound (pyxref11_RightEnts.E k) Try.f97.ntmps Try.f97 (loopAt Try.f97 2) (pyxref11_RightEnts.l2.L k) :=
  loop_sound (pyxref11_RightEnts.ok k) mixed rfl (by kernel_rfl) (allL_of (l := []) (by kernel_rfl) allL_nil) pyxref11_RightEnts.l2.un pyxref11_RightEnts.l2.mk pyxref11_RightEnts.l2.fin pyxref11_RightEnts.l2.re (pyxref11_RightEnts.l2.once k) k pyxref11_RightEnts.l2.fit pyxref11_RightEnts.l2.fitO (pyxref11_RightEnts.l2.eq k) pyxref11_RightEnts.l2.finK pyxref11_RightEnts.l2.finK_eq
theorem pyxref11_RightEnts.eq (k : Nat) (x : List Sapi_Ent) : runF (pyxref11_RightEnts.E k) (codeOf Try.f97) (pyxref11_RightEnts.mk x) pyxref11_RightEnts.re = (pyxref11_RightEnts.D k).f x := by kernel_rfl
theorem pyxref11_RightEnts.sound (k : Nat) : Sound Try.prog DD 97 (pyxref11_RightEnts.D k) :=
  fun_sound (E := pyxref11_RightEnts.E k) (fn := Try.f97) (c := codeOf Try.f97) (pyxref11_RightEnts.ok k) mixed rfl Try.func97 (by kernel_rfl) (by kernel_rfl) (allL_of (l := [loopAt Try.f97 2]) (by kernel_rfl) (allL_cons (key := 2) (by kernel_rfl) rfl (pyxref11_RightEnts.l2.sound k) allL_nil)) (pyxref11_RightEnts.D k) pyxref11_RightEnts.mk pyxref11_RightEnts.re
    (by intro args x h; replace h : pyxref11_RightEnts.un args = some x := h; unfold pyxref11_RightEnts.un at h; split at h; · cases h; rfl
        · cases h)
    (by intro v y h; unfold pyxref11_RightEnts.re at h; split at h; · cases h; rfl
        · cases h)
    (fun _ => rfl) (fun x => Nat.le_of_ble_eq_true (by kernel_rfl)) (pyxref11_RightEnts.eq k)
/-! ### pyx/pyxref1.RightDec: function 114 -/
noncomputable def pyxref1_RightDec.f (k : Nat) (a0 : Sapi_Dec) : Option Bool := (pyxref1_Nat2.f k (a0.f_C.1, a0.f_C.2)).bind fun t1 => (cond (decide ((List.length t1 : Int) ≤ 30)) (cond (decide (a0.f_Scale ≥ 0)) (cond (decide (a0.f_Scale ≤ 9)) (cond (a0.f_Neg) (some (!((List.length t1 : Int) == 0))) (some true)) (some false)) (some false)) (some false))
noncomputable def pyxref1_RightDec.un : List (AV U) → Option Sapi_Dec | [.agg [.flat (.bool x1), .flat (.int .u64 x2), .flat (.int .u64 x3), .flat (.int .i64 x4)]] => some (⟨x1, (x2, x3), x4⟩ : Sapi_Dec) | _ => none
noncomputable def pyxref1_RightDec.mk (x : Sapi_Dec) : List (AV U) := [.agg [.flat (.bool x.f_Neg), .flat (.int .u64 x.f_C.1), .flat (.int .u64 x.f_C.2), .flat (.int .i64 x.f_Scale)]]
noncomputable def pyxref1_RightDec.D (k : Nat) : FDen U := { X := Sapi_Dec, Y := Bool, un := pyxref1_RightDec.un, f := fun x => pyxref1_RightDec.f k (x), fin := fun y => .flat (.bool y) }
noncomputable def pyxref1_RightDec.re : AV U → Option Bool | .flat (.bool x1) => some x1 | _ => none
noncomputable def pyxref1_RightDec.jl : List (Nat × JDen U) := []
noncomputable def pyxref1_RightDec.fl (k : Nat) : List (Nat × FDen U) := [(30, pyxref1_Nat2.D k)]
noncomputable def pyxref1_RightDec.ll (k : Nat) : List (Nat × LDen U) := []
noncomputable def pyxref1_RightDec.E (k : Nat) : Env U := { P := Try.prog, D := DD, fd := lk (pyxref1_RightDec.fl k), ld := lk (pyxref1_RightDec.ll k), jd := lk pyxref1_RightDec.jl, mode := lk [], elc := lk ec, dyn := fun t => false, vecs := fun d => false, results := Try.f114.results.toList }
theorem pyxref1_RightDec.ok (k : Nat) : EnvOk (pyxref1_RightDec.E k) := envOk lawful (pyxref1_RightDec.fl k) (pyxref1_RightDec.ll k) pyxref1_RightDec.jl _ _ _ _ _ (by
  intro p hp
  simp only [pyxref1_RightDec.fl, List.mem_cons, List.not_mem_nil, or_false] at hp
  rcases hp with rfl
  · exact ⟨pyxref1_Nat2.sound k, enter_of Try.func30 (by kernel_rfl) (by kernel_rfl)⟩) (by
  intro p hp
  simp [pyxref1_RightDec.jl] at hp)
theorem pyxref1_RightDec.eq (k : Nat) (x : Sapi_Dec) : runF (pyxref1_RightDec.E k) (codeOf Try.f114) (pyxref1_RightDec.mk x) pyxref1_RightDec.re = (pyxref1_RightDec.D k).f x := by kernel_rfl
theorem pyxref1_RightDec.sound (k : Nat) : Sound Try.prog DD 114 (pyxref1_RightDec.D k) :=
  fun_sound (E := pyxref1_RightDec.E k) (fn := Try.f114) (c := codeOf Try.f114) (pyxref1_RightDec.ok k) mixed rfl Try.func114 (by kernel_rfl) (by kernel_rfl) (allL_of (l := []) (by kernel_rfl) allL_nil) (pyxref1_RightDec.D k) pyxref1_RightDec.mk pyxref1_RightDec.re
    (by intro args x h; replace h : pyxref1_RightDec.un args = some x := h; unfold pyxref1_RightDec.un at h; split at h; · cases h; rfl
        · cases h)
    (by intro v y h; unfold pyxref1_RightDec.re at h; split at h; · cases h; rfl
        · cases h)
    (fun _ => rfl) (fun x => Nat.le_of_ble_eq_true (by kernel_rfl)) (pyxref1_RightDec.eq k)
/-! ### pyx/pyxref1.goodMode: function 115 -/
noncomputable def pyxref1_goodMode.f (k : Nat) (a0 : Int) (a1 : Int) : Option Bool := cond (decide (a0 ≥ 0)) (cond (decide (a0 ≤ 9)) (cond (decide (a1 ≥ 0)) (some (decide (a1 ≤ 4))) (some false)) (some false)) (some false)
noncomputable def pyxref1_goodMode.un : List (AV U) → Option (Int × Int) | [.flat (.int .i64 x1), .flat (.int .i64 x2)] => some (x1, x2) | _ => none
noncomputable def pyxref1_goodMode.mk (x : (Int × Int)) : List (AV U) := [.flat (.int .i64 x.1), .flat (.int .i64 x.2)]
noncomputable def pyxref1_goodMode.D (k : Nat) : FDen U := { X := (Int × Int), Y := Bool, un := pyxref1_goodMode.un, f := fun x => pyxref1_goodMode.f k (x.1) (x.2), fin := fun y => .flat (.bool y) }
noncomputable def pyxref1_goodMode.re : AV U → Option Bool | .flat (.bool x1) => some x1 | _ => none
noncomputable def pyxref1_goodMode.jl : List (Nat × JDen U) := []
noncomputable def pyxref1_goodMode.fl (k : Nat) : List (Nat × FDen U) := []
noncomputable def pyxref1_goodMode.ll (k : Nat) : List (Nat × LDen U) := []
noncomputable def pyxref1_goodMode.E (k : Nat) : Env U := { P := Try.prog, D := DD, fd := lk (pyxref1_goodMode.fl k), ld := lk (pyxref1_goodMode.ll k), jd := lk pyxref1_goodMode.jl, mode := lk [], elc := lk ec, dyn := fun t => false, vecs := fun d => false, results := Try.f115.results.toList }
theorem pyxref1_goodMode.ok (k : Nat) : EnvOk (pyxref1_goodMode.E k) := envOk lawful (pyxref1_goodMode.fl k) (pyxref1_goodMode.ll k) pyxref1_goodMode.jl _ _ _ _ _ (by
  intro p hp
  simp [pyxref1_goodMode.fl] at hp) (by
  intro p hp
  simp [pyxref1_goodMode.jl] at hp)
theorem pyxref1_goodMode.eq (k : Nat) (x : (Int × Int)) : runF (pyxref1_goodMode.E k) (codeOf Try.f115) (pyxref1_goodMode.mk x) pyxref1_goodMode.re = (pyxref1_goodMode.D k).f x := by kernel_rfl
theorem pyxref1_goodMode.sound (k : Nat) : Sound Try.prog DD 115 (pyxref1_goodMode.D k) :=
  fun_sound (E := pyxref1_goodMode.E k) (fn := Try.f115) (c := codeOf Try.f115) (pyxref1_goodMode.ok k) mixed rfl Try.func115 (by kernel_rfl) (by kernel_rfl) (allL_of (l := []) (by kernel_rfl) allL_nil) (pyxref1_goodMode.D k) pyxref1_goodMode.mk pyxref1_goodMode.re
    (by intro args x h; replace h : pyxref1_goodMode.un args = some x := h; unfold pyxref1_goodMode.un at h; split at h; · cases h; rfl
        · cases h)
    (by intro v y h; unfold pyxref1_goodMode.re at h; split at h; · cases h; rfl
        · cases h)
    (fun _ => rfl) (fun x => Nat.le_of_ble_eq_true (by kernel_rfl)) (pyxref1_goodMode.eq k)
end
end Go.Proofs.Ythknecaigoilmaa
