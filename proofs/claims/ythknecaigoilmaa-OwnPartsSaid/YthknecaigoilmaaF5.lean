import Derived.Test.YthknecaigoilmaaF4
/-! Functions, told; their equations with the evaluator; that they are sound. Written by gen.py. -/
namespace Go.Proofs.Ythknecaigoilmaa
open Go Go.Ev
noncomputable section
set_option linter.unusedVariables false
set_option linter.unusedSimpArgs false
set_option maxRecDepth 100000
/-! ### pyx/pyxref1.Rounded: function 116 -/
noncomputable def pyxref1_Rounded.f (k : Nat) (a0 : Bool) (a1 : List Int) (a2 : List Int) (a3 : Int) : Option (List Int) := (pyxref1_DivNat.f k a1 a2).bind fun t1 => ((pyxref1_AddNat.f k t1.2 t1.2).bind fun t2 => ((pyxref1_CmpNat.f k t2 a2).bind fun t3 => (((cond (a3 == 1) (some (t1.1, decide ((List.length t1.2 : Int) > 0))) (cond (a3 == 2) (cond (a0) (some (t1.1, decide ((List.length t1.2 : Int) > 0))) (some (t1.1, false))) (cond (a3 == 3) (some (t1.1, decide (t3 ≥ 0))) (cond (a3 == 4) (cond (decide (t3 > 0)) (some (t1.1, true)) (cond (t3 == 0) ((pyxref1_digit.f k t1.1 0).bind fun t6 => (some (t1.1, (Int.tmod t6 2) == 1))) (some (t1.1, false)))) (some (t1.1, false)))))) : Option (List Int × Bool)).bind fun y7 => (cond (y7.2) ((pyxref1_AddNat.f k y7.1 [1]).bind fun t8 => (some t8)) (some y7.1)))))
noncomputable def pyxref1_Rounded.un : List (AV U) → Option (Bool × List Int × List Int × Int) | [.flat (.bool x1), .row C.i64 x2, .row C.i64 x3, .flat (.int .i64 x4)] => some (x1, x2, x3, x4) | _ => none
noncomputable def pyxref1_Rounded.mk (x : (Bool × List Int × List Int × Int)) : List (AV U) := [.flat (.bool x.1), .row C.i64 x.2.1, .row C.i64 x.2.2.1, .flat (.int .i64 x.2.2.2)]
noncomputable def pyxref1_Rounded.D (k : Nat) : FDen U := { X := (Bool × List Int × List Int × Int), Y := List Int, un := pyxref1_Rounded.un, f := fun x => pyxref1_Rounded.f k (x.1) (x.2.1) (x.2.2.1) (x.2.2.2), fin := fun y => .row C.i64 y }
noncomputable def pyxref1_Rounded.re : AV U → Option (List Int) | .row C.i64 x1 => some x1 | _ => none
noncomputable def pyxref1_Rounded.j5001.fin (y : (List Int × Bool)) : Out U := match y with | (x4, x5) => .norm ⟨[(9, .row C.i64 x4), (12, .flat (.bool x5))], []⟩
noncomputable def pyxref1_Rounded.j5001.finK {ρ : Type} (y : (List Int × Bool)) (K : Out U → Option ρ) : Option ρ := match y with | (x4, x5) => K (.norm ⟨[(9, .row C.i64 x4), (12, .flat (.bool x5))], []⟩)
theorem pyxref1_Rounded.j5001.finK_eq {ρ : Type} (y : (List Int × Bool)) (K : Out U → Option ρ) : pyxref1_Rounded.j5001.finK y K = K (pyxref1_Rounded.j5001.fin y) := by
  unfold pyxref1_Rounded.j5001.finK pyxref1_Rounded.j5001.fin
  first | rfl | (split <;> rfl)
noncomputable def pyxref1_Rounded.j5001.re : Out U → Option ((List Int × Bool)) | .norm s => ((row_i64 (s.get 9)).bind fun q0 => (match s.get 12 with | .flat (.bool x5) => some (q0, x5) | _ => none)) | _ => none
noncomputable def pyxref1_Rounded.j5001.J : JDen U := { Y := (List Int × Bool), re := pyxref1_Rounded.j5001.re, fin := pyxref1_Rounded.j5001.fin, finK := pyxref1_Rounded.j5001.finK, finK_eq := pyxref1_Rounded.j5001.finK_eq }
theorem pyxref1_Rounded.j5001.fit (o : Out U) (y : (List Int × Bool)) (h : pyxref1_Rounded.j5001.re o = some y) : FitsO o (pyxref1_Rounded.j5001.fin y) := by
  unfold pyxref1_Rounded.j5001.re at h
  split at h
  · obtain ⟨q0, eq0, h1⟩ := Option.bind_eq_some_iff.1 h
    split at h1
    · cases h1
      refine fitsO_norm (fits_ren [] ?_ ?_ ren_nil rfl)
      · exact List.forall_mem_cons.2 ⟨row_i64_fit eq0, List.forall_mem_cons.2 ⟨FV.same (by assumption) (fun _ _ _ hh => by cases hh) (fun _ hh => by cases hh), fun _ hp => (List.not_mem_nil hp).elim⟩⟩
      · exact fun _ hp => (List.not_mem_nil hp).elim
    · cases h1
  · cases h
noncomputable def pyxref1_Rounded.jl : List (Nat × JDen U) := [(5001, pyxref1_Rounded.j5001.J)]
noncomputable def pyxref1_Rounded.fl (k : Nat) : List (Nat × FDen U) := [(36, pyxref1_DivNat.D k), (32, pyxref1_AddNat.D k), (33, pyxref1_CmpNat.D k), (70, pyxref1_digit.D k)]
noncomputable def pyxref1_Rounded.ll (k : Nat) : List (Nat × LDen U) := []
noncomputable def pyxref1_Rounded.E (k : Nat) : Env U := { P := Try.prog, D := DD, fd := lk (pyxref1_Rounded.fl k), ld := lk (pyxref1_Rounded.ll k), jd := lk pyxref1_Rounded.jl, mode := lk [], elc := lk ec, dyn := fun t => false, vecs := fun d => false, results := Try.f116.results.toList }
theorem pyxref1_Rounded.ok (k : Nat) : EnvOk (pyxref1_Rounded.E k) := envOk lawful (pyxref1_Rounded.fl k) (pyxref1_Rounded.ll k) pyxref1_Rounded.jl _ _ _ _ _ (by
  intro p hp
  simp only [pyxref1_Rounded.fl, List.mem_cons, List.not_mem_nil, or_false] at hp
  rcases hp with rfl | rfl | rfl | rfl
  · exact ⟨pyxref1_DivNat.sound k, enter_of Try.func36 (by kernel_rfl) (by kernel_rfl)⟩
  · exact ⟨pyxref1_AddNat.sound k, enter_of Try.func32 (by kernel_rfl) (by kernel_rfl)⟩
  · exact ⟨pyxref1_CmpNat.sound k, enter_of Try.func33 (by kernel_rfl) (by kernel_rfl)⟩
  · exact ⟨pyxref1_digit.sound k, enter_of Try.func70 (by kernel_rfl) (by kernel_rfl)⟩) (by
  intro p hp
  simp only [pyxref1_Rounded.jl, List.mem_cons, List.not_mem_nil, or_false] at hp
  rcases hp with rfl
  · exact pyxref1_Rounded.j5001.fit)
theorem pyxref1_Rounded.eq (k : Nat) (x : (Bool × List Int × List Int × Int)) : runF (pyxref1_Rounded.E k) (codeOf Try.f116) (pyxref1_Rounded.mk x) pyxref1_Rounded.re = (pyxref1_Rounded.D k).f x := by kernel_rfl
theorem pyxref1_Rounded.sound (k : Nat) : Sound Try.prog DD 116 (pyxref1_Rounded.D k) :=
  fun_sound (E := pyxref1_Rounded.E k) (fn := Try.f116) (c := codeOf Try.f116) (pyxref1_Rounded.ok k) mixed rfl Try.func116 (by kernel_rfl) (by kernel_rfl) (allL_of (l := []) (by kernel_rfl) allL_nil) (pyxref1_Rounded.D k) pyxref1_Rounded.mk pyxref1_Rounded.re
    (by intro args x h; replace h : pyxref1_Rounded.un args = some x := h; unfold pyxref1_Rounded.un at h; split at h; · cases h; rfl
        · cases h)
    (by intro v y h; unfold pyxref1_Rounded.re at h; split at h; · cases h; rfl
        · cases h)
    (fun _ => rfl) (fun x => Nat.le_of_ble_eq_true (by kernel_rfl)) (pyxref1_Rounded.eq k)
/-! ### pyx/pyxref1.Times: function 98 -/
noncomputable def pyxref1_Times.f (k : Nat) (a0 : Sapi_Dec) (a1 : Sapi_Dec) (a2 : Int) (a3 : Int) : Option (Sapi_Dec × Int) := (((pyxref1_RightDec.f k (⟨a0.f_Neg, (a0.f_C.1, a0.f_C.2), a0.f_Scale⟩ : Sapi_Dec)).bind fun t1 => (cond (!t1) (some (a2, a3, true, a0.f_Neg, a0.f_C.1, a0.f_C.2, a0.f_Scale, a1.f_Neg, a1.f_C.1, a1.f_C.2, a1.f_Scale, false, 0, 0, 0)) ((pyxref1_RightDec.f k (⟨a1.f_Neg, (a1.f_C.1, a1.f_C.2), a1.f_Scale⟩ : Sapi_Dec)).bind fun t17 => (cond (!t17) (some (a2, a3, true, a0.f_Neg, a0.f_C.1, a0.f_C.2, a0.f_Scale, a1.f_Neg, a1.f_C.1, a1.f_C.2, a1.f_Scale, false, 0, 0, 0)) ((pyxref1_goodMode.f k a2 a3).bind fun t18 => (some (a2, a3, !t18, a0.f_Neg, a0.f_C.1, a0.f_C.2, a0.f_Scale, a1.f_Neg, a1.f_C.1, a1.f_C.2, a1.f_Scale, false, 0, 0, 0))))))) : Option (Int × Int × Bool × Bool × Int × Int × Int × Bool × Int × Int × Int × Bool × Int × Int × Int)).bind fun y19 => (cond (y19.2.2.1) (some ((⟨false, (0, 0), 0⟩ : Sapi_Dec), 1)) ((pyxref1_Nat2.f k (y19.2.2.2.2.1, y19.2.2.2.2.2.1)).bind fun t20 => ((pyxref1_Nat2.f k (y19.2.2.2.2.2.2.2.2.1, y19.2.2.2.2.2.2.2.2.2.1)).bind fun t21 => ((pyxref1_MulNat.f k t20 t21).bind fun t22 => ((pyxref1_TenNat.f k y19.1).bind fun t23 => ((pyxref1_MulNat.f k t22 t23).bind fun t24 => ((pyxref1_TenNat.f k (IntKind.wrap .i64 (y19.2.2.2.2.2.2.1 + y19.2.2.2.2.2.2.2.2.2.2.1))).bind fun t25 => ((pyxref1_Rounded.f k (!(y19.2.2.2.1 == y19.2.2.2.2.2.2.2.1)) t24 t25 y19.2.1).bind fun t26 => ((pyxref1_Make.f k (!(y19.2.2.2.1 == y19.2.2.2.2.2.2.2.1)) t26 y19.1).bind fun t27 => (some ((⟨t27.1.f_Neg, (t27.1.f_C.1, t27.1.f_C.2), t27.1.f_Scale⟩ : Sapi_Dec), t27.2)))))))))))
noncomputable def pyxref1_Times.un : List (AV U) → Option (Sapi_Dec × Sapi_Dec × Int × Int) | [.agg [.flat (.bool x1), .flat (.int .u64 x2), .flat (.int .u64 x3), .flat (.int .i64 x4)], .agg [.flat (.bool x5), .flat (.int .u64 x6), .flat (.int .u64 x7), .flat (.int .i64 x8)], .flat (.int .i64 x9), .flat (.int .i64 x10)] => some ((⟨x1, (x2, x3), x4⟩ : Sapi_Dec), (⟨x5, (x6, x7), x8⟩ : Sapi_Dec), x9, x10) | _ => none
noncomputable def pyxref1_Times.mk (x : (Sapi_Dec × Sapi_Dec × Int × Int)) : List (AV U) := [.agg [.flat (.bool x.1.f_Neg), .flat (.int .u64 x.1.f_C.1), .flat (.int .u64 x.1.f_C.2), .flat (.int .i64 x.1.f_Scale)], .agg [.flat (.bool x.2.1.f_Neg), .flat (.int .u64 x.2.1.f_C.1), .flat (.int .u64 x.2.1.f_C.2), .flat (.int .i64 x.2.1.f_Scale)], .flat (.int .i64 x.2.2.1), .flat (.int .i64 x.2.2.2)]
noncomputable def pyxref1_Times.D (k : Nat) : FDen U := { X := (Sapi_Dec × Sapi_Dec × Int × Int), Y := (Sapi_Dec × Int), un := pyxref1_Times.un, f := fun x => pyxref1_Times.f k (x.1) (x.2.1) (x.2.2.1) (x.2.2.2), fin := fun y => .tup [.agg [.flat (.bool y.1.f_Neg), .flat (.int .u64 y.1.f_C.1), .flat (.int .u64 y.1.f_C.2), .flat (.int .i64 y.1.f_Scale)], .flat (.int .i64 y.2)] }
noncomputable def pyxref1_Times.re : AV U → Option (Sapi_Dec × Int) | .tup [.agg [.flat (.bool x1), .flat (.int .u64 x2), .flat (.int .u64 x3), .flat (.int .i64 x4)], .flat (.int .i64 x5)] => some ((⟨x1, (x2, x3), x4⟩ : Sapi_Dec), x5) | _ => none
noncomputable def pyxref1_Times.j1000.fin (y : (Int × Int × Bool × Bool × Int × Int × Int × Bool × Int × Int × Int × Bool × Int × Int × Int)) : Out U := match y with | (x2, x3, x16, x4, x5, x6, x7, x8, x9, x10, x11, x12, x13, x14, x15) => .norm ⟨[(4, .ptr 4 0), (5, .ptr 5 0), (8, .ptr 8 0), (2, .flat (.int .i64 x2)), (3, .flat (.int .i64 x3)), (24, .flat (.bool x16))], [(4, .lit [.flat (.bool x4), .flat (.int .u64 x5), .flat (.int .u64 x6), .flat (.int .i64 x7)]), (5, .lit [.flat (.bool x8), .flat (.int .u64 x9), .flat (.int .u64 x10), .flat (.int .i64 x11)]), (8, .lit [.flat (.bool x12), .flat (.int .u64 x13), .flat (.int .u64 x14), .flat (.int .i64 x15)])]⟩
noncomputable def pyxref1_Times.j1000.finK {ρ : Type} (y : (Int × Int × Bool × Bool × Int × Int × Int × Bool × Int × Int × Int × Bool × Int × Int × Int)) (K : Out U → Option ρ) : Option ρ := match y with | (x2, x3, x16, x4, x5, x6, x7, x8, x9, x10, x11, x12, x13, x14, x15) => K (.norm ⟨[(4, .ptr 4 0), (5, .ptr 5 0), (8, .ptr 8 0), (2, .flat (.int .i64 x2)), (3, .flat (.int .i64 x3)), (24, .flat (.bool x16))], [(4, .lit [.flat (.bool x4), .flat (.int .u64 x5), .flat (.int .u64 x6), .flat (.int .i64 x7)]), (5, .lit [.flat (.bool x8), .flat (.int .u64 x9), .flat (.int .u64 x10), .flat (.int .i64 x11)]), (8, .lit [.flat (.bool x12), .flat (.int .u64 x13), .flat (.int .u64 x14), .flat (.int .i64 x15)])]⟩)
theorem pyxref1_Times.j1000.finK_eq {ρ : Type} (y : (Int × Int × Bool × Bool × Int × Int × Int × Bool × Int × Int × Int × Bool × Int × Int × Int)) (K : Out U → Option ρ) : pyxref1_Times.j1000.finK y K = K (pyxref1_Times.j1000.fin y) := by
  unfold pyxref1_Times.j1000.finK pyxref1_Times.j1000.fin
  first | rfl | (split <;> rfl)
noncomputable def pyxref1_Times.j1000.re : Out U → Option ((Int × Int × Bool × Bool × Int × Int × Int × Bool × Int × Int × Int × Bool × Int × Int × Int)) | .norm s => (match s.get 4, s.get 5, s.get 8, s.get 2, s.get 3, s.get 24, lk s.o 4, lk s.o 5, lk s.o 8 with | .ptr 4 0, .ptr 5 0, .ptr 8 0, .flat (.int .i64 x2), .flat (.int .i64 x3), .flat (.bool x16), some (.lit [.flat (.bool x4), .flat (.int .u64 x5), .flat (.int .u64 x6), .flat (.int .i64 x7)]), some (.lit [.flat (.bool x8), .flat (.int .u64 x9), .flat (.int .u64 x10), .flat (.int .i64 x11)]), some (.lit [.flat (.bool x12), .flat (.int .u64 x13), .flat (.int .u64 x14), .flat (.int .i64 x15)]) => some (x2, x3, x16, x4, x5, x6, x7, x8, x9, x10, x11, x12, x13, x14, x15) | _, _, _, _, _, _, _, _, _ => none) | _ => none
noncomputable def pyxref1_Times.j1000.J : JDen U := { Y := (Int × Int × Bool × Bool × Int × Int × Int × Bool × Int × Int × Int × Bool × Int × Int × Int), re := pyxref1_Times.j1000.re, fin := pyxref1_Times.j1000.fin, finK := pyxref1_Times.j1000.finK, finK_eq := pyxref1_Times.j1000.finK_eq }
theorem pyxref1_Times.j1000.fit (o : Out U) (y : (Int × Int × Bool × Bool × Int × Int × Int × Bool × Int × Int × Int × Bool × Int × Int × Int)) (h : pyxref1_Times.j1000.re o = some y) : FitsO o (pyxref1_Times.j1000.fin y) := by
  unfold pyxref1_Times.j1000.re at h
  split at h
  · split at h
    · cases h
      refine fitsO_norm (fits_ren [] ?_ ?_ ren_nil rfl)
      · exact List.forall_mem_cons.2 ⟨FV.same (by assumption) (fun _ _ _ hh => by cases hh) (fun _ hh => by cases hh), List.forall_mem_cons.2 ⟨FV.same (by assumption) (fun _ _ _ hh => by cases hh) (fun _ hh => by cases hh), List.forall_mem_cons.2 ⟨FV.same (by assumption) (fun _ _ _ hh => by cases hh) (fun _ hh => by cases hh), List.forall_mem_cons.2 ⟨FV.same (by assumption) (fun _ _ _ hh => by cases hh) (fun _ hh => by cases hh), List.forall_mem_cons.2 ⟨FV.same (by assumption) (fun _ _ _ hh => by cases hh) (fun _ hh => by cases hh), List.forall_mem_cons.2 ⟨FV.same (by assumption) (fun _ _ _ hh => by cases hh) (fun _ hh => by cases hh), fun _ hp => (List.not_mem_nil hp).elim⟩⟩⟩⟩⟩⟩
      · exact List.forall_mem_cons.2 ⟨(show lk (St.o _) 4 = some _ from by assumption), List.forall_mem_cons.2 ⟨(show lk (St.o _) 5 = some _ from by assumption), List.forall_mem_cons.2 ⟨(show lk (St.o _) 8 = some _ from by assumption), fun _ hp => (List.not_mem_nil hp).elim⟩⟩⟩
    · cases h
  · cases h
noncomputable def pyxref1_Times.jl : List (Nat × JDen U) := [(1000, pyxref1_Times.j1000.J)]
noncomputable def pyxref1_Times.fl (k : Nat) : List (Nat × FDen U) := [(114, pyxref1_RightDec.D k), (115, pyxref1_goodMode.D k), (30, pyxref1_Nat2.D k), (35, pyxref1_MulNat.D k), (38, pyxref1_TenNat.D k), (116, pyxref1_Rounded.D k), (83, pyxref1_Make.D k)]
noncomputable def pyxref1_Times.ll (k : Nat) : List (Nat × LDen U) := []
noncomputable def pyxref1_Times.E (k : Nat) : Env U := { P := Try.prog, D := DD, fd := lk (pyxref1_Times.fl k), ld := lk (pyxref1_Times.ll k), jd := lk pyxref1_Times.jl, mode := lk [], elc := lk ec, dyn := fun t => false, vecs := fun d => false, results := Try.f98.results.toList }
theorem pyxref1_Times.ok (k : Nat) : EnvOk (pyxref1_Times.E k) := envOk lawful (pyxref1_Times.fl k) (pyxref1_Times.ll k) pyxref1_Times.jl _ _ _ _ _ (by
  intro p hp
  simp only [pyxref1_Times.fl, List.mem_cons, List.not_mem_nil, or_false] at hp
  rcases hp with rfl | rfl | rfl | rfl | rfl | rfl | rfl
  · exact ⟨pyxref1_RightDec.sound k, enter_of Try.func114 (by kernel_rfl) (by kernel_rfl)⟩
  · exact ⟨pyxref1_goodMode.sound k, enter_of Try.func115 (by kernel_rfl) (by kernel_rfl)⟩
  · exact ⟨pyxref1_Nat2.sound k, enter_of Try.func30 (by kernel_rfl) (by kernel_rfl)⟩
  · exact ⟨pyxref1_MulNat.sound k, enter_of Try.func35 (by kernel_rfl) (by kernel_rfl)⟩
  · exact ⟨pyxref1_TenNat.sound k, enter_of Try.func38 (by kernel_rfl) (by kernel_rfl)⟩
  · exact ⟨pyxref1_Rounded.sound k, enter_of Try.func116 (by kernel_rfl) (by kernel_rfl)⟩
  · exact ⟨pyxref1_Make.sound k, enter_of Try.func83 (by kernel_rfl) (by kernel_rfl)⟩) (by
  intro p hp
  simp only [pyxref1_Times.jl, List.mem_cons, List.not_mem_nil, or_false] at hp
  rcases hp with rfl
  · exact pyxref1_Times.j1000.fit)
theorem pyxref1_Times.eq (k : Nat) (x : (Sapi_Dec × Sapi_Dec × Int × Int)) : runF (pyxref1_Times.E k) (codeOf Try.f98) (pyxref1_Times.mk x) pyxref1_Times.re = (pyxref1_Times.D k).f x := by kernel_rfl
theorem pyxref1_Times.sound (k : Nat) : Sound Try.prog DD 98 (pyxref1_Times.D k) :=
  fun_sound (E := pyxref1_Times.E k) (fn := Try.f98) (c := codeOf Try.f98) (pyxref1_Times.ok k) mixed rfl Try.func98 (by kernel_rfl) (by kernel_rfl) (allL_of (l := []) (by kernel_rfl) allL_nil) (pyxref1_Times.D k) pyxref1_Times.mk pyxref1_Times.re
    (by intro args x h; replace h : pyxref1_Times.un args = some x := h; unfold pyxref1_Times.un at h; split at h; · cases h; rfl
        · cases h)
    (by intro v y h; unfold pyxref1_Times.re at h; split at h; · cases h; rfl
        · cases h)
    (fun _ => rfl) (fun x => Nat.le_of_ble_eq_true (by kernel_rfl)) (pyxref1_Times.eq k)
/-! ### pyx/pyxref11.Part: function 59 -/
noncomputable def pyxref11_Part.l4.once (k : Nat) (x : (List Sapi_Ent × Int × Bool × Int × Int × Int × Bool × Int × Int × Int)) : Option ((List Sapi_Ent × Int × Bool × Int × Int × Int × Bool × Int × Int × Int) ⊕ ((Bool × Int × Int × Int × Bool × Int × Int × Int))) := match x with | (x11, x12, x13, x14, x15, x16, x17, x18, x19, x20) => cond (decide (x12 ≥ 0)) (cond (inb x12 (List.length x11)) ((pyxref1_Of.f k ((List.getD x11 (Int.toNat x12) Sapi_Ent.zero).f_Share) 4).bind fun t21 => ((pyxref1_Times.f k (⟨x17, (x18, x19), x20⟩ : Sapi_Dec) (⟨t21.f_Neg, (t21.f_C.1, t21.f_C.2), t21.f_Scale⟩ : Sapi_Dec) 6 4).bind fun t22 => (cond (inb x12 (List.length x11)) (some (.inl (x11, (List.getD x11 (Int.toNat x12) Sapi_Ent.zero).f_Parent, x13, x14, x15, x16, t22.1.f_Neg, t22.1.f_C.1, t22.1.f_C.2, t22.1.f_Scale))) none))) none) (some (.inr (x13, x14, x15, x16, x17, x18, x19, x20)))
noncomputable def pyxref11_Part.f (k : Nat) (a0 : List Sapi_Ent) (a1 : Int) : Option Sapi_Dec := (((pyxref11_RightEnts.f k a0).bind fun t1 => (cond (!t1) (some (a0, a1, true, false, 0, 0, 0)) (cond (decide (a1 < 0)) (some (a0, a1, true, false, 0, 0, 0)) (some (a0, a1, decide (a1 ≥ (List.length a0 : Int)), false, 0, 0, 0))))) : Option (List Sapi_Ent × Int × Bool × Bool × Int × Int × Int)).bind fun y9 => (cond (y9.2.2.1) (some (⟨false, (0, 0), 0⟩ : Sapi_Dec)) ((pyxref1_Of.f k 1000000 6).bind fun t10 => ((iter (pyxref11_Part.l4.once k) k (y9.1, y9.2.1, y9.2.2.2.1, y9.2.2.2.2.1, y9.2.2.2.2.2.1, y9.2.2.2.2.2.2, t10.f_Neg, t10.f_C.1, t10.f_C.2, t10.f_Scale)).bind fun y31 => (some (⟨y31.2.2.2.2.1, (y31.2.2.2.2.2.1, y31.2.2.2.2.2.2.1), y31.2.2.2.2.2.2.2⟩ : Sapi_Dec)))))
noncomputable def pyxref11_Part.un : List (AV U) → Option (List Sapi_Ent × Int) | [.row C.Sapi_Ent x1, .flat (.int .i64 x2)] => some (x1, x2) | _ => none
noncomputable def pyxref11_Part.mk (x : (List Sapi_Ent × Int)) : List (AV U) := [.row C.Sapi_Ent x.1, .flat (.int .i64 x.2)]
noncomputable def pyxref11_Part.D (k : Nat) : FDen U := { X := (List Sapi_Ent × Int), Y := Sapi_Dec, un := pyxref11_Part.un, f := fun x => pyxref11_Part.f k (x.1) (x.2), fin := fun y => .agg [.flat (.bool y.f_Neg), .flat (.int .u64 y.f_C.1), .flat (.int .u64 y.f_C.2), .flat (.int .i64 y.f_Scale)] }
noncomputable def pyxref11_Part.re : AV U → Option Sapi_Dec | .agg [.flat (.bool x1), .flat (.int .u64 x2), .flat (.int .u64 x3), .flat (.int .i64 x4)] => some (⟨x1, (x2, x3), x4⟩ : Sapi_Dec) | _ => none
noncomputable def pyxref11_Part.l4.mk (x : (List Sapi_Ent × Int × Bool × Int × Int × Int × Bool × Int × Int × Int)) : St U := match x with | (x11, x12, x13, x14, x15, x16, x17, x18, x19, x20) => ⟨[(4, .ptr 4 0), (5, .ptr 5 0), (0, .row C.Sapi_Ent x11), (1, .flat (.int .i64 x12))], [(4, .lit [.flat (.bool x13), .flat (.int .u64 x14), .flat (.int .u64 x15), .flat (.int .i64 x16)]), (5, .lit [.flat (.bool x17), .flat (.int .u64 x18), .flat (.int .u64 x19), .flat (.int .i64 x20)])]⟩
noncomputable def pyxref11_Part.l4.un (s : St U) : Option (List Sapi_Ent × Int × Bool × Int × Int × Int × Bool × Int × Int × Int) := (row_Sapi_Ent (s.get 0)).bind fun q0 => (match s.get 4, s.get 5, s.get 1, lk s.o 4, lk s.o 5 with | .ptr 4 0, .ptr 5 0, .flat (.int .i64 x12), some (.lit [.flat (.bool x13), .flat (.int .u64 x14), .flat (.int .u64 x15), .flat (.int .i64 x16)]), some (.lit [.flat (.bool x17), .flat (.int .u64 x18), .flat (.int .u64 x19), .flat (.int .i64 x20)]) => some (q0, x12, x13, x14, x15, x16, x17, x18, x19, x20) | _, _, _, _, _ => none)
noncomputable def pyxref11_Part.l4.fin (y : (Bool × Int × Int × Int × Bool × Int × Int × Int)) : Out U := match y with | (x23, x24, x25, x26, x27, x28, x29, x30) => .exit 0 ⟨[(4, .ptr 4 0), (5, .ptr 5 0)], [(4, .lit [.flat (.bool x23), .flat (.int .u64 x24), .flat (.int .u64 x25), .flat (.int .i64 x26)]), (5, .lit [.flat (.bool x27), .flat (.int .u64 x28), .flat (.int .u64 x29), .flat (.int .i64 x30)])]⟩
noncomputable def pyxref11_Part.l4.finK {ρ : Type} (y : (Bool × Int × Int × Int × Bool × Int × Int × Int)) (K : Out U → Option ρ) : Option ρ := match y with | (x23, x24, x25, x26, x27, x28, x29, x30) => K (.exit 0 ⟨[(4, .ptr 4 0), (5, .ptr 5 0)], [(4, .lit [.flat (.bool x23), .flat (.int .u64 x24), .flat (.int .u64 x25), .flat (.int .i64 x26)]), (5, .lit [.flat (.bool x27), .flat (.int .u64 x28), .flat (.int .u64 x29), .flat (.int .i64 x30)])]⟩)
theorem pyxref11_Part.l4.finK_eq {ρ : Type} (y : (Bool × Int × Int × Int × Bool × Int × Int × Int)) (K : Out U → Option ρ) : pyxref11_Part.l4.finK y K = K (pyxref11_Part.l4.fin y) := by
  unfold pyxref11_Part.l4.finK pyxref11_Part.l4.fin
  first | rfl | (split <;> rfl)
noncomputable def pyxref11_Part.l4.re : Out U → Option ((Bool × Int × Int × Int × Bool × Int × Int × Int)) | .exit 0 s => (match s.get 4, s.get 5, lk s.o 4, lk s.o 5 with | .ptr 4 0, .ptr 5 0, some (.lit [.flat (.bool x23), .flat (.int .u64 x24), .flat (.int .u64 x25), .flat (.int .i64 x26)]), some (.lit [.flat (.bool x27), .flat (.int .u64 x28), .flat (.int .u64 x29), .flat (.int .i64 x30)]) => some (x23, x24, x25, x26, x27, x28, x29, x30) | _, _, _, _ => none) | _ => none
noncomputable def pyxref11_Part.l4.L (k : Nat) : LDen U := { X := (List Sapi_Ent × Int × Bool × Int × Int × Int × Bool × Int × Int × Int), Y := (Bool × Int × Int × Int × Bool × Int × Int × Int), un := pyxref11_Part.l4.un, f := iter (pyxref11_Part.l4.once k) k, fin := pyxref11_Part.l4.fin, finK := pyxref11_Part.l4.finK, finK_eq := pyxref11_Part.l4.finK_eq }
noncomputable def pyxref11_Part.j1000.fin (y : (List Sapi_Ent × Int × Bool × Bool × Int × Int × Int)) : Out U := match y with | (x2, x3, x8, x4, x5, x6, x7) => .norm ⟨[(4, .ptr 4 0), (0, .row C.Sapi_Ent x2), (1, .flat (.int .i64 x3)), (18, .flat (.bool x8))], [(4, .lit [.flat (.bool x4), .flat (.int .u64 x5), .flat (.int .u64 x6), .flat (.int .i64 x7)])]⟩
noncomputable def pyxref11_Part.j1000.finK {ρ : Type} (y : (List Sapi_Ent × Int × Bool × Bool × Int × Int × Int)) (K : Out U → Option ρ) : Option ρ := match y with | (x2, x3, x8, x4, x5, x6, x7) => K (.norm ⟨[(4, .ptr 4 0), (0, .row C.Sapi_Ent x2), (1, .flat (.int .i64 x3)), (18, .flat (.bool x8))], [(4, .lit [.flat (.bool x4), .flat (.int .u64 x5), .flat (.int .u64 x6), .flat (.int .i64 x7)])]⟩)
theorem pyxref11_Part.j1000.finK_eq {ρ : Type} (y : (List Sapi_Ent × Int × Bool × Bool × Int × Int × Int)) (K : Out U → Option ρ) : pyxref11_Part.j1000.finK y K = K (pyxref11_Part.j1000.fin y) := by
  unfold pyxref11_Part.j1000.finK pyxref11_Part.j1000.fin
  first | rfl | (split <;> rfl)
noncomputable def pyxref11_Part.j1000.re : Out U → Option ((List Sapi_Ent × Int × Bool × Bool × Int × Int × Int)) | .norm s => ((row_Sapi_Ent (s.get 0)).bind fun q0 => (match s.get 4, s.get 1, s.get 18, lk s.o 4 with | .ptr 4 0, .flat (.int .i64 x3), .flat (.bool x8), some (.lit [.flat (.bool x4), .flat (.int .u64 x5), .flat (.int .u64 x6), .flat (.int .i64 x7)]) => some (q0, x3, x8, x4, x5, x6, x7) | _, _, _, _ => none)) | _ => none
noncomputable def pyxref11_Part.j1000.J : JDen U := { Y := (List Sapi_Ent × Int × Bool × Bool × Int × Int × Int), re := pyxref11_Part.j1000.re, fin := pyxref11_Part.j1000.fin, finK := pyxref11_Part.j1000.finK, finK_eq := pyxref11_Part.j1000.finK_eq }
theorem pyxref11_Part.j1000.fit (o : Out U) (y : (List Sapi_Ent × Int × Bool × Bool × Int × Int × Int)) (h : pyxref11_Part.j1000.re o = some y) : FitsO o (pyxref11_Part.j1000.fin y) := by
  unfold pyxref11_Part.j1000.re at h
  split at h
  · obtain ⟨q0, eq0, h1⟩ := Option.bind_eq_some_iff.1 h
    split at h1
    · cases h1
      refine fitsO_norm (fits_ren [] ?_ ?_ ren_nil rfl)
      · exact List.forall_mem_cons.2 ⟨FV.same (by assumption) (fun _ _ _ hh => by cases hh) (fun _ hh => by cases hh), List.forall_mem_cons.2 ⟨row_Sapi_Ent_fit eq0, List.forall_mem_cons.2 ⟨FV.same (by assumption) (fun _ _ _ hh => by cases hh) (fun _ hh => by cases hh), List.forall_mem_cons.2 ⟨FV.same (by assumption) (fun _ _ _ hh => by cases hh) (fun _ hh => by cases hh), fun _ hp => (List.not_mem_nil hp).elim⟩⟩⟩⟩
      · exact List.forall_mem_cons.2 ⟨(show lk (St.o _) 4 = some _ from by assumption), fun _ hp => (List.not_mem_nil hp).elim⟩
    · cases h1
  · cases h
noncomputable def pyxref11_Part.jl : List (Nat × JDen U) := [(1000, pyxref11_Part.j1000.J)]
noncomputable def pyxref11_Part.fl (k : Nat) : List (Nat × FDen U) := [(97, pyxref11_RightEnts.D k), (52, pyxref1_Of.D k), (98, pyxref1_Times.D k)]
noncomputable def pyxref11_Part.ll (k : Nat) : List (Nat × LDen U) := [(4, pyxref11_Part.l4.L k)]
noncomputable def pyxref11_Part.E (k : Nat) : Env U := { P := Try.prog, D := DD, fd := lk (pyxref11_Part.fl k), ld := lk (pyxref11_Part.ll k), jd := lk pyxref11_Part.jl, mode := lk [], elc := lk ec, dyn := fun t => false, vecs := fun d => false, results := Try.f59.results.toList }
theorem pyxref11_Part.ok (k : Nat) : EnvOk (pyxref11_Part.E k) := envOk lawful (pyxref11_Part.fl k) (pyxref11_Part.ll k) pyxref11_Part.jl _ _ _ _ _ (by
  intro p hp
  simp only [pyxref11_Part.fl, List.mem_cons, List.not_mem_nil, or_false] at hp
  rcases hp with rfl | rfl | rfl
  · exact ⟨pyxref11_RightEnts.sound k, enter_of Try.func97 (by kernel_rfl) (by kernel_rfl)⟩
  · exact ⟨pyxref1_Of.sound k, enter_of Try.func52 (by kernel_rfl) (by kernel_rfl)⟩
  · exact ⟨pyxref1_Times.sound k, enter_of Try.func98 (by kernel_rfl) (by kernel_rfl)⟩) (by
  intro p hp
  simp only [pyxref11_Part.jl, List.mem_cons, List.not_mem_nil, or_false] at hp
  rcases hp with rfl
  · exact pyxref11_Part.j1000.fit)
theorem pyxref11_Part.l4.eq (k : Nat) (x : (List Sapi_Ent × Int × Bool × Int × Int × Int × Bool × Int × Int × Int)) : evC (pyxref11_Part.E k) (loopAt Try.f59 4) (pyxref11_Part.l4.mk x) (headK pyxref11_Part.l4.un pyxref11_Part.l4.re) = pyxref11_Part.l4.once k x := by kernel_rfl
theorem pyxref11_Part.l4.fit (s : St U) (x : (List Sapi_Ent × Int × Bool × Int × Int × Int × Bool × Int × Int × Int)) (h : pyxref11_Part.l4.un s = some x) : Fits s (pyxref11_Part.l4.mk x) := by
  unfold pyxref11_Part.l4.un at h
  obtain ⟨q0, eq0, h1⟩ := Option.bind_eq_some_iff.1 h
  split at h1
  · cases h1
    refine fits_ren [] ?_ ?_ ren_nil rfl
    · exact List.forall_mem_cons.2 ⟨FV.same (by assumption) (fun _ _ _ hh => by cases hh) (fun _ hh => by cases hh), List.forall_mem_cons.2 ⟨FV.same (by assumption) (fun _ _ _ hh => by cases hh) (fun _ hh => by cases hh), List.forall_mem_cons.2 ⟨row_Sapi_Ent_fit eq0, List.forall_mem_cons.2 ⟨FV.same (by assumption) (fun _ _ _ hh => by cases hh) (fun _ hh => by cases hh), fun _ hp => (List.not_mem_nil hp).elim⟩⟩⟩⟩
    · exact List.forall_mem_cons.2 ⟨(show lk (St.o _) 4 = some _ from by assumption), List.forall_mem_cons.2 ⟨(show lk (St.o _) 5 = some _ from by assumption), fun _ hp => (List.not_mem_nil hp).elim⟩⟩
  · cases h1
theorem pyxref11_Part.l4.fitO (o : Out U) (y : (Bool × Int × Int × Int × Bool × Int × Int × Int)) (h : pyxref11_Part.l4.re o = some y) : FitsO o (pyxref11_Part.l4.fin y) := by
  unfold pyxref11_Part.l4.re at h
  split at h
  · split at h
    · cases h
      refine fitsO_exit (fits_ren [] ?_ ?_ ren_nil rfl)
      · exact List.forall_mem_cons.2 ⟨FV.same (by assumption) (fun _ _ _ hh => by cases hh) (fun _ hh => by cases hh), List.forall_mem_cons.2 ⟨FV.same (by assumption) (fun _ _ _ hh => by cases hh) (fun _ hh => by cases hh), fun _ hp => (List.not_mem_nil hp).elim⟩⟩
      · exact List.forall_mem_cons.2 ⟨(show lk (St.o _) 4 = some _ from by assumption), List.forall_mem_cons.2 ⟨(show lk (St.o _) 5 = some _ from by assumption), fun _ hp => (List.not_mem_nil hp).elim⟩⟩
    · cases h
  · cases h
theorem pyxref11_Part.l4.sound (k : Nat) : LSound (pyxref11_Part.E k) Try.f59.ntmps Try.f59 (loopAt Try.f59 4) (pyxref11_Part.l4.L k) :=
  loop_sound (pyxref11_Part.ok k) mixed rfl (by kernel_rfl) (allL_of (l := []) (by kernel_rfl) allL_nil) pyxref11_Part.l4.un pyxref11_Part.l4.mk pyxref11_Part.l4.fin pyxref11_Part.l4.re (pyxref11_Part.l4.once k) k pyxref11_Part.l4.fit pyxref11_Part.l4.fitO (pyxref11_Part.l4.eq k) pyxref11_Part.l4.finK pyxref11_Part.l4.finK_eq
theorem pyxref11_Part.eq (k : Nat) (x : (List Sapi_Ent × Int)) : runF (pyxref11_Part.E k) (codeOf Try.f59) (pyxref11_Part.mk x) pyxref11_Part.re = (pyxref11_Part.D k).f x := by kernel_rfl
theorem pyxref11_Part.sound (k : Nat) : Sound Try.prog DD 59 (pyxref11_Part.D k) :=
  fun_sound (E := pyxref11_Part.E k) (fn := Try.f59) (c := codeOf Try.f59) (pyxref11_Part.ok k) mixed rfl Try.func59 (by kernel_rfl) (by kernel_rfl) (allL_of (l := [loopAt Try.f59 4]) (by kernel_rfl) (allL_cons (key := 4) (by kernel_rfl) rfl (pyxref11_Part.l4.sound k) allL_nil)) (pyxref11_Part.D k) pyxref11_Part.mk pyxref11_Part.re
    (by intro args x h; replace h : pyxref11_Part.un args = some x := h; unfold pyxref11_Part.un at h; split at h; · cases h; rfl
        · cases h)
    (by intro v y h; unfold pyxref11_Part.re at h; split at h; · cases h; rfl
        · cases h)
    (fun _ => rfl) (fun x => Nat.le_of_ble_eq_true (by kernel_rfl)) (pyxref11_Part.eq k)
/-! ### pyx/pyxref11.Top: function 60 -/
noncomputable def pyxref11_Top.l3.once (k : Nat) (x : (List Sapi_Ent × Int)) : Option ((List Sapi_Ent × Int) ⊕ (Int)) := match x with | (x6, x7) => cond (inb x7 (List.length x6)) (cond (decide (((List.getD x6 (Int.toNat x7) Sapi_Ent.zero).f_Parent) ≥ 0)) (cond (inb x7 (List.length x6)) (some (.inl (x6, (List.getD x6 (Int.toNat x7) Sapi_Ent.zero).f_Parent))) none) (some (.inr x7))) none
noncomputable def pyxref11_Top.f (k : Nat) (a0 : List Sapi_Ent) (a1 : Int) : Option Int := (((pyxref11_RightEnts.f k a0).bind fun t1 => (cond (!t1) (some (a0, a1, true)) (cond (decide (a1 < 0)) (some (a0, a1, true)) (some (a0, a1, decide (a1 ≥ (List.length a0 : Int))))))) : Option (List Sapi_Ent × Int × Bool)).bind fun y5 => (cond (y5.2.2) (some (-1)) ((iter (pyxref11_Top.l3.once k) k (y5.1, y5.2.1)).bind fun y9 => (some y9)))
noncomputable def pyxref11_Top.un : List (AV U) → Option (List Sapi_Ent × Int) | [.row C.Sapi_Ent x1, .flat (.int .i64 x2)] => some (x1, x2) | _ => none
noncomputable def pyxref11_Top.mk (x : (List Sapi_Ent × Int)) : List (AV U) := [.row C.Sapi_Ent x.1, .flat (.int .i64 x.2)]
noncomputable def pyxref11_Top.D (k : Nat) : FDen U := { X := (List Sapi_Ent × Int), Y := Int, un := pyxref11_Top.un, f := fun x => pyxref11_Top.f k (x.1) (x.2), fin := fun y => .flat (.int .i64 y) }
noncomputable def pyxref11_Top.re : AV U → Option Int | .flat (.int .i64 x1) => some x1 | _ => none
noncomputable def pyxref11_Top.l3.mk (x : (List Sapi_Ent × Int)) : St U := match x with | (x6, x7) => ⟨[(0, .row C.Sapi_Ent x6), (1, .flat (.int .i64 x7))], []⟩
noncomputable def pyxref11_Top.l3.un (s : St U) : Option (List Sapi_Ent × Int) := (row_Sapi_Ent (s.get 0)).bind fun q0 => (match s.get 1 with | .flat (.int .i64 x7) => some (q0, x7) | _ => none)
noncomputable def pyxref11_Top.l3.fin (y : Int) : Out U := match y with | x8 => .exit 0 ⟨[(1, .flat (.int .i64 x8))], []⟩
noncomputable def pyxref11_Top.l3.finK {ρ : Type} (y : Int) (K : Out U → Option ρ) : Option ρ := match y with | x8 => K (.exit 0 ⟨[(1, .flat (.int .i64 x8))], []⟩)
theorem pyxref11_Top.l3.finK_eq {ρ : Type} (y : Int) (K : Out U → Option ρ) : pyxref11_Top.l3.finK y K = K (pyxref11_Top.l3.fin y) := by
  unfold pyxref11_Top.l3.finK pyxref11_Top.l3.fin
  first | rfl | (split <;> rfl)
noncomputable def pyxref11_Top.l3.re : Out U → Option (Int) | .exit 0 s => (match s.get 1 with | .flat (.int .i64 x8) => some x8 | _ => none) | _ => none
noncomputable def pyxref11_Top.l3.L (k : Nat) : LDen U := { X := (List Sapi_Ent × Int), Y := Int, un := pyxref11_Top.l3.un, f := iter (pyxref11_Top.l3.once k) k, fin := pyxref11_Top.l3.fin, finK := pyxref11_Top.l3.finK, finK_eq := pyxref11_Top.l3.finK_eq }
noncomputable def pyxref11_Top.j1000.fin (y : (List Sapi_Ent × Int × Bool)) : Out U := match y with | (x2, x3, x4) => .norm ⟨[(0, .row C.Sapi_Ent x2), (1, .flat (.int .i64 x3)), (17, .flat (.bool x4))], []⟩
noncomputable def pyxref11_Top.j1000.finK {ρ : Type} (y : (List Sapi_Ent × Int × Bool)) (K : Out U → Option ρ) : Option ρ := match y with | (x2, x3, x4) => K (.norm ⟨[(0, .row C.Sapi_Ent x2), (1, .flat (.int .i64 x3)), (17, .flat (.bool x4))], []⟩)
theorem pyxref11_Top.j1000.finK_eq {ρ : Type} (y : (List Sapi_Ent × Int × Bool)) (K : Out U → Option ρ) : pyxref11_Top.j1000.finK y K = K (pyxref11_Top.j1000.fin y) := by
  unfold pyxref11_Top.j1000.finK pyxref11_Top.j1000.fin
  first | rfl | (split <;> rfl)
noncomputable def pyxref11_Top.j1000.re : Out U → Option ((List Sapi_Ent × Int × Bool)) | .norm s => ((row_Sapi_Ent (s.get 0)).bind fun q0 => (match s.get 1, s.get 17 with | .flat (.int .i64 x3), .flat (.bool x4) => some (q0, x3, x4) | _, _ => none)) | _ => none
noncomputable def pyxref11_Top.j1000.J : JDen U := { Y := (List Sapi_Ent × Int × Bool), re := pyxref11_Top.j1000.re, fin := pyxref11_Top.j1000.fin, finK := pyxref11_Top.j1000.finK, finK_eq := pyxref11_Top.j1000.finK_eq }
theorem pyxref11_Top.j1000.fit (o : Out U) (y : (List Sapi_Ent × Int × Bool)) (h : pyxref11_Top.j1000.re o = some y) : FitsO o (pyxref11_Top.j1000.fin y) := by
  unfold pyxref11_Top.j1000.re at h
  split at h
  · obtain ⟨q0, eq0, h1⟩ := Option.bind_eq_some_iff.1 h
    split at h1
    · cases h1
      refine fitsO_norm (fits_ren [] ?_ ?_ ren_nil rfl)
      · exact List.forall_mem_cons.2 ⟨row_Sapi_Ent_fit eq0, List.forall_mem_cons.2 ⟨FV.same (by assumption) (fun _ _ _ hh => by cases hh) (fun _ hh => by cases hh), List.forall_mem_cons.2 ⟨FV.same (by assumption) (fun _ _ _ hh => by cases hh) (fun _ hh => by cases hh), fun _ hp => (List.not_mem_nil hp).elim⟩⟩⟩
      · exact fun _ hp => (List.not_mem_nil hp).elim
    · cases h1
  · cases h
noncomputable def pyxref11_Top.jl : List (Nat × JDen U) := [(1000, pyxref11_Top.j1000.J)]
noncomputable def pyxref11_Top.fl (k : Nat) : List (Nat × FDen U) := [(97, pyxref11_RightEnts.D k)]
noncomputable def pyxref11_Top.ll (k : Nat) : List (Nat × LDen U) := [(3, pyxref11_Top.l3.L k)]
noncomputable def pyxref11_Top.E (k : Nat) : Env U := { P := Try.prog, D := DD, fd := lk (pyxref11_Top.fl k), ld := lk (pyxref11_Top.ll k), jd := lk pyxref11_Top.jl, mode := lk [], elc := lk ec, dyn := fun t => false, vecs := fun d => false, results := Try.f60.results.toList }
theorem pyxref11_Top.ok (k : Nat) : EnvOk (pyxref11_Top.E k) := envOk lawful (pyxref11_Top.fl k) (pyxref11_Top.ll k) pyxref11_Top.jl _ _ _ _ _ (by
  intro p hp
  simp only [pyxref11_Top.fl, List.mem_cons, List.not_mem_nil, or_false] at hp
  rcases hp with rfl
  · exact ⟨pyxref11_RightEnts.sound k, enter_of Try.func97 (by kernel_rfl) (by kernel_rfl)⟩) (by
  intro p hp
  simp only [pyxref11_Top.jl, List.mem_cons, List.not_mem_nil, or_false] at hp
  rcases hp with rfl
  · exact pyxref11_Top.j1000.fit)
theorem pyxref11_Top.l3.eq (k : Nat) (x : (List Sapi_Ent × Int)) : evC (pyxref11_Top.E k) (loopAt Try.f60 3) (pyxref11_Top.l3.mk x) (headK pyxref11_Top.l3.un pyxref11_Top.l3.re) = pyxref11_Top.l3.once k x := by kernel_rfl
theorem pyxref11_Top.l3.fit (s : St U) (x : (List Sapi_Ent × Int)) (h : pyxref11_Top.l3.un s = some x) : Fits s (pyxref11_Top.l3.mk x) := by
  unfold pyxref11_Top.l3.un at h
  obtain ⟨q0, eq0, h1⟩ := Option.bind_eq_some_iff.1 h
  split at h1
  · cases h1
    refine fits_ren [] ?_ ?_ ren_nil rfl
    · exact List.forall_mem_cons.2 ⟨row_Sapi_Ent_fit eq0, List.forall_mem_cons.2 ⟨FV.same (by assumption) (fun _ _ _ hh => by cases hh) (fun _ hh => by cases hh), fun _ hp => (List.not_mem_nil hp).elim⟩⟩
    · exact fun _ hp => (List.not_mem_nil hp).elim
  · cases h1
theorem pyxref11_Top.l3.fitO (o : Out U) (y : Int) (h : pyxref11_Top.l3.re o = some y) : FitsO o (pyxref11_Top.l3.fin y) := by
  unfold pyxref11_Top.l3.re at h
  split at h
  · split at h
    · cases h
      refine fitsO_exit (fits_ren [] ?_ ?_ ren_nil rfl)
      · exact List.forall_mem_cons.2 ⟨FV.same (by assumption) (fun _ _ _ hh => by cases hh) (fun _ hh => by cases hh), fun _ hp => (List.not_mem_nil hp).elim⟩
      · exact fun _ hp => (List.not_mem_nil hp).elim
    · cases h
  · cases h
theorem pyxref11_Top.l3.sound (k : Nat) : LSound (pyxref11_Top.E k) Try.f60.ntmps Try.f60 (loopAt Try.f60 3) (pyxref11_Top.l3.L k) :=
  loop_sound (pyxref11_Top.ok k) mixed rfl (by kernel_rfl) (allL_of (l := []) (by kernel_rfl) allL_nil) pyxref11_Top.l3.un pyxref11_Top.l3.mk pyxref11_Top.l3.fin pyxref11_Top.l3.re (pyxref11_Top.l3.once k) k pyxref11_Top.l3.fit pyxref11_Top.l3.fitO (pyxref11_Top.l3.eq k) pyxref11_Top.l3.finK pyxref11_Top.l3.finK_eq
theorem pyxref11_Top.eq (k : Nat) (x : (List Sapi_Ent × Int)) : runF (pyxref11_Top.E k) (codeOf Try.f60) (pyxref11_Top.mk x) pyxref11_Top.re = (pyxref11_Top.D k).f x := by kernel_rfl
theorem pyxref11_Top.sound (k : Nat) : Sound Try.prog DD 60 (pyxref11_Top.D k) :=
  fun_sound (E := pyxref11_Top.E k) (fn := Try.f60) (c := codeOf Try.f60) (pyxref11_Top.ok k) mixed rfl Try.func60 (by kernel_rfl) (by kernel_rfl) (allL_of (l := [loopAt Try.f60 3]) (by kernel_rfl) (allL_cons (key := 3) (by kernel_rfl) rfl (pyxref11_Top.l3.sound k) allL_nil)) (pyxref11_Top.D k) pyxref11_Top.mk pyxref11_Top.re
    (by intro args x h; replace h : pyxref11_Top.un args = some x := h; unfold pyxref11_Top.un at h; split at h; · cases h; rfl
        · cases h)
    (by intro v y h; unfold pyxref11_Top.re at h; split at h; · cases h; rfl
        · cases h)
    (fun _ => rfl) (fun x => Nat.le_of_ble_eq_true (by kernel_rfl)) (pyxref11_Top.eq k)
/-! ### pyx/pyxlaw19.OwnTells: function 13 -/
noncomputable def pyxlaw19_OwnTells.f (k : Nat) (a0 : List Int) (a1 : Int) (a2 : Int) (a3 : Int) : Option Bool := (pyxlaw19_ents.f k a0 a1 a2).bind fun t1 => ((pyxhand_Pick.f k a3 12).bind fun t2 => ((pyxlaw19_known.f k).bind fun t3 => (cond (t3) ((own_Part.f k t1 (IntKind.wrap .i64 (t2 - 2))).bind fun t4 => ((pyxref11_Part.f k t1 (IntKind.wrap .i64 (t2 - 2))).bind fun t5 => (cond ((t4.f_Neg == t5.f_Neg) && ((t4.f_C.1 == t5.f_C.1) && ((t4.f_C.2 == t5.f_C.2) && (t4.f_Scale == t5.f_Scale)))) ((own_Top.f k t1 (IntKind.wrap .i64 (t2 - 2))).bind fun t6 => ((pyxref11_Top.f k t1 (IntKind.wrap .i64 (t2 - 2))).bind fun t7 => (some (t6 == t7)))) (some false)))) (some false))))
noncomputable def pyxlaw19_OwnTells.un : List (AV U) → Option (List Int × Int × Int × Int) | [.row C.i64 x1, .flat (.int .i64 x2), .flat (.int .i64 x3), .flat (.int .i64 x4)] => some (x1, x2, x3, x4) | _ => none
noncomputable def pyxlaw19_OwnTells.mk (x : (List Int × Int × Int × Int)) : List (AV U) := [.row C.i64 x.1, .flat (.int .i64 x.2.1), .flat (.int .i64 x.2.2.1), .flat (.int .i64 x.2.2.2)]
noncomputable def pyxlaw19_OwnTells.D (k : Nat) : FDen U := { X := (List Int × Int × Int × Int), Y := Bool, un := pyxlaw19_OwnTells.un, f := fun x => pyxlaw19_OwnTells.f k (x.1) (x.2.1) (x.2.2.1) (x.2.2.2), fin := fun y => .flat (.bool y) }
noncomputable def pyxlaw19_OwnTells.re : AV U → Option Bool | .flat (.bool x1) => some x1 | _ => none
noncomputable def pyxlaw19_OwnTells.jl : List (Nat × JDen U) := []
noncomputable def pyxlaw19_OwnTells.fl (k : Nat) : List (Nat × FDen U) := [(58, pyxlaw19_ents.D k), (21, pyxhand_Pick.D k), (55, pyxlaw19_known.D k), (56, own_Part.D k), (59, pyxref11_Part.D k), (57, own_Top.D k), (60, pyxref11_Top.D k)]
noncomputable def pyxlaw19_OwnTells.ll (k : Nat) : List (Nat × LDen U) := []
noncomputable def pyxlaw19_OwnTells.E (k : Nat) : Env U := { P := Try.prog, D := DD, fd := lk (pyxlaw19_OwnTells.fl k), ld := lk (pyxlaw19_OwnTells.ll k), jd := lk pyxlaw19_OwnTells.jl, mode := lk [], elc := lk ec, dyn := fun t => false, vecs := fun d => false, results := Try.f13.results.toList }
theorem pyxlaw19_OwnTells.ok (k : Nat) : EnvOk (pyxlaw19_OwnTells.E k) := envOk lawful (pyxlaw19_OwnTells.fl k) (pyxlaw19_OwnTells.ll k) pyxlaw19_OwnTells.jl _ _ _ _ _ (by
  intro p hp
  simp only [pyxlaw19_OwnTells.fl, List.mem_cons, List.not_mem_nil, or_false] at hp
  rcases hp with rfl | rfl | rfl | rfl | rfl | rfl | rfl
  · exact ⟨pyxlaw19_ents.sound k, enter_of Try.func58 (by kernel_rfl) (by kernel_rfl)⟩
  · exact ⟨pyxhand_Pick.sound k, enter_of Try.func21 (by kernel_rfl) (by kernel_rfl)⟩
  · exact ⟨pyxlaw19_known.sound k, enter_of Try.func55 (by kernel_rfl) (by kernel_rfl)⟩
  · exact ⟨own_Part.sound k, enter_of Try.func56 (by kernel_rfl) (by kernel_rfl)⟩
  · exact ⟨pyxref11_Part.sound k, enter_of Try.func59 (by kernel_rfl) (by kernel_rfl)⟩
  · exact ⟨own_Top.sound k, enter_of Try.func57 (by kernel_rfl) (by kernel_rfl)⟩
  · exact ⟨pyxref11_Top.sound k, enter_of Try.func60 (by kernel_rfl) (by kernel_rfl)⟩) (by
  intro p hp
  simp [pyxlaw19_OwnTells.jl] at hp)
theorem pyxlaw19_OwnTells.eq (k : Nat) (x : (List Int × Int × Int × Int)) : runF (pyxlaw19_OwnTells.E k) (codeOf Try.f13) (pyxlaw19_OwnTells.mk x) pyxlaw19_OwnTells.re = (pyxlaw19_OwnTells.D k).f x := by kernel_rfl
theorem pyxlaw19_OwnTells.sound (k : Nat) : Sound Try.prog DD 13 (pyxlaw19_OwnTells.D k) :=
  fun_sound (E := pyxlaw19_OwnTells.E k) (fn := Try.f13) (c := codeOf Try.f13) (pyxlaw19_OwnTells.ok k) mixed rfl Try.func13 (by kernel_rfl) (by kernel_rfl) (allL_of (l := []) (by kernel_rfl) allL_nil) (pyxlaw19_OwnTells.D k) pyxlaw19_OwnTells.mk pyxlaw19_OwnTells.re
    (by intro args x h; replace h : pyxlaw19_OwnTells.un args = some x := h; unfold pyxlaw19_OwnTells.un at h; split at h; · cases h; rfl
        · cases h)
    (by intro v y h; unfold pyxlaw19_OwnTells.re at h; split at h; · cases h; rfl
        · cases h)
    (fun _ => rfl) (fun x => Nat.le_of_ble_eq_true (by kernel_rfl)) (pyxlaw19_OwnTells.eq k)
/-! ### pyx/dec.Sign: function 61 -/
noncomputable def dec_Sign.f (k : Nat) (a0 : Sapi_Dec) : Option Int := (((dec_Right.f k (⟨a0.f_Neg, (a0.f_C.1, a0.f_C.2), a0.f_Scale⟩ : Sapi_Dec)).bind fun t1 => (cond (!t1) (some (true, a0.f_Neg, a0.f_C.1, a0.f_C.2, a0.f_Scale)) ((dec_nought.f k (a0.f_C.1, a0.f_C.2)).bind fun t7 => (some (t7, a0.f_Neg, a0.f_C.1, a0.f_C.2, a0.f_Scale))))) : Option (Bool × Bool × Int × Int × Int)).bind fun y8 => (cond (y8.1) (some 0) (cond (y8.2.1) (some (-1)) (some 1)))
noncomputable def dec_Sign.un : List (AV U) → Option Sapi_Dec | [.agg [.flat (.bool x1), .flat (.int .u64 x2), .flat (.int .u64 x3), .flat (.int .i64 x4)]] => some (⟨x1, (x2, x3), x4⟩ : Sapi_Dec) | _ => none
noncomputable def dec_Sign.mk (x : Sapi_Dec) : List (AV U) := [.agg [.flat (.bool x.f_Neg), .flat (.int .u64 x.f_C.1), .flat (.int .u64 x.f_C.2), .flat (.int .i64 x.f_Scale)]]
noncomputable def dec_Sign.D (k : Nat) : FDen U := { X := Sapi_Dec, Y := Int, un := dec_Sign.un, f := fun x => dec_Sign.f k (x), fin := fun y => .flat (.int .i64 y) }
noncomputable def dec_Sign.re : AV U → Option Int | .flat (.int .i64 x1) => some x1 | _ => none
noncomputable def dec_Sign.j1000.fin (y : (Bool × Bool × Int × Int × Int)) : Out U := match y with | (x6, x2, x3, x4, x5) => .norm ⟨[(1, .ptr 1 0), (3, .flat (.bool x6))], [(1, .lit [.flat (.bool x2), .flat (.int .u64 x3), .flat (.int .u64 x4), .flat (.int .i64 x5)])]⟩
noncomputable def dec_Sign.j1000.finK {ρ : Type} (y : (Bool × Bool × Int × Int × Int)) (K : Out U → Option ρ) : Option ρ := match y with | (x6, x2, x3, x4, x5) => K (.norm ⟨[(1, .ptr 1 0), (3, .flat (.bool x6))], [(1, .lit [.flat (.bool x2), .flat (.int .u64 x3), .flat (.int .u64 x4), .flat (.int .i64 x5)])]⟩)
theorem dec_Sign.j1000.finK_eq {ρ : Type} (y : (Bool × Bool × Int × Int × Int)) (K : Out U → Option ρ) : dec_Sign.j1000.finK y K = K (dec_Sign.j1000.fin y) := by
  unfold dec_Sign.j1000.finK dec_Sign.j1000.fin
  first | rfl | (split <;> rfl)
noncomputable def dec_Sign.j1000.re : Out U → Option ((Bool × Bool × Int × Int × Int)) | .norm s => (match s.get 1, s.get 3, lk s.o 1 with | .ptr 1 0, .flat (.bool x6), some (.lit [.flat (.bool x2), .flat (.int .u64 x3), .flat (.int .u64 x4), .flat (.int .i64 x5)]) => some (x6, x2, x3, x4, x5) | _, _, _ => none) | _ => none
noncomputable def dec_Sign.j1000.J : JDen U := { Y := (Bool × Bool × Int × Int × Int), re := dec_Sign.j1000.re, fin := dec_Sign.j1000.fin, finK := dec_Sign.j1000.finK, finK_eq := dec_Sign.j1000.finK_eq }
theorem dec_Sign.j1000.fit (o : Out U) (y : (Bool × Bool × Int × Int × Int)) (h : dec_Sign.j1000.re o = some y) : FitsO o (dec_Sign.j1000.fin y) := by
  unfold dec_Sign.j1000.re at h
  split at h
  · split at h
    · cases h
      refine fitsO_norm (fits_ren [] ?_ ?_ ren_nil rfl)
      · exact List.forall_mem_cons.2 ⟨FV.same (by assumption) (fun _ _ _ hh => by cases hh) (fun _ hh => by cases hh), List.forall_mem_cons.2 ⟨FV.same (by assumption) (fun _ _ _ hh => by cases hh) (fun _ hh => by cases hh), fun _ hp => (List.not_mem_nil hp).elim⟩⟩
      · exact List.forall_mem_cons.2 ⟨(show lk (St.o _) 1 = some _ from by assumption), fun _ hp => (List.not_mem_nil hp).elim⟩
    · cases h
  · cases h
noncomputable def dec_Sign.jl : List (Nat × JDen U) := [(1000, dec_Sign.j1000.J)]
noncomputable def dec_Sign.fl (k : Nat) : List (Nat × FDen U) := [(99, dec_Right.D k), (100, dec_nought.D k)]
noncomputable def dec_Sign.ll (k : Nat) : List (Nat × LDen U) := []
noncomputable def dec_Sign.E (k : Nat) : Env U := { P := Try.prog, D := DD, fd := lk (dec_Sign.fl k), ld := lk (dec_Sign.ll k), jd := lk dec_Sign.jl, mode := lk [], elc := lk ec, dyn := fun t => false, vecs := fun d => false, results := Try.f61.results.toList }
theorem dec_Sign.ok (k : Nat) : EnvOk (dec_Sign.E k) := envOk lawful (dec_Sign.fl k) (dec_Sign.ll k) dec_Sign.jl _ _ _ _ _ (by
  intro p hp
  simp only [dec_Sign.fl, List.mem_cons, List.not_mem_nil, or_false] at hp
  rcases hp with rfl | rfl
  · exact ⟨dec_Right.sound k, enter_of Try.func99 (by kernel_rfl) (by kernel_rfl)⟩
  · exact ⟨dec_nought.sound k, enter_of Try.func100 (by kernel_rfl) (by kernel_rfl)⟩) (by
  intro p hp
  simp only [dec_Sign.jl, List.mem_cons, List.not_mem_nil, or_false] at hp
  rcases hp with rfl
  · exact dec_Sign.j1000.fit)
theorem dec_Sign.eq (k : Nat) (x : Sapi_Dec) : runF (dec_Sign.E k) (codeOf Try.f61) (dec_Sign.mk x) dec_Sign.re = (dec_Sign.D k).f x := by kernel_rfl
theorem dec_Sign.sound (k : Nat) : Sound Try.prog DD 61 (dec_Sign.D k) :=
  fun_sound (E := dec_Sign.E k) (fn := Try.f61) (c := codeOf Try.f61) (dec_Sign.ok k) mixed rfl Try.func61 (by kernel_rfl) (by kernel_rfl) (allL_of (l := []) (by kernel_rfl) allL_nil) (dec_Sign.D k) dec_Sign.mk dec_Sign.re
    (by intro args x h; replace h : dec_Sign.un args = some x := h; unfold dec_Sign.un at h; split at h; · cases h; rfl
        · cases h)
    (by intro v y h; unfold dec_Sign.re at h; split at h; · cases h; rfl
        · cases h)
    (fun _ => rfl) (fun x => Nat.le_of_ble_eq_true (by kernel_rfl)) (dec_Sign.eq k)
/-! ### pyx/dec.cmp: function 101 -/
noncomputable def dec_cmp.l2.once (k : Nat) (x : (Int × List Int × List Int)) : Option ((Int × List Int × List Int) ⊕ (Unit ⊕ Int)) := match x with | (x3, x1, x2) => cond (decide (x3 ≥ 0)) (cond (inb x3 4) (cond (Nat.blt (Int.toNat x3) 4) (cond (inb x3 4) (cond (Nat.blt (Int.toNat x3) 4) (cond ((List.getD x1 (Int.toNat x3) 0) != (List.getD x2 (Int.toNat x3) 0)) (cond (inb x3 4) (cond (Nat.blt (Int.toNat x3) 4) (cond (inb x3 4) (cond (Nat.blt (Int.toNat x3) 4) (cond (decide ((List.getD x1 (Int.toNat x3) 0) < (List.getD x2 (Int.toNat x3) 0))) (some (.inr (.inr (-1)))) (some (.inr (.inr 1)))) none) none) none) none) (some (.inl (IntKind.wrap .i64 (x3 - 1), x1, x2)))) none) none) none) none) (some (.inr (.inl ())))
noncomputable def dec_cmp.f (k : Nat) (a0 : (Int × Int × Int × Int)) (a1 : (Int × Int × Int × Int)) : Option Int := (iter (dec_cmp.l2.once k) k (3, [a0.1, a0.2.1, a0.2.2.1, a0.2.2.2], [a1.1, a1.2.1, a1.2.2.1, a1.2.2.2])).bind fun | .inl y5 => (some 0) | .inr y6 => (some y6)
noncomputable def dec_cmp.un : List (AV U) → Option ((Int × Int × Int × Int) × (Int × Int × Int × Int)) | [.agg [.flat (.int .u64 x1), .flat (.int .u64 x2), .flat (.int .u64 x3), .flat (.int .u64 x4)], .agg [.flat (.int .u64 x5), .flat (.int .u64 x6), .flat (.int .u64 x7), .flat (.int .u64 x8)]] => some ((x1, x2, x3, x4), (x5, x6, x7, x8)) | _ => none
noncomputable def dec_cmp.mk (x : ((Int × Int × Int × Int) × (Int × Int × Int × Int))) : List (AV U) := [.agg [.flat (.int .u64 x.1.1), .flat (.int .u64 x.1.2.1), .flat (.int .u64 x.1.2.2.1), .flat (.int .u64 x.1.2.2.2)], .agg [.flat (.int .u64 x.2.1), .flat (.int .u64 x.2.2.1), .flat (.int .u64 x.2.2.2.1), .flat (.int .u64 x.2.2.2.2)]]
noncomputable def dec_cmp.D (k : Nat) : FDen U := { X := ((Int × Int × Int × Int) × (Int × Int × Int × Int)), Y := Int, un := dec_cmp.un, f := fun x => dec_cmp.f k (x.1) (x.2), fin := fun y => .flat (.int .i64 y) }
noncomputable def dec_cmp.re : AV U → Option Int | .flat (.int .i64 x1) => some x1 | _ => none
noncomputable def dec_cmp.l2.mk (x : (Int × List Int × List Int)) : St U := match x with | (x3, x1, x2) => ⟨[(2, .ptr 2 0), (3, .ptr 3 0), (5, .flat (.int .i64 x3))], [(2, .arr 4 C.u64 x1), (3, .arr 4 C.u64 x2)]⟩
noncomputable def dec_cmp.l2.un (s : St U) : Option (Int × List Int × List Int) := match s.get 2, s.get 3, s.get 5, lk s.o 2, lk s.o 3 with | .ptr 2 0, .ptr 3 0, .flat (.int .i64 x3), some (.arr 4 C.u64 x1), some (.arr 4 C.u64 x2) => some (x3, x1, x2) | _, _, _, _, _ => none
noncomputable def dec_cmp.l2.fin (y : Unit ⊕ Int) : Out U := match y with | .inl () => .exit 0 ⟨[], []⟩ | .inr z => .ret (.flat (.int .i64 z))
noncomputable def dec_cmp.l2.finK {ρ : Type} (y : Unit ⊕ Int) (K : Out U → Option ρ) : Option ρ := match y with | .inl () => K (.exit 0 ⟨[], []⟩) | .inr z => K (.ret (.flat (.int .i64 z)))
theorem dec_cmp.l2.finK_eq {ρ : Type} (y : Unit ⊕ Int) (K : Out U → Option ρ) : dec_cmp.l2.finK y K = K (dec_cmp.l2.fin y) := by
  unfold dec_cmp.l2.finK dec_cmp.l2.fin
  first | rfl | (split <;> rfl)
noncomputable def dec_cmp.l2.re : Out U → Option (Unit ⊕ Int) | .exit 0 s => (some (.inl ())) | .ret v => (match v with | .flat (.int .i64 x1) => some (.inr x1) | _ => none) | _ => none
noncomputable def dec_cmp.l2.L (k : Nat) : LDen U := { X := (Int × List Int × List Int), Y := Unit ⊕ Int, un := dec_cmp.l2.un, f := iter (dec_cmp.l2.once k) k, fin := dec_cmp.l2.fin, finK := dec_cmp.l2.finK, finK_eq := dec_cmp.l2.finK_eq }
noncomputable def dec_cmp.jl : List (Nat × JDen U) := []
noncomputable def dec_cmp.fl (k : Nat) : List (Nat × FDen U) := []
noncomputable def dec_cmp.ll (k : Nat) : List (Nat × LDen U) := [(2, dec_cmp.l2.L k)]
noncomputable def dec_cmp.E (k : Nat) : Env U := { P := Try.prog, D := DD, fd := lk (dec_cmp.fl k), ld := lk (dec_cmp.ll k), jd := lk dec_cmp.jl, mode := lk [(30, (4, C.u64))], elc := lk ec, dyn := fun t => false, vecs := fun d => false, results := Try.f101.results.toList }
theorem dec_cmp.ok (k : Nat) : EnvOk (dec_cmp.E k) := envOk lawful (dec_cmp.fl k) (dec_cmp.ll k) dec_cmp.jl _ _ _ _ _ (by
  intro p hp
  simp [dec_cmp.fl] at hp) (by
  intro p hp
  simp [dec_cmp.jl] at hp)
theorem dec_cmp.l2.eq (k : Nat) (x : (Int × List Int × List Int)) : evC (dec_cmp.E k) (loopAt Try.f101 2) (dec_cmp.l2.mk x) (headK dec_cmp.l2.un dec_cmp.l2.re) = dec_cmp.l2.once k x := by kernel_rfl
theorem dec_cmp.l2.fit (s : St U) (x : (Int × List Int × List Int)) (h : dec_cmp.l2.un s = some x) : Fits s (dec_cmp.l2.mk x) := by
  unfold dec_cmp.l2.un at h
  split at h
  · cases h
    refine fits_ren [] ?_ ?_ ren_nil rfl
    · exact List.forall_mem_cons.2 ⟨FV.same (by assumption) (fun _ _ _ hh => by cases hh) (fun _ hh => by cases hh), List.forall_mem_cons.2 ⟨FV.same (by assumption) (fun _ _ _ hh => by cases hh) (fun _ hh => by cases hh), List.forall_mem_cons.2 ⟨FV.same (by assumption) (fun _ _ _ hh => by cases hh) (fun _ hh => by cases hh), fun _ hp => (List.not_mem_nil hp).elim⟩⟩⟩
    · exact List.forall_mem_cons.2 ⟨(show lk (St.o _) 2 = some _ from by assumption), List.forall_mem_cons.2 ⟨(show lk (St.o _) 3 = some _ from by assumption), fun _ hp => (List.not_mem_nil hp).elim⟩⟩
  · cases h
theorem dec_cmp.l2.fitO (o : Out U) (y : Unit ⊕ Int) (h : dec_cmp.l2.re o = some y) : FitsO o (dec_cmp.l2.fin y) := by
  unfold dec_cmp.l2.re at h
  split at h
  · cases h
    refine fitsO_exit (fits_ren [] ?_ ?_ ren_nil rfl)
    · exact fun _ hp => (List.not_mem_nil hp).elim
    · exact fun _ hp => (List.not_mem_nil hp).elim
  · split at h
    · cases h; exact fitsO_ret
    · cases h
  · cases h
theorem dec_cmp.l2.sound (k : Nat) : LSound (dec_cmp.E k) Try.f101.ntmps Try.f101 (loopAt Try.f101 2) (dec_cmp.l2.L k) :=
  loop_sound (dec_cmp.ok k) mixed rfl (by kernel_rfl) (allL_of (l := []) (by kernel_rfl) allL_nil) dec_cmp.l2.un dec_cmp.l2.mk dec_cmp.l2.fin dec_cmp.l2.re (dec_cmp.l2.once k) k dec_cmp.l2.fit dec_cmp.l2.fitO (dec_cmp.l2.eq k) dec_cmp.l2.finK dec_cmp.l2.finK_eq
theorem dec_cmp.eq (k : Nat) (x : ((Int × Int × Int × Int) × (Int × Int × Int × Int))) : runF (dec_cmp.E k) (codeOf Try.f101) (dec_cmp.mk x) dec_cmp.re = (dec_cmp.D k).f x := by kernel_rfl
theorem dec_cmp.sound (k : Nat) : Sound Try.prog DD 101 (dec_cmp.D k) :=
  fun_sound (E := dec_cmp.E k) (fn := Try.f101) (c := codeOf Try.f101) (dec_cmp.ok k) mixed rfl Try.func101 (by kernel_rfl) (by kernel_rfl) (allL_of (l := [loopAt Try.f101 2]) (by kernel_rfl) (allL_cons (key := 2) (by kernel_rfl) rfl (dec_cmp.l2.sound k) allL_nil)) (dec_cmp.D k) dec_cmp.mk dec_cmp.re
    (by intro args x h; replace h : dec_cmp.un args = some x := h; unfold dec_cmp.un at h; split at h; · cases h; rfl
        · cases h)
    (by intro v y h; unfold dec_cmp.re at h; split at h; · cases h; rfl
        · cases h)
    (fun _ => rfl) (fun x => Nat.le_of_ble_eq_true (by kernel_rfl)) (dec_cmp.eq k)
/-! ### pyx/dec.Cmp: function 62 -/
noncomputable def dec_Cmp.f (k : Nat) (a0 : Sapi_Dec) (a1 : Sapi_Dec) : Option Int := (((dec_Right.f k (⟨a0.f_Neg, (a0.f_C.1, a0.f_C.2), a0.f_Scale⟩ : Sapi_Dec)).bind fun t1 => (cond (!t1) (some (true, a0.f_Neg, a0.f_C.1, a0.f_C.2, a0.f_Scale, a1.f_Neg, a1.f_C.1, a1.f_C.2, a1.f_Scale)) ((dec_Right.f k (⟨a1.f_Neg, (a1.f_C.1, a1.f_C.2), a1.f_Scale⟩ : Sapi_Dec)).bind fun t11 => (some (!t11, a0.f_Neg, a0.f_C.1, a0.f_C.2, a0.f_Scale, a1.f_Neg, a1.f_C.1, a1.f_C.2, a1.f_Scale))))) : Option (Bool × Bool × Int × Int × Int × Bool × Int × Int × Int)).bind fun y12 => (cond (y12.1) (some 0) ((dec_Sign.f k (⟨y12.2.1, (y12.2.2.1, y12.2.2.2.1), y12.2.2.2.2.1⟩ : Sapi_Dec)).bind fun t13 => ((dec_Sign.f k (⟨y12.2.2.2.2.2.1, (y12.2.2.2.2.2.2.1, y12.2.2.2.2.2.2.2.1), y12.2.2.2.2.2.2.2.2⟩ : Sapi_Dec)).bind fun t14 => (cond (t13 != t14) (cond (decide (t13 < t14)) (some (-1)) (some 1)) ((dec_wide.f k (⟨y12.2.1, (y12.2.2.1, y12.2.2.2.1), y12.2.2.2.2.1⟩ : Sapi_Dec) (if y12.2.2.2.2.2.2.2.2 > y12.2.2.2.2.1 then y12.2.2.2.2.2.2.2.2 else y12.2.2.2.2.1)).bind fun t15 => ((dec_wide.f k (⟨y12.2.2.2.2.2.1, (y12.2.2.2.2.2.2.1, y12.2.2.2.2.2.2.2.1), y12.2.2.2.2.2.2.2.2⟩ : Sapi_Dec) (if y12.2.2.2.2.2.2.2.2 > y12.2.2.2.2.1 then y12.2.2.2.2.2.2.2.2 else y12.2.2.2.2.1)).bind fun t16 => ((dec_cmp.f k (t15.1, t15.2.1, t15.2.2.1, t15.2.2.2) (t16.1, t16.2.1, t16.2.2.1, t16.2.2.2)).bind fun t17 => (some (IntKind.wrap .i64 (t17 * t13))))))))))
noncomputable def dec_Cmp.un : List (AV U) → Option (Sapi_Dec × Sapi_Dec) | [.agg [.flat (.bool x1), .flat (.int .u64 x2), .flat (.int .u64 x3), .flat (.int .i64 x4)], .agg [.flat (.bool x5), .flat (.int .u64 x6), .flat (.int .u64 x7), .flat (.int .i64 x8)]] => some ((⟨x1, (x2, x3), x4⟩ : Sapi_Dec), (⟨x5, (x6, x7), x8⟩ : Sapi_Dec)) | _ => none
noncomputable def dec_Cmp.mk (x : (Sapi_Dec × Sapi_Dec)) : List (AV U) := [.agg [.flat (.bool x.1.f_Neg), .flat (.int .u64 x.1.f_C.1), .flat (.int .u64 x.1.f_C.2), .flat (.int .i64 x.1.f_Scale)], .agg [.flat (.bool x.2.f_Neg), .flat (.int .u64 x.2.f_C.1), .flat (.int .u64 x.2.f_C.2), .flat (.int .i64 x.2.f_Scale)]]
noncomputable def dec_Cmp.D (k : Nat) : FDen U := { X := (Sapi_Dec × Sapi_Dec), Y := Int, un := dec_Cmp.un, f := fun x => dec_Cmp.f k (x.1) (x.2), fin := fun y => .flat (.int .i64 y) }
noncomputable def dec_Cmp.re : AV U → Option Int | .flat (.int .i64 x1) => some x1 | _ => none
noncomputable def dec_Cmp.j1000.fin (y : (Bool × Bool × Int × Int × Int × Bool × Int × Int × Int)) : Out U := match y with | (x10, x2, x3, x4, x5, x6, x7, x8, x9) => .norm ⟨[(2, .ptr 2 0), (3, .ptr 3 0), (15, .flat (.bool x10))], [(2, .lit [.flat (.bool x2), .flat (.int .u64 x3), .flat (.int .u64 x4), .flat (.int .i64 x5)]), (3, .lit [.flat (.bool x6), .flat (.int .u64 x7), .flat (.int .u64 x8), .flat (.int .i64 x9)])]⟩
noncomputable def dec_Cmp.j1000.finK {ρ : Type} (y : (Bool × Bool × Int × Int × Int × Bool × Int × Int × Int)) (K : Out U → Option ρ) : Option ρ := match y with | (x10, x2, x3, x4, x5, x6, x7, x8, x9) => K (.norm ⟨[(2, .ptr 2 0), (3, .ptr 3 0), (15, .flat (.bool x10))], [(2, .lit [.flat (.bool x2), .flat (.int .u64 x3), .flat (.int .u64 x4), .flat (.int .i64 x5)]), (3, .lit [.flat (.bool x6), .flat (.int .u64 x7), .flat (.int .u64 x8), .flat (.int .i64 x9)])]⟩)
theorem dec_Cmp.j1000.finK_eq {ρ : Type} (y : (Bool × Bool × Int × Int × Int × Bool × Int × Int × Int)) (K : Out U → Option ρ) : dec_Cmp.j1000.finK y K = K (dec_Cmp.j1000.fin y) := by
  unfold dec_Cmp.j1000.finK dec_Cmp.j1000.fin
  first | rfl | (split <;> rfl)
noncomputable def dec_Cmp.j1000.re : Out U → Option ((Bool × Bool × Int × Int × Int × Bool × Int × Int × Int)) | .norm s => (match s.get 2, s.get 3, s.get 15, lk s.o 2, lk s.o 3 with | .ptr 2 0, .ptr 3 0, .flat (.bool x10), some (.lit [.flat (.bool x2), .flat (.int .u64 x3), .flat (.int .u64 x4), .flat (.int .i64 x5)]), some (.lit [.flat (.bool x6), .flat (.int .u64 x7), .flat (.int .u64 x8), .flat (.int .i64 x9)]) => some (x10, x2, x3, x4, x5, x6, x7, x8, x9) | _, _, _, _, _ => none) | _ => none
noncomputable def dec_Cmp.j1000.J : JDen U := { Y := (Bool × Bool × Int × Int × Int × Bool × Int × Int × Int), re := dec_Cmp.j1000.re, fin := dec_Cmp.j1000.fin, finK := dec_Cmp.j1000.finK, finK_eq := dec_Cmp.j1000.finK_eq }
theorem dec_Cmp.j1000.fit (o : Out U) (y : (Bool × Bool × Int × Int × Int × Bool × Int × Int × Int)) (h : dec_Cmp.j1000.re o = some y) : FitsO o (dec_Cmp.j1000.fin y) := by
  unfold dec_Cmp.j1000.re at h
  split at h
  · split at h
    · cases h
      refine fitsO_norm (fits_ren [] ?_ ?_ ren_nil rfl)
      · exact List.forall_mem_cons.2 ⟨FV.same (by assumption) (fun _ _ _ hh => by cases hh) (fun _ hh => by cases hh), List.forall_mem_cons.2 ⟨FV.same (by assumption) (fun _ _ _ hh => by cases hh) (fun _ hh => by cases hh), List.forall_mem_cons.2 ⟨FV.same (by assumption) (fun _ _ _ hh => by cases hh) (fun _ hh => by cases hh), fun _ hp => (List.not_mem_nil hp).elim⟩⟩⟩
      · exact List.forall_mem_cons.2 ⟨(show lk (St.o _) 2 = some _ from by assumption), List.forall_mem_cons.2 ⟨(show lk (St.o _) 3 = some _ from by assumption), fun _ hp => (List.not_mem_nil hp).elim⟩⟩
    · cases h
  · cases h
noncomputable def dec_Cmp.jl : List (Nat × JDen U) := [(1000, dec_Cmp.j1000.J)]
noncomputable def dec_Cmp.fl (k : Nat) : List (Nat × FDen U) := [(99, dec_Right.D k), (61, dec_Sign.D k), (102, dec_wide.D k), (101, dec_cmp.D k)]
noncomputable def dec_Cmp.ll (k : Nat) : List (Nat × LDen U) := []
noncomputable def dec_Cmp.E (k : Nat) : Env U := { P := Try.prog, D := DD, fd := lk (dec_Cmp.fl k), ld := lk (dec_Cmp.ll k), jd := lk dec_Cmp.jl, mode := lk [], elc := lk ec, dyn := fun t => false, vecs := fun d => false, results := Try.f62.results.toList }
theorem dec_Cmp.ok (k : Nat) : EnvOk (dec_Cmp.E k) := envOk lawful (dec_Cmp.fl k) (dec_Cmp.ll k) dec_Cmp.jl _ _ _ _ _ (by
  intro p hp
  simp only [dec_Cmp.fl, List.mem_cons, List.not_mem_nil, or_false] at hp
  rcases hp with rfl | rfl | rfl | rfl
  · exact ⟨dec_Right.sound k, enter_of Try.func99 (by kernel_rfl) (by kernel_rfl)⟩
  · exact ⟨dec_Sign.sound k, enter_of Try.func61 (by kernel_rfl) (by kernel_rfl)⟩
  · exact ⟨dec_wide.sound k, enter_of Try.func102 (by kernel_rfl) (by kernel_rfl)⟩
  · exact ⟨dec_cmp.sound k, enter_of Try.func101 (by kernel_rfl) (by kernel_rfl)⟩) (by
  intro p hp
  simp only [dec_Cmp.jl, List.mem_cons, List.not_mem_nil, or_false] at hp
  rcases hp with rfl
  · exact dec_Cmp.j1000.fit)
theorem dec_Cmp.eq (k : Nat) (x : (Sapi_Dec × Sapi_Dec)) : runF (dec_Cmp.E k) (codeOf Try.f62) (dec_Cmp.mk x) dec_Cmp.re = (dec_Cmp.D k).f x := by kernel_rfl
theorem dec_Cmp.sound (k : Nat) : Sound Try.prog DD 62 (dec_Cmp.D k) :=
  fun_sound (E := dec_Cmp.E k) (fn := Try.f62) (c := codeOf Try.f62) (dec_Cmp.ok k) mixed rfl Try.func62 (by kernel_rfl) (by kernel_rfl) (allL_of (l := []) (by kernel_rfl) allL_nil) (dec_Cmp.D k) dec_Cmp.mk dec_Cmp.re
    (by intro args x h; replace h : dec_Cmp.un args = some x := h; unfold dec_Cmp.un at h; split at h; · cases h; rfl
        · cases h)
    (by intro v y h; unfold dec_Cmp.re at h; split at h; · cases h; rfl
        · cases h)
    (fun _ => rfl) (fun x => Nat.le_of_ble_eq_true (by kernel_rfl)) (dec_Cmp.eq k)
/-! ### pyx/pyxlaw19.OwnParts: function 14 -/
noncomputable def pyxlaw19_OwnParts.f (k : Nat) (a0 : List Int) (a1 : Int) : Option Bool := (pyxlaw19_ents.f k a0 0 0).bind fun t1 => (((cond (decide ((List.length t1 : Int) > 8)) (cond (inS 0 8 (List.length t1)) (some (a1, List.take (8) t1)) none) (some (a1, t1))) : Option (Int × List Sapi_Ent)).bind fun y4 => ((pyxhand_Pick.f k y4.1 (List.length y4.2 : Int)).bind fun t5 => ((pyxref1_Of.f k 1 0).bind fun t6 => ((own_Part.f k y4.2 t5).bind fun t7 => ((own_Top.f k y4.2 t5).bind fun t8 => ((((pyxlaw19_known.f k).bind fun t9 => (cond (!t9) (some (t5, y4.2, t8, true, t7.f_Neg, t7.f_C.1, t7.f_C.2, t7.f_Scale)) ((dec_Sign.f k (⟨t7.f_Neg, (t7.f_C.1, t7.f_C.2), t7.f_Scale⟩ : Sapi_Dec)).bind fun t18 => (cond (decide (t18 < 0)) (some (t5, y4.2, t8, true, t7.f_Neg, t7.f_C.1, t7.f_C.2, t7.f_Scale)) ((dec_Cmp.f k (⟨t7.f_Neg, (t7.f_C.1, t7.f_C.2), t7.f_Scale⟩ : Sapi_Dec) (⟨t6.f_Neg, (t6.f_C.1, t6.f_C.2), t6.f_Scale⟩ : Sapi_Dec)).bind fun t19 => (cond (decide (t19 > 0)) (some (t5, y4.2, t8, true, t7.f_Neg, t7.f_C.1, t7.f_C.2, t7.f_Scale)) (cond (t7.f_Scale != 6) (some (t5, y4.2, t8, true, t7.f_Neg, t7.f_C.1, t7.f_C.2, t7.f_Scale)) (cond (decide (t8 < 0)) (some (t5, y4.2, t8, true, t7.f_Neg, t7.f_C.1, t7.f_C.2, t7.f_Scale)) (cond (decide (t8 > t5)) (some (t5, y4.2, t8, true, t7.f_Neg, t7.f_C.1, t7.f_C.2, t7.f_Scale)) (cond (inb t8 (List.length y4.2)) (cond (decide (((List.getD y4.2 (Int.toNat t8) Sapi_Ent.zero).f_Parent) ≥ 0)) (some (t5, y4.2, t8, true, t7.f_Neg, t7.f_C.1, t7.f_C.2, t7.f_Scale)) ((own_Part.f k y4.2 t8).bind fun t20 => ((dec_Cmp.f k (⟨t20.f_Neg, (t20.f_C.1, t20.f_C.2), t20.f_Scale⟩ : Sapi_Dec) (⟨t6.f_Neg, (t6.f_C.1, t6.f_C.2), t6.f_Scale⟩ : Sapi_Dec)).bind fun t21 => (some (t5, y4.2, t8, t21 != 0, t7.f_Neg, t7.f_C.1, t7.f_C.2, t7.f_Scale))))) none)))))))))) : Option (Int × List Sapi_Ent × Int × Bool × Bool × Int × Int × Int)).bind fun y22 => (cond (y22.2.2.2.1) (some false) (cond (inb y22.1 (List.length y22.2.1)) (cond (decide (((List.getD y22.2.1 (Int.toNat y22.1) Sapi_Ent.zero).f_Parent) < 0)) (some (y22.2.2.1 == y22.1)) (cond (inb y22.1 (List.length y22.2.1)) ((own_Part.f k y22.2.1 ((List.getD y22.2.1 (Int.toNat y22.1) Sapi_Ent.zero).f_Parent)).bind fun t23 => (cond (inb y22.1 (List.length y22.2.1)) ((own_Top.f k y22.2.1 ((List.getD y22.2.1 (Int.toNat y22.1) Sapi_Ent.zero).f_Parent)).bind fun t24 => (cond (t24 == y22.2.2.1) (cond (inb y22.1 (List.length y22.2.1)) (cond (decide (((List.getD y22.2.1 (Int.toNat y22.1) Sapi_Ent.zero).f_Share) < 10000)) (cond (inb y22.1 (List.length y22.2.1)) ((pyxref1_Of.f k ((List.getD y22.2.1 (Int.toNat y22.1) Sapi_Ent.zero).f_Share) 4).bind fun t25 => ((dec_Cmp.f k (⟨y22.2.2.2.2.1, (y22.2.2.2.2.2.1, y22.2.2.2.2.2.2.1), y22.2.2.2.2.2.2.2⟩ : Sapi_Dec) (⟨t25.f_Neg, (t25.f_C.1, t25.f_C.2), t25.f_Scale⟩ : Sapi_Dec)).bind fun t26 => (some (decide (t26 ≤ 0))))) none) ((dec_Cmp.f k (⟨y22.2.2.2.2.1, (y22.2.2.2.2.2.1, y22.2.2.2.2.2.2.1), y22.2.2.2.2.2.2.2⟩ : Sapi_Dec) (⟨t23.f_Neg, (t23.f_C.1, t23.f_C.2), t23.f_Scale⟩ : Sapi_Dec)).bind fun t27 => (cond (t27 == 0) (cond (inb y22.1 (List.length y22.2.1)) ((pyxref1_Of.f k ((List.getD y22.2.1 (Int.toNat y22.1) Sapi_Ent.zero).f_Share) 4).bind fun t28 => ((dec_Cmp.f k (⟨y22.2.2.2.2.1, (y22.2.2.2.2.2.1, y22.2.2.2.2.2.2.1), y22.2.2.2.2.2.2.2⟩ : Sapi_Dec) (⟨t28.f_Neg, (t28.f_C.1, t28.f_C.2), t28.f_Scale⟩ : Sapi_Dec)).bind fun t29 => (some (decide (t29 ≤ 0))))) none) (some false)))) none) (some false))) none)) none)) none))))))))
noncomputable def pyxlaw19_OwnParts.un : List (AV U) → Option (List Int × Int) | [.row C.i64 x1, .flat (.int .i64 x2)] => some (x1, x2) | _ => none
noncomputable def pyxlaw19_OwnParts.mk (x : (List Int × Int)) : List (AV U) := [.row C.i64 x.1, .flat (.int .i64 x.2)]
noncomputable def pyxlaw19_OwnParts.D (k : Nat) : FDen U := { X := (List Int × Int), Y := Bool, un := pyxlaw19_OwnParts.un, f := fun x => pyxlaw19_OwnParts.f k (x.1) (x.2), fin := fun y => .flat (.bool y) }
noncomputable def pyxlaw19_OwnParts.re : AV U → Option Bool | .flat (.bool x1) => some x1 | _ => none
noncomputable def pyxlaw19_OwnParts.j3001.fin (y : (Int × List Sapi_Ent)) : Out U := match y with | (x2, x3) => .norm ⟨[(1, .flat (.int .i64 x2)), (5, .row C.Sapi_Ent x3)], []⟩
noncomputable def pyxlaw19_OwnParts.j3001.finK {ρ : Type} (y : (Int × List Sapi_Ent)) (K : Out U → Option ρ) : Option ρ := match y with | (x2, x3) => K (.norm ⟨[(1, .flat (.int .i64 x2)), (5, .row C.Sapi_Ent x3)], []⟩)
theorem pyxlaw19_OwnParts.j3001.finK_eq {ρ : Type} (y : (Int × List Sapi_Ent)) (K : Out U → Option ρ) : pyxlaw19_OwnParts.j3001.finK y K = K (pyxlaw19_OwnParts.j3001.fin y) := by
  unfold pyxlaw19_OwnParts.j3001.finK pyxlaw19_OwnParts.j3001.fin
  first | rfl | (split <;> rfl)
noncomputable def pyxlaw19_OwnParts.j3001.re : Out U → Option ((Int × List Sapi_Ent)) | .norm s => ((row_Sapi_Ent (s.get 5)).bind fun q0 => (match s.get 1 with | .flat (.int .i64 x2) => some (x2, q0) | _ => none)) | _ => none
noncomputable def pyxlaw19_OwnParts.j3001.J : JDen U := { Y := (Int × List Sapi_Ent), re := pyxlaw19_OwnParts.j3001.re, fin := pyxlaw19_OwnParts.j3001.fin, finK := pyxlaw19_OwnParts.j3001.finK, finK_eq := pyxlaw19_OwnParts.j3001.finK_eq }
theorem pyxlaw19_OwnParts.j3001.fit (o : Out U) (y : (Int × List Sapi_Ent)) (h : pyxlaw19_OwnParts.j3001.re o = some y) : FitsO o (pyxlaw19_OwnParts.j3001.fin y) := by
  unfold pyxlaw19_OwnParts.j3001.re at h
  split at h
  · obtain ⟨q0, eq0, h1⟩ := Option.bind_eq_some_iff.1 h
    split at h1
    · cases h1
      refine fitsO_norm (fits_ren [] ?_ ?_ ren_nil rfl)
      · exact List.forall_mem_cons.2 ⟨FV.same (by assumption) (fun _ _ _ hh => by cases hh) (fun _ hh => by cases hh), List.forall_mem_cons.2 ⟨row_Sapi_Ent_fit eq0, fun _ hp => (List.not_mem_nil hp).elim⟩⟩
      · exact fun _ hp => (List.not_mem_nil hp).elim
    · cases h1
  · cases h
noncomputable def pyxlaw19_OwnParts.j8000.fin (y : (Int × List Sapi_Ent × Int × Bool × Bool × Int × Int × Int)) : Out U := match y with | (x10, x11, x16, x17, x12, x13, x14, x15) => .norm ⟨[(7, .ptr 7 0), (1, .flat (.int .i64 x10)), (5, .row C.Sapi_Ent x11), (8, .flat (.int .i64 x16)), (70, .flat (.bool x17))], [(7, .lit [.flat (.bool x12), .flat (.int .u64 x13), .flat (.int .u64 x14), .flat (.int .i64 x15)])]⟩
noncomputable def pyxlaw19_OwnParts.j8000.finK {ρ : Type} (y : (Int × List Sapi_Ent × Int × Bool × Bool × Int × Int × Int)) (K : Out U → Option ρ) : Option ρ := match y with | (x10, x11, x16, x17, x12, x13, x14, x15) => K (.norm ⟨[(7, .ptr 7 0), (1, .flat (.int .i64 x10)), (5, .row C.Sapi_Ent x11), (8, .flat (.int .i64 x16)), (70, .flat (.bool x17))], [(7, .lit [.flat (.bool x12), .flat (.int .u64 x13), .flat (.int .u64 x14), .flat (.int .i64 x15)])]⟩)
theorem pyxlaw19_OwnParts.j8000.finK_eq {ρ : Type} (y : (Int × List Sapi_Ent × Int × Bool × Bool × Int × Int × Int)) (K : Out U → Option ρ) : pyxlaw19_OwnParts.j8000.finK y K = K (pyxlaw19_OwnParts.j8000.fin y) := by
  unfold pyxlaw19_OwnParts.j8000.finK pyxlaw19_OwnParts.j8000.fin
  first | rfl | (split <;> rfl)
noncomputable def pyxlaw19_OwnParts.j8000.re : Out U → Option ((Int × List Sapi_Ent × Int × Bool × Bool × Int × Int × Int)) | .norm s => ((row_Sapi_Ent (s.get 5)).bind fun q0 => (match s.get 7, s.get 1, s.get 8, s.get 70, lk s.o 7 with | .ptr 7 0, .flat (.int .i64 x10), .flat (.int .i64 x16), .flat (.bool x17), some (.lit [.flat (.bool x12), .flat (.int .u64 x13), .flat (.int .u64 x14), .flat (.int .i64 x15)]) => some (x10, q0, x16, x17, x12, x13, x14, x15) | _, _, _, _, _ => none)) | _ => none
noncomputable def pyxlaw19_OwnParts.j8000.J : JDen U := { Y := (Int × List Sapi_Ent × Int × Bool × Bool × Int × Int × Int), re := pyxlaw19_OwnParts.j8000.re, fin := pyxlaw19_OwnParts.j8000.fin, finK := pyxlaw19_OwnParts.j8000.finK, finK_eq := pyxlaw19_OwnParts.j8000.finK_eq }
theorem pyxlaw19_OwnParts.j8000.fit (o : Out U) (y : (Int × List Sapi_Ent × Int × Bool × Bool × Int × Int × Int)) (h : pyxlaw19_OwnParts.j8000.re o = some y) : FitsO o (pyxlaw19_OwnParts.j8000.fin y) := by
  unfold pyxlaw19_OwnParts.j8000.re at h
  split at h
  · obtain ⟨q0, eq0, h1⟩ := Option.bind_eq_some_iff.1 h
    split at h1
    · cases h1
      refine fitsO_norm (fits_ren [] ?_ ?_ ren_nil rfl)
      · exact List.forall_mem_cons.2 ⟨FV.same (by assumption) (fun _ _ _ hh => by cases hh) (fun _ hh => by cases hh), List.forall_mem_cons.2 ⟨FV.same (by assumption) (fun _ _ _ hh => by cases hh) (fun _ hh => by cases hh), List.forall_mem_cons.2 ⟨row_Sapi_Ent_fit eq0, List.forall_mem_cons.2 ⟨FV.same (by assumption) (fun _ _ _ hh => by cases hh) (fun _ hh => by cases hh), List.forall_mem_cons.2 ⟨FV.same (by assumption) (fun _ _ _ hh => by cases hh) (fun _ hh => by cases hh), fun _ hp => (List.not_mem_nil hp).elim⟩⟩⟩⟩⟩
      · exact List.forall_mem_cons.2 ⟨(show lk (St.o _) 7 = some _ from by assumption), fun _ hp => (List.not_mem_nil hp).elim⟩
    · cases h1
  · cases h
noncomputable def pyxlaw19_OwnParts.jl : List (Nat × JDen U) := [(3001, pyxlaw19_OwnParts.j3001.J), (8000, pyxlaw19_OwnParts.j8000.J)]
noncomputable def pyxlaw19_OwnParts.fl (k : Nat) : List (Nat × FDen U) := [(58, pyxlaw19_ents.D k), (21, pyxhand_Pick.D k), (52, pyxref1_Of.D k), (56, own_Part.D k), (57, own_Top.D k), (55, pyxlaw19_known.D k), (61, dec_Sign.D k), (62, dec_Cmp.D k)]
noncomputable def pyxlaw19_OwnParts.ll (k : Nat) : List (Nat × LDen U) := []
noncomputable def pyxlaw19_OwnParts.E (k : Nat) : Env U := { P := Try.prog, D := DD, fd := lk (pyxlaw19_OwnParts.fl k), ld := lk (pyxlaw19_OwnParts.ll k), jd := lk pyxlaw19_OwnParts.jl, mode := lk [], elc := lk ec, dyn := fun t => false, vecs := fun d => false, results := Try.f14.results.toList }
theorem pyxlaw19_OwnParts.ok (k : Nat) : EnvOk (pyxlaw19_OwnParts.E k) := envOk lawful (pyxlaw19_OwnParts.fl k) (pyxlaw19_OwnParts.ll k) pyxlaw19_OwnParts.jl _ _ _ _ _ (by
  intro p hp
  simp only [pyxlaw19_OwnParts.fl, List.mem_cons, List.not_mem_nil, or_false] at hp
  rcases hp with rfl | rfl | rfl | rfl | rfl | rfl | rfl | rfl
  · exact ⟨pyxlaw19_ents.sound k, enter_of Try.func58 (by kernel_rfl) (by kernel_rfl)⟩
  · exact ⟨pyxhand_Pick.sound k, enter_of Try.func21 (by kernel_rfl) (by kernel_rfl)⟩
  · exact ⟨pyxref1_Of.sound k, enter_of Try.func52 (by kernel_rfl) (by kernel_rfl)⟩
  · exact ⟨own_Part.sound k, enter_of Try.func56 (by kernel_rfl) (by kernel_rfl)⟩
  · exact ⟨own_Top.sound k, enter_of Try.func57 (by kernel_rfl) (by kernel_rfl)⟩
  · exact ⟨pyxlaw19_known.sound k, enter_of Try.func55 (by kernel_rfl) (by kernel_rfl)⟩
  · exact ⟨dec_Sign.sound k, enter_of Try.func61 (by kernel_rfl) (by kernel_rfl)⟩
  · exact ⟨dec_Cmp.sound k, enter_of Try.func62 (by kernel_rfl) (by kernel_rfl)⟩) (by
  intro p hp
  simp only [pyxlaw19_OwnParts.jl, List.mem_cons, List.not_mem_nil, or_false] at hp
  rcases hp with rfl | rfl
  · exact pyxlaw19_OwnParts.j3001.fit
  · exact pyxlaw19_OwnParts.j8000.fit)
theorem pyxlaw19_OwnParts.eq (k : Nat) (x : (List Int × Int)) : runF (pyxlaw19_OwnParts.E k) (codeOf Try.f14) (pyxlaw19_OwnParts.mk x) pyxlaw19_OwnParts.re = (pyxlaw19_OwnParts.D k).f x := by kernel_rfl
theorem pyxlaw19_OwnParts.sound (k : Nat) : Sound Try.prog DD 14 (pyxlaw19_OwnParts.D k) :=
  fun_sound (E := pyxlaw19_OwnParts.E k) (fn := Try.f14) (c := codeOf Try.f14) (pyxlaw19_OwnParts.ok k) mixed rfl Try.func14 (by kernel_rfl) (by kernel_rfl) (allL_of (l := []) (by kernel_rfl) allL_nil) (pyxlaw19_OwnParts.D k) pyxlaw19_OwnParts.mk pyxlaw19_OwnParts.re
    (by intro args x h; replace h : pyxlaw19_OwnParts.un args = some x := h; unfold pyxlaw19_OwnParts.un at h; split at h; · cases h; rfl
        · cases h)
    (by intro v y h; unfold pyxlaw19_OwnParts.re at h; split at h; · cases h; rfl
        · cases h)
    (fun _ => rfl) (fun x => Nat.le_of_ble_eq_true (by kernel_rfl)) (pyxlaw19_OwnParts.eq k)
end
end Go.Proofs.Ythknecaigoilmaa
