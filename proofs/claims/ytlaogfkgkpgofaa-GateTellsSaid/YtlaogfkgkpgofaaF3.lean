import Derived.Test.YtlaogfkgkpgofaaF2
/-! Functions, told; their equations with the evaluator; that they are sound. Written by gen.py. -/
namespace Go.Proofs.Ytlaogfkgkpgofaa
open Go Go.Ev
noncomputable section
set_option linter.unusedVariables false
set_option linter.unusedSimpArgs false
set_option maxRecDepth 100000
/-! ### pyx/pyxref1.Add: function 69 -/
noncomputable def pyxref1_Add.f (k : Nat) (a0 : Sapi_Dec) (a1 : Sapi_Dec) : Option (Sapi_Dec × Int) := (((pyxref1_RightDec.f k (⟨a0.f_Neg, (a0.f_C.1, a0.f_C.2), a0.f_Scale⟩ : Sapi_Dec)).bind fun t1 => (cond (!t1) (some (true, a0.f_Neg, a0.f_C.1, a0.f_C.2, a0.f_Scale, a1.f_Neg, a1.f_C.1, a1.f_C.2, a1.f_Scale, false, 0, 0, 0)) ((pyxref1_RightDec.f k (⟨a1.f_Neg, (a1.f_C.1, a1.f_C.2), a1.f_Scale⟩ : Sapi_Dec)).bind fun t15 => (some (!t15, a0.f_Neg, a0.f_C.1, a0.f_C.2, a0.f_Scale, a1.f_Neg, a1.f_C.1, a1.f_C.2, a1.f_Scale, false, 0, 0, 0))))) : Option (Bool × Bool × Int × Int × Int × Bool × Int × Int × Int × Bool × Int × Int × Int)).bind fun y16 => (cond (y16.1) (some ((⟨false, (0, 0), 0⟩ : Sapi_Dec), 1)) ((pyxref1_digits.f k (⟨y16.2.1, (y16.2.2.1, y16.2.2.2.1), y16.2.2.2.2.1⟩ : Sapi_Dec) (if y16.2.2.2.2.2.2.2.2.1 > y16.2.2.2.2.1 then y16.2.2.2.2.2.2.2.2.1 else y16.2.2.2.2.1)).bind fun t17 => ((pyxref1_digits.f k (⟨y16.2.2.2.2.2.1, (y16.2.2.2.2.2.2.1, y16.2.2.2.2.2.2.2.1), y16.2.2.2.2.2.2.2.2.1⟩ : Sapi_Dec) (if y16.2.2.2.2.2.2.2.2.1 > y16.2.2.2.2.1 then y16.2.2.2.2.2.2.2.2.1 else y16.2.2.2.2.1)).bind fun t18 => (cond (y16.2.1 == y16.2.2.2.2.2.1) ((pyxref1_AddNat.f k t17 t18).bind fun t19 => ((pyxref1_Make.f k y16.2.1 t19 (if y16.2.2.2.2.2.2.2.2.1 > y16.2.2.2.2.1 then y16.2.2.2.2.2.2.2.2.1 else y16.2.2.2.2.1)).bind fun t20 => (some ((⟨t20.1.f_Neg, (t20.1.f_C.1, t20.1.f_C.2), t20.1.f_Scale⟩ : Sapi_Dec), t20.2)))) ((pyxref1_CmpNat.f k t17 t18).bind fun t21 => (cond (decide (t21 ≥ 0)) ((pyxref1_SubNat.f k t17 t18).bind fun t22 => ((pyxref1_Make.f k y16.2.1 t22 (if y16.2.2.2.2.2.2.2.2.1 > y16.2.2.2.2.1 then y16.2.2.2.2.2.2.2.2.1 else y16.2.2.2.2.1)).bind fun t23 => (some ((⟨t23.1.f_Neg, (t23.1.f_C.1, t23.1.f_C.2), t23.1.f_Scale⟩ : Sapi_Dec), t23.2)))) ((pyxref1_SubNat.f k t18 t17).bind fun t24 => ((pyxref1_Make.f k y16.2.2.2.2.2.1 t24 (if y16.2.2.2.2.2.2.2.2.1 > y16.2.2.2.2.1 then y16.2.2.2.2.2.2.2.2.1 else y16.2.2.2.2.1)).bind fun t25 => (some ((⟨t25.1.f_Neg, (t25.1.f_C.1, t25.1.f_C.2), t25.1.f_Scale⟩ : Sapi_Dec), t25.2))))))))))
noncomputable def pyxref1_Add.un (s : St U) : Option (Sapi_Dec × Sapi_Dec) := match s.get 0, s.get 1 with | .agg [.flat (.bool x1), .flat (.int .u64 x2), .flat (.int .u64 x3), .flat (.int .i64 x4)], .agg [.flat (.bool x5), .flat (.int .u64 x6), .flat (.int .u64 x7), .flat (.int .i64 x8)] => some ((⟨x1, (x2, x3), x4⟩ : Sapi_Dec), (⟨x5, (x6, x7), x8⟩ : Sapi_Dec)) | _, _ => none
noncomputable def pyxref1_Add.mk (x : (Sapi_Dec × Sapi_Dec)) : St U := ⟨[(0, .agg [.flat (.bool x.1.f_Neg), .flat (.int .u64 x.1.f_C.1), .flat (.int .u64 x.1.f_C.2), .flat (.int .i64 x.1.f_Scale)]), (1, .agg [.flat (.bool x.2.f_Neg), .flat (.int .u64 x.2.f_C.1), .flat (.int .u64 x.2.f_C.2), .flat (.int .i64 x.2.f_Scale)])], []⟩
noncomputable def pyxref1_Add.fin (y : (Sapi_Dec × Int)) : St U := ⟨[(0, .tup [.agg [.flat (.bool y.1.f_Neg), .flat (.int .u64 y.1.f_C.1), .flat (.int .u64 y.1.f_C.2), .flat (.int .i64 y.1.f_Scale)], .flat (.int .i64 y.2)])], []⟩
noncomputable def pyxref1_Add.D (k : Nat) : FDen U := { X := (Sapi_Dec × Sapi_Dec), Y := (Sapi_Dec × Int), nt := 67, gh := [], un := pyxref1_Add.un, f := fun x => pyxref1_Add.f k (x.1) (x.2), fin := pyxref1_Add.fin, cl := true, clo := fun _ _ => rfl }
noncomputable def pyxref1_Add.re (s : St U) : Option (Sapi_Dec × Int) := match s.get 0 with | .tup [.agg [.flat (.bool x1), .flat (.int .u64 x2), .flat (.int .u64 x3), .flat (.int .i64 x4)], .flat (.int .i64 x5)] => some ((⟨x1, (x2, x3), x4⟩ : Sapi_Dec), x5) | _ => none
noncomputable def pyxref1_Add.j1000.fin (y : (Bool × Bool × Int × Int × Int × Bool × Int × Int × Int × Bool × Int × Int × Int)) : Out U := match y with | (x14, x2, x3, x4, x5, x6, x7, x8, x9, x10, x11, x12, x13) => .norm ⟨[(2, .ptr 2 0), (3, .ptr 3 0), (4, .ptr 4 0), (16, .flat (.bool x14))], [(2, .lit [.flat (.bool x2), .flat (.int .u64 x3), .flat (.int .u64 x4), .flat (.int .i64 x5)]), (3, .lit [.flat (.bool x6), .flat (.int .u64 x7), .flat (.int .u64 x8), .flat (.int .i64 x9)]), (4, .lit [.flat (.bool x10), .flat (.int .u64 x11), .flat (.int .u64 x12), .flat (.int .i64 x13)])]⟩
noncomputable def pyxref1_Add.j1000.finK {ρ : Type} (y : (Bool × Bool × Int × Int × Int × Bool × Int × Int × Int × Bool × Int × Int × Int)) (K : Out U → Option ρ) : Option ρ := match y with | (x14, x2, x3, x4, x5, x6, x7, x8, x9, x10, x11, x12, x13) => K (.norm ⟨[(2, .ptr 2 0), (3, .ptr 3 0), (4, .ptr 4 0), (16, .flat (.bool x14))], [(2, .lit [.flat (.bool x2), .flat (.int .u64 x3), .flat (.int .u64 x4), .flat (.int .i64 x5)]), (3, .lit [.flat (.bool x6), .flat (.int .u64 x7), .flat (.int .u64 x8), .flat (.int .i64 x9)]), (4, .lit [.flat (.bool x10), .flat (.int .u64 x11), .flat (.int .u64 x12), .flat (.int .i64 x13)])]⟩)
theorem pyxref1_Add.j1000.finK_eq {ρ : Type} (y : (Bool × Bool × Int × Int × Int × Bool × Int × Int × Int × Bool × Int × Int × Int)) (K : Out U → Option ρ) : pyxref1_Add.j1000.finK y K = K (pyxref1_Add.j1000.fin y) := by
  unfold pyxref1_Add.j1000.finK pyxref1_Add.j1000.fin
  first | rfl | (split <;> rfl)
noncomputable def pyxref1_Add.j1000.re : Out U → Option ((Bool × Bool × Int × Int × Int × Bool × Int × Int × Int × Bool × Int × Int × Int)) | .norm s => (match s.get 2, s.get 3, s.get 4, s.get 16, lk s.o 2, lk s.o 3, lk s.o 4 with | .ptr 2 0, .ptr 3 0, .ptr 4 0, .flat (.bool x14), some (.lit [.flat (.bool x2), .flat (.int .u64 x3), .flat (.int .u64 x4), .flat (.int .i64 x5)]), some (.lit [.flat (.bool x6), .flat (.int .u64 x7), .flat (.int .u64 x8), .flat (.int .i64 x9)]), some (.lit [.flat (.bool x10), .flat (.int .u64 x11), .flat (.int .u64 x12), .flat (.int .i64 x13)]) => some (x14, x2, x3, x4, x5, x6, x7, x8, x9, x10, x11, x12, x13) | _, _, _, _, _, _, _ => none) | _ => none
noncomputable def pyxref1_Add.j1000.J : JDen U := { Y := (Bool × Bool × Int × Int × Int × Bool × Int × Int × Int × Bool × Int × Int × Int), re := pyxref1_Add.j1000.re, fin := pyxref1_Add.j1000.fin, finK := pyxref1_Add.j1000.finK, finK_eq := pyxref1_Add.j1000.finK_eq }
theorem pyxref1_Add.j1000.fit (o : Out U) (y : (Bool × Bool × Int × Int × Int × Bool × Int × Int × Int × Bool × Int × Int × Int)) (h : pyxref1_Add.j1000.re o = some y) : FitsO o (pyxref1_Add.j1000.fin y) := by
  unfold pyxref1_Add.j1000.re at h
  split at h
  · split at h
    · cases h
      refine fitsO_norm (fits_ren [] ?_ ?_ ren_nil rfl)
      · exact List.forall_mem_cons.2 ⟨FV.one (FV.ptr (by assumption)), List.forall_mem_cons.2 ⟨FV.one (FV.ptr (by assumption)), List.forall_mem_cons.2 ⟨FV.one (FV.ptr (by assumption)), List.forall_mem_cons.2 ⟨FV.one (FV.same (by assumption) rfl), fun _ hp => (List.not_mem_nil hp).elim⟩⟩⟩⟩
      · exact List.forall_mem_cons.2 ⟨(FO.same (show lk (St.o _) 2 = some _ from by assumption) rfl), List.forall_mem_cons.2 ⟨(FO.same (show lk (St.o _) 3 = some _ from by assumption) rfl), List.forall_mem_cons.2 ⟨(FO.same (show lk (St.o _) 4 = some _ from by assumption) rfl), fun _ hp => (List.not_mem_nil hp).elim⟩⟩⟩
    · cases h
  · cases h
noncomputable def pyxref1_Add.jl : List (Nat × JDen U) := [(1000, pyxref1_Add.j1000.J)]
noncomputable def pyxref1_Add.fl (k : Nat) : List (Nat × FDen U) := [(104, pyxref1_RightDec.D k), (116, pyxref1_digits.D k), (117, pyxref1_AddNat.D k), (58, pyxref1_Make.D k), (118, pyxref1_CmpNat.D k), (119, pyxref1_SubNat.D k)]
noncomputable def pyxref1_Add.ll (k : Nat) : List (Nat × LDen U) := []
noncomputable def pyxref1_Add.E (k : Nat) : Env U := { P := Try.prog, D := DD, fd := lk (pyxref1_Add.fl k), ld := lk (pyxref1_Add.ll k), jd := lk pyxref1_Add.jl, mode := lk [], elc := lk ec, mpc := lk mc, rts := Try.f69.resultTypes.toList, dyn := fun t => false, vecs := fun d => false, results := Try.f69.results.toList, gh := [], own := false, io := fun g i => false }
theorem pyxref1_Add.ok (k : Nat) : EnvOk (pyxref1_Add.E k) := envOk lawful (pyxref1_Add.fl k) (pyxref1_Add.ll k) pyxref1_Add.jl _ _ _ _ _ _ _ _ _ _ (by
  intro p hp
  simp only [pyxref1_Add.fl, List.mem_cons, List.not_mem_nil, or_false] at hp
  rcases hp with rfl | rfl | rfl | rfl | rfl | rfl
  · exact ⟨pyxref1_RightDec.sound k, enter_of Try.func104 (by kernel_rfl) (by kernel_rfl)⟩
  · exact ⟨pyxref1_digits.sound k, enter_of Try.func116 (by kernel_rfl) (by kernel_rfl)⟩
  · exact ⟨pyxref1_AddNat.sound k, enter_of Try.func117 (by kernel_rfl) (by kernel_rfl)⟩
  · exact ⟨pyxref1_Make.sound k, enter_of Try.func58 (by kernel_rfl) (by kernel_rfl)⟩
  · exact ⟨pyxref1_CmpNat.sound k, enter_of Try.func118 (by kernel_rfl) (by kernel_rfl)⟩
  · exact ⟨pyxref1_SubNat.sound k, enter_of Try.func119 (by kernel_rfl) (by kernel_rfl)⟩) (by
  intro p hp
  simp only [pyxref1_Add.jl, List.mem_cons, List.not_mem_nil, or_false] at hp
  rcases hp with rfl
  · exact pyxref1_Add.j1000.fit)
theorem pyxref1_Add.eq (k : Nat) (x : (Sapi_Dec × Sapi_Dec)) : runF (pyxref1_Add.E k) (codeOf Try.f69) (pyxref1_Add.mk x) pyxref1_Add.re = (pyxref1_Add.D k).f x := by kernel_rfl
theorem pyxref1_Add.fit (s : St U) (x : (Sapi_Dec × Sapi_Dec)) (h : pyxref1_Add.un s = some x) : Fits s (pyxref1_Add.mk x) := by
  unfold pyxref1_Add.un at h
  split at h
  · cases h
    refine fits_ren [] ?_ ?_ ren_nil rfl
    · exact List.forall_mem_cons.2 ⟨FV.one (FV.same (by assumption) rfl), List.forall_mem_cons.2 ⟨FV.one (FV.same (by assumption) rfl), fun _ hp => (List.not_mem_nil hp).elim⟩⟩
    · exact fun _ hp => (List.not_mem_nil hp).elim
  · cases h
theorem pyxref1_Add.fitR (s : St U) (y : (Sapi_Dec × Int)) (h : pyxref1_Add.re s = some y) : Fits s (pyxref1_Add.fin y) := by
  unfold pyxref1_Add.re at h
  split at h
  · cases h
    refine fits_ren [] ?_ ?_ ren_nil rfl
    · exact List.forall_mem_cons.2 ⟨FV.tup (by assumption) (FTs.cons (FVA.one (FV.same rfl rfl)) (FTs.cons (FVA.one (FV.same rfl rfl)) (FTs.nil))), fun _ hp => (List.not_mem_nil hp).elim⟩
    · exact fun _ hp => (List.not_mem_nil hp).elim
  · cases h
theorem pyxref1_Add.sound (k : Nat) : Sound Try.prog DD 69 (pyxref1_Add.D k) :=
  fun_sound (E := pyxref1_Add.E k) (fn := Try.f69) (c := codeOf Try.f69) (pyxref1_Add.ok k) mixed rfl Try.func69 (by kernel_rfl) (by kernel_rfl) (allL_of (l := []) (by kernel_rfl) allL_nil) (pyxref1_Add.D k) pyxref1_Add.mk pyxref1_Add.re (by kernel_rfl) (by kernel_rfl) pyxref1_Add.fit pyxref1_Add.fitR (pyxref1_Add.eq k)
/-! ### pyx/pyxref1.Neg: function 70 -/
noncomputable def pyxref1_Neg.f (k : Nat) (a0 : Sapi_Dec) : Option Sapi_Dec := (pyxref1_RightDec.f k (⟨a0.f_Neg, (a0.f_C.1, a0.f_C.2), a0.f_Scale⟩ : Sapi_Dec)).bind fun t1 => (cond (!t1) (some (⟨false, (0, 0), 0⟩ : Sapi_Dec)) (cond (!a0.f_Neg) (some (⟨!((a0.f_C.1 == 0) && (a0.f_C.2 == 0)), (a0.f_C.1, a0.f_C.2), a0.f_Scale⟩ : Sapi_Dec)) (some (⟨false, (a0.f_C.1, a0.f_C.2), a0.f_Scale⟩ : Sapi_Dec))))
noncomputable def pyxref1_Neg.un (s : St U) : Option Sapi_Dec := match s.get 0 with | .agg [.flat (.bool x1), .flat (.int .u64 x2), .flat (.int .u64 x3), .flat (.int .i64 x4)] => some (⟨x1, (x2, x3), x4⟩ : Sapi_Dec) | _ => none
noncomputable def pyxref1_Neg.mk (x : Sapi_Dec) : St U := ⟨[(0, .agg [.flat (.bool x.f_Neg), .flat (.int .u64 x.f_C.1), .flat (.int .u64 x.f_C.2), .flat (.int .i64 x.f_Scale)])], []⟩
noncomputable def pyxref1_Neg.fin (y : Sapi_Dec) : St U := ⟨[(0, .agg [.flat (.bool y.f_Neg), .flat (.int .u64 y.f_C.1), .flat (.int .u64 y.f_C.2), .flat (.int .i64 y.f_Scale)])], []⟩
noncomputable def pyxref1_Neg.D (k : Nat) : FDen U := { X := Sapi_Dec, Y := Sapi_Dec, nt := 18, gh := [], un := pyxref1_Neg.un, f := fun x => pyxref1_Neg.f k (x), fin := pyxref1_Neg.fin, cl := true, clo := fun _ _ => rfl }
noncomputable def pyxref1_Neg.re (s : St U) : Option Sapi_Dec := match s.get 0 with | .agg [.flat (.bool x1), .flat (.int .u64 x2), .flat (.int .u64 x3), .flat (.int .i64 x4)] => some (⟨x1, (x2, x3), x4⟩ : Sapi_Dec) | _ => none
noncomputable def pyxref1_Neg.jl : List (Nat × JDen U) := []
noncomputable def pyxref1_Neg.fl (k : Nat) : List (Nat × FDen U) := [(104, pyxref1_RightDec.D k)]
noncomputable def pyxref1_Neg.ll (k : Nat) : List (Nat × LDen U) := []
noncomputable def pyxref1_Neg.E (k : Nat) : Env U := { P := Try.prog, D := DD, fd := lk (pyxref1_Neg.fl k), ld := lk (pyxref1_Neg.ll k), jd := lk pyxref1_Neg.jl, mode := lk [], elc := lk ec, mpc := lk mc, rts := Try.f70.resultTypes.toList, dyn := fun t => false, vecs := fun d => false, results := Try.f70.results.toList, gh := [], own := false, io := fun g i => false }
theorem pyxref1_Neg.ok (k : Nat) : EnvOk (pyxref1_Neg.E k) := envOk lawful (pyxref1_Neg.fl k) (pyxref1_Neg.ll k) pyxref1_Neg.jl _ _ _ _ _ _ _ _ _ _ (by
  intro p hp
  simp only [pyxref1_Neg.fl, List.mem_cons, List.not_mem_nil, or_false] at hp
  rcases hp with rfl
  · exact ⟨pyxref1_RightDec.sound k, enter_of Try.func104 (by kernel_rfl) (by kernel_rfl)⟩) (by
  intro p hp
  simp [pyxref1_Neg.jl] at hp)
theorem pyxref1_Neg.eq (k : Nat) (x : Sapi_Dec) : runF (pyxref1_Neg.E k) (codeOf Try.f70) (pyxref1_Neg.mk x) pyxref1_Neg.re = (pyxref1_Neg.D k).f x := by kernel_rfl
theorem pyxref1_Neg.fit (s : St U) (x : Sapi_Dec) (h : pyxref1_Neg.un s = some x) : Fits s (pyxref1_Neg.mk x) := by
  unfold pyxref1_Neg.un at h
  split at h
  · cases h
    refine fits_ren [] ?_ ?_ ren_nil rfl
    · exact List.forall_mem_cons.2 ⟨FV.one (FV.same (by assumption) rfl), fun _ hp => (List.not_mem_nil hp).elim⟩
    · exact fun _ hp => (List.not_mem_nil hp).elim
  · cases h
theorem pyxref1_Neg.fitR (s : St U) (y : Sapi_Dec) (h : pyxref1_Neg.re s = some y) : Fits s (pyxref1_Neg.fin y) := by
  unfold pyxref1_Neg.re at h
  split at h
  · cases h
    refine fits_ren [] ?_ ?_ ren_nil rfl
    · exact List.forall_mem_cons.2 ⟨FV.one (FV.same (by assumption) rfl), fun _ hp => (List.not_mem_nil hp).elim⟩
    · exact fun _ hp => (List.not_mem_nil hp).elim
  · cases h
theorem pyxref1_Neg.sound (k : Nat) : Sound Try.prog DD 70 (pyxref1_Neg.D k) :=
  fun_sound (E := pyxref1_Neg.E k) (fn := Try.f70) (c := codeOf Try.f70) (pyxref1_Neg.ok k) mixed rfl Try.func70 (by kernel_rfl) (by kernel_rfl) (allL_of (l := []) (by kernel_rfl) allL_nil) (pyxref1_Neg.D k) pyxref1_Neg.mk pyxref1_Neg.re (by kernel_rfl) (by kernel_rfl) pyxref1_Neg.fit pyxref1_Neg.fitR (pyxref1_Neg.eq k)
/-! ### pyx/pyxref1.Sign: function 68 -/
noncomputable def pyxref1_Sign.f (k : Nat) (a0 : Sapi_Dec) : Option Int := (((pyxref1_RightDec.f k (⟨a0.f_Neg, (a0.f_C.1, a0.f_C.2), a0.f_Scale⟩ : Sapi_Dec)).bind fun t1 => (cond (!t1) (some (true, a0.f_Neg, a0.f_C.1, a0.f_C.2, a0.f_Scale)) (some ((a0.f_C.1 == 0) && (a0.f_C.2 == 0), a0.f_Neg, a0.f_C.1, a0.f_C.2, a0.f_Scale)))) : Option (Bool × Bool × Int × Int × Int)).bind fun y7 => (cond (y7.1) (some 0) (cond (y7.2.1) (some (-1)) (some 1)))
noncomputable def pyxref1_Sign.un (s : St U) : Option Sapi_Dec := match s.get 0 with | .agg [.flat (.bool x1), .flat (.int .u64 x2), .flat (.int .u64 x3), .flat (.int .i64 x4)] => some (⟨x1, (x2, x3), x4⟩ : Sapi_Dec) | _ => none
noncomputable def pyxref1_Sign.mk (x : Sapi_Dec) : St U := ⟨[(0, .agg [.flat (.bool x.f_Neg), .flat (.int .u64 x.f_C.1), .flat (.int .u64 x.f_C.2), .flat (.int .i64 x.f_Scale)])], []⟩
noncomputable def pyxref1_Sign.fin (y : Int) : St U := ⟨[(0, .flat (.int .i64 y))], []⟩
noncomputable def pyxref1_Sign.D (k : Nat) : FDen U := { X := Sapi_Dec, Y := Int, nt := 16, gh := [], un := pyxref1_Sign.un, f := fun x => pyxref1_Sign.f k (x), fin := pyxref1_Sign.fin, cl := true, clo := fun _ _ => rfl }
noncomputable def pyxref1_Sign.re (s : St U) : Option Int := match s.get 0 with | .flat (.int .i64 x1) => some x1 | _ => none
noncomputable def pyxref1_Sign.j1000.fin (y : (Bool × Bool × Int × Int × Int)) : Out U := match y with | (x6, x2, x3, x4, x5) => .norm ⟨[(1, .ptr 1 0), (3, .flat (.bool x6))], [(1, .lit [.flat (.bool x2), .flat (.int .u64 x3), .flat (.int .u64 x4), .flat (.int .i64 x5)])]⟩
noncomputable def pyxref1_Sign.j1000.finK {ρ : Type} (y : (Bool × Bool × Int × Int × Int)) (K : Out U → Option ρ) : Option ρ := match y with | (x6, x2, x3, x4, x5) => K (.norm ⟨[(1, .ptr 1 0), (3, .flat (.bool x6))], [(1, .lit [.flat (.bool x2), .flat (.int .u64 x3), .flat (.int .u64 x4), .flat (.int .i64 x5)])]⟩)
theorem pyxref1_Sign.j1000.finK_eq {ρ : Type} (y : (Bool × Bool × Int × Int × Int)) (K : Out U → Option ρ) : pyxref1_Sign.j1000.finK y K = K (pyxref1_Sign.j1000.fin y) := by
  unfold pyxref1_Sign.j1000.finK pyxref1_Sign.j1000.fin
  first | rfl | (split <;> rfl)
noncomputable def pyxref1_Sign.j1000.re : Out U → Option ((Bool × Bool × Int × Int × Int)) | .norm s => (match s.get 1, s.get 3, lk s.o 1 with | .ptr 1 0, .flat (.bool x6), some (.lit [.flat (.bool x2), .flat (.int .u64 x3), .flat (.int .u64 x4), .flat (.int .i64 x5)]) => some (x6, x2, x3, x4, x5) | _, _, _ => none) | _ => none
noncomputable def pyxref1_Sign.j1000.J : JDen U := { Y := (Bool × Bool × Int × Int × Int), re := pyxref1_Sign.j1000.re, fin := pyxref1_Sign.j1000.fin, finK := pyxref1_Sign.j1000.finK, finK_eq := pyxref1_Sign.j1000.finK_eq }
theorem pyxref1_Sign.j1000.fit (o : Out U) (y : (Bool × Bool × Int × Int × Int)) (h : pyxref1_Sign.j1000.re o = some y) : FitsO o (pyxref1_Sign.j1000.fin y) := by
  unfold pyxref1_Sign.j1000.re at h
  split at h
  · split at h
    · cases h
      refine fitsO_norm (fits_ren [] ?_ ?_ ren_nil rfl)
      · exact List.forall_mem_cons.2 ⟨FV.one (FV.ptr (by assumption)), List.forall_mem_cons.2 ⟨FV.one (FV.same (by assumption) rfl), fun _ hp => (List.not_mem_nil hp).elim⟩⟩
      · exact List.forall_mem_cons.2 ⟨(FO.same (show lk (St.o _) 1 = some _ from by assumption) rfl), fun _ hp => (List.not_mem_nil hp).elim⟩
    · cases h
  · cases h
noncomputable def pyxref1_Sign.jl : List (Nat × JDen U) := [(1000, pyxref1_Sign.j1000.J)]
noncomputable def pyxref1_Sign.fl (k : Nat) : List (Nat × FDen U) := [(104, pyxref1_RightDec.D k)]
noncomputable def pyxref1_Sign.ll (k : Nat) : List (Nat × LDen U) := []
noncomputable def pyxref1_Sign.E (k : Nat) : Env U := { P := Try.prog, D := DD, fd := lk (pyxref1_Sign.fl k), ld := lk (pyxref1_Sign.ll k), jd := lk pyxref1_Sign.jl, mode := lk [], elc := lk ec, mpc := lk mc, rts := Try.f68.resultTypes.toList, dyn := fun t => false, vecs := fun d => false, results := Try.f68.results.toList, gh := [], own := false, io := fun g i => false }
theorem pyxref1_Sign.ok (k : Nat) : EnvOk (pyxref1_Sign.E k) := envOk lawful (pyxref1_Sign.fl k) (pyxref1_Sign.ll k) pyxref1_Sign.jl _ _ _ _ _ _ _ _ _ _ (by
  intro p hp
  simp only [pyxref1_Sign.fl, List.mem_cons, List.not_mem_nil, or_false] at hp
  rcases hp with rfl
  · exact ⟨pyxref1_RightDec.sound k, enter_of Try.func104 (by kernel_rfl) (by kernel_rfl)⟩) (by
  intro p hp
  simp only [pyxref1_Sign.jl, List.mem_cons, List.not_mem_nil, or_false] at hp
  rcases hp with rfl
  · exact pyxref1_Sign.j1000.fit)
theorem pyxref1_Sign.eq (k : Nat) (x : Sapi_Dec) : runF (pyxref1_Sign.E k) (codeOf Try.f68) (pyxref1_Sign.mk x) pyxref1_Sign.re = (pyxref1_Sign.D k).f x := by kernel_rfl
theorem pyxref1_Sign.fit (s : St U) (x : Sapi_Dec) (h : pyxref1_Sign.un s = some x) : Fits s (pyxref1_Sign.mk x) := by
  unfold pyxref1_Sign.un at h
  split at h
  · cases h
    refine fits_ren [] ?_ ?_ ren_nil rfl
    · exact List.forall_mem_cons.2 ⟨FV.one (FV.same (by assumption) rfl), fun _ hp => (List.not_mem_nil hp).elim⟩
    · exact fun _ hp => (List.not_mem_nil hp).elim
  · cases h
theorem pyxref1_Sign.fitR (s : St U) (y : Int) (h : pyxref1_Sign.re s = some y) : Fits s (pyxref1_Sign.fin y) := by
  unfold pyxref1_Sign.re at h
  split at h
  · cases h
    refine fits_ren [] ?_ ?_ ren_nil rfl
    · exact List.forall_mem_cons.2 ⟨FV.one (FV.same (by assumption) rfl), fun _ hp => (List.not_mem_nil hp).elim⟩
    · exact fun _ hp => (List.not_mem_nil hp).elim
  · cases h
theorem pyxref1_Sign.sound (k : Nat) : Sound Try.prog DD 68 (pyxref1_Sign.D k) :=
  fun_sound (E := pyxref1_Sign.E k) (fn := Try.f68) (c := codeOf Try.f68) (pyxref1_Sign.ok k) mixed rfl Try.func68 (by kernel_rfl) (by kernel_rfl) (allL_of (l := []) (by kernel_rfl) allL_nil) (pyxref1_Sign.D k) pyxref1_Sign.mk pyxref1_Sign.re (by kernel_rfl) (by kernel_rfl) pyxref1_Sign.fit pyxref1_Sign.fitR (pyxref1_Sign.eq k)
/-! ### pyx/pyxref1.goodMode: function 110 -/
noncomputable def pyxref1_goodMode.f (k : Nat) (a0 : Int) (a1 : Int) : Option Bool := cond (decide (a0 ≥ 0)) (cond (decide (a0 ≤ 9)) (cond (decide (a1 ≥ 0)) (some (decide (a1 ≤ 4))) (some false)) (some false)) (some false)
noncomputable def pyxref1_goodMode.un (s : St U) : Option (Int × Int) := match s.get 0, s.get 1 with | .flat (.int .i64 x1), .flat (.int .i64 x2) => some (x1, x2) | _, _ => none
noncomputable def pyxref1_goodMode.mk (x : (Int × Int)) : St U := ⟨[(0, .flat (.int .i64 x.1)), (1, .flat (.int .i64 x.2))], []⟩
noncomputable def pyxref1_goodMode.fin (y : Bool) : St U := ⟨[(0, .flat (.bool y))], []⟩
noncomputable def pyxref1_goodMode.D (k : Nat) : FDen U := { X := (Int × Int), Y := Bool, nt := 19, gh := [], un := pyxref1_goodMode.un, f := fun x => pyxref1_goodMode.f k (x.1) (x.2), fin := pyxref1_goodMode.fin, cl := true, clo := fun _ _ => rfl }
noncomputable def pyxref1_goodMode.re (s : St U) : Option Bool := match s.get 0 with | .flat (.bool x1) => some x1 | _ => none
noncomputable def pyxref1_goodMode.jl : List (Nat × JDen U) := []
noncomputable def pyxref1_goodMode.fl (k : Nat) : List (Nat × FDen U) := []
noncomputable def pyxref1_goodMode.ll (k : Nat) : List (Nat × LDen U) := []
noncomputable def pyxref1_goodMode.E (k : Nat) : Env U := { P := Try.prog, D := DD, fd := lk (pyxref1_goodMode.fl k), ld := lk (pyxref1_goodMode.ll k), jd := lk pyxref1_goodMode.jl, mode := lk [], elc := lk ec, mpc := lk mc, rts := Try.f110.resultTypes.toList, dyn := fun t => false, vecs := fun d => false, results := Try.f110.results.toList, gh := [], own := false, io := fun g i => false }
theorem pyxref1_goodMode.ok (k : Nat) : EnvOk (pyxref1_goodMode.E k) := envOk lawful (pyxref1_goodMode.fl k) (pyxref1_goodMode.ll k) pyxref1_goodMode.jl _ _ _ _ _ _ _ _ _ _ (by
  intro p hp
  simp [pyxref1_goodMode.fl] at hp) (by
  intro p hp
  simp [pyxref1_goodMode.jl] at hp)
theorem pyxref1_goodMode.eq (k : Nat) (x : (Int × Int)) : runF (pyxref1_goodMode.E k) (codeOf Try.f110) (pyxref1_goodMode.mk x) pyxref1_goodMode.re = (pyxref1_goodMode.D k).f x := by kernel_rfl
theorem pyxref1_goodMode.fit (s : St U) (x : (Int × Int)) (h : pyxref1_goodMode.un s = some x) : Fits s (pyxref1_goodMode.mk x) := by
  unfold pyxref1_goodMode.un at h
  split at h
  · cases h
    refine fits_ren [] ?_ ?_ ren_nil rfl
    · exact List.forall_mem_cons.2 ⟨FV.one (FV.same (by assumption) rfl), List.forall_mem_cons.2 ⟨FV.one (FV.same (by assumption) rfl), fun _ hp => (List.not_mem_nil hp).elim⟩⟩
    · exact fun _ hp => (List.not_mem_nil hp).elim
  · cases h
theorem pyxref1_goodMode.fitR (s : St U) (y : Bool) (h : pyxref1_goodMode.re s = some y) : Fits s (pyxref1_goodMode.fin y) := by
  unfold pyxref1_goodMode.re at h
  split at h
  · cases h
    refine fits_ren [] ?_ ?_ ren_nil rfl
    · exact List.forall_mem_cons.2 ⟨FV.one (FV.same (by assumption) rfl), fun _ hp => (List.not_mem_nil hp).elim⟩
    · exact fun _ hp => (List.not_mem_nil hp).elim
  · cases h
theorem pyxref1_goodMode.sound (k : Nat) : Sound Try.prog DD 110 (pyxref1_goodMode.D k) :=
  fun_sound (E := pyxref1_goodMode.E k) (fn := Try.f110) (c := codeOf Try.f110) (pyxref1_goodMode.ok k) mixed rfl Try.func110 (by kernel_rfl) (by kernel_rfl) (allL_of (l := []) (by kernel_rfl) allL_nil) (pyxref1_goodMode.D k) pyxref1_goodMode.mk pyxref1_goodMode.re (by kernel_rfl) (by kernel_rfl) pyxref1_goodMode.fit pyxref1_goodMode.fitR (pyxref1_goodMode.eq k)
/-! ### pyx/pyxref1.Rounded: function 111 -/
noncomputable def pyxref1_Rounded.f (k : Nat) (a0 : Bool) (a1 : List Int) (a2 : List Int) (a3 : Int) : Option (List Int) := (pyxref1_DivNat.f k a1 a2).bind fun t1 => ((pyxref1_AddNat.f k t1.2 t1.2).bind fun t2 => ((pyxref1_CmpNat.f k t2 a2).bind fun t3 => (((cond (a3 == 1) (some (t1.1, decide ((List.length t1.2 : Int) > 0))) (cond (a3 == 2) (cond (a0) (some (t1.1, decide ((List.length t1.2 : Int) > 0))) (some (t1.1, false))) (cond (a3 == 3) (some (t1.1, decide (t3 ≥ 0))) (cond (a3 == 4) (cond (decide (t3 > 0)) (some (t1.1, true)) (cond (t3 == 0) ((pyxref1_digit.f k t1.1 0).bind fun t6 => (some (t1.1, (Int.tmod t6 2) == 1))) (some (t1.1, false)))) (some (t1.1, false)))))) : Option (List Int × Bool)).bind fun y7 => (cond (y7.2) ((pyxref1_AddNat.f k y7.1 [1]).bind fun t8 => (some t8)) (some y7.1)))))
noncomputable def pyxref1_Rounded.un (s : St U) : Option (Bool × List Int × List Int × Int) := match s.get 0, s.get 1, s.get 2, s.get 3 with | .flat (.bool x1), .row C.i64 x2, .row C.i64 x3, .flat (.int .i64 x4) => some (x1, x2, x3, x4) | _, _, _, _ => none
noncomputable def pyxref1_Rounded.mk (x : (Bool × List Int × List Int × Int)) : St U := ⟨[(0, .flat (.bool x.1)), (1, .row C.i64 x.2.1), (2, .row C.i64 x.2.2.1), (3, .flat (.int .i64 x.2.2.2))], []⟩
noncomputable def pyxref1_Rounded.fin (y : List Int) : St U := ⟨[(0, .row C.i64 y)], []⟩
noncomputable def pyxref1_Rounded.D (k : Nat) : FDen U := { X := (Bool × List Int × List Int × Int), Y := List Int, nt := 61, gh := [], un := pyxref1_Rounded.un, f := fun x => pyxref1_Rounded.f k (x.1) (x.2.1) (x.2.2.1) (x.2.2.2), fin := pyxref1_Rounded.fin, cl := true, clo := fun _ _ => rfl }
noncomputable def pyxref1_Rounded.re (s : St U) : Option (List Int) := match s.get 0 with | .row C.i64 x1 => some x1 | _ => none
noncomputable def pyxref1_Rounded.j5001.fin (y : (List Int × Bool)) : Out U := match y with | (x4, x5) => .norm ⟨[(9, .row C.i64 x4), (12, .flat (.bool x5))], []⟩
noncomputable def pyxref1_Rounded.j5001.finK {ρ : Type} (y : (List Int × Bool)) (K : Out U → Option ρ) : Option ρ := match y with | (x4, x5) => K (.norm ⟨[(9, .row C.i64 x4), (12, .flat (.bool x5))], []⟩)
theorem pyxref1_Rounded.j5001.finK_eq {ρ : Type} (y : (List Int × Bool)) (K : Out U → Option ρ) : pyxref1_Rounded.j5001.finK y K = K (pyxref1_Rounded.j5001.fin y) := by
  unfold pyxref1_Rounded.j5001.finK pyxref1_Rounded.j5001.fin
  first | rfl | (split <;> rfl)
noncomputable def pyxref1_Rounded.j5001.re : Out U → Option ((List Int × Bool)) | .norm s => ((row_i64 (s.get 9)).bind fun q0 => (match s.get 12 with | .flat (.bool x5) => some (q0, x5) | _ => none)) | _ => none
noncomputable def pyxref1_Rounded.j5001.J : JDen U := { Y := (List Int × Bool), re := pyxref1_Rounded.j5001.re, fin := pyxref1_Rounded.j5001.fin, finK := pyxref1_Rounded.j5001.finK, finK_eq := pyxref1_Rounded.j5001.finK_eq }
theorem pyxref1_Rounded.j5001.fit (o : Out U) (y : (List Int × Bool)) (h : pyxref1_Rounded.j5001.re o = some y) : FitsO o (pyxref1_Rounded.j5001.fin y) := by
  unfold pyxref1_Rounded.j5001.re at h
  split at h
  · obtain ⟨q0, eq0, h1⟩ := Option.bind_eq_some_iff.1 h
    split at h1
    · cases h1
      refine fitsO_norm (fits_ren [] ?_ ?_ ren_nil rfl)
      · exact List.forall_mem_cons.2 ⟨FV.one (row_i64_fit eq0), List.forall_mem_cons.2 ⟨FV.one (FV.same (by assumption) rfl), fun _ hp => (List.not_mem_nil hp).elim⟩⟩
      · exact fun _ hp => (List.not_mem_nil hp).elim
    · cases h1
  · cases h
noncomputable def pyxref1_Rounded.jl : List (Nat × JDen U) := [(5001, pyxref1_Rounded.j5001.J)]
noncomputable def pyxref1_Rounded.fl (k : Nat) : List (Nat × FDen U) := [(137, pyxref1_DivNat.D k), (117, pyxref1_AddNat.D k), (118, pyxref1_CmpNat.D k), (145, pyxref1_digit.D k)]
noncomputable def pyxref1_Rounded.ll (k : Nat) : List (Nat × LDen U) := []
noncomputable def pyxref1_Rounded.E (k : Nat) : Env U := { P := Try.prog, D := DD, fd := lk (pyxref1_Rounded.fl k), ld := lk (pyxref1_Rounded.ll k), jd := lk pyxref1_Rounded.jl, mode := lk [], elc := lk ec, mpc := lk mc, rts := Try.f111.resultTypes.toList, dyn := fun t => false, vecs := fun d => false, results := Try.f111.results.toList, gh := [], own := false, io := fun g i => false }
theorem pyxref1_Rounded.ok (k : Nat) : EnvOk (pyxref1_Rounded.E k) := envOk lawful (pyxref1_Rounded.fl k) (pyxref1_Rounded.ll k) pyxref1_Rounded.jl _ _ _ _ _ _ _ _ _ _ (by
  intro p hp
  simp only [pyxref1_Rounded.fl, List.mem_cons, List.not_mem_nil, or_false] at hp
  rcases hp with rfl | rfl | rfl | rfl
  · exact ⟨pyxref1_DivNat.sound k, enter_of Try.func137 (by kernel_rfl) (by kernel_rfl)⟩
  · exact ⟨pyxref1_AddNat.sound k, enter_of Try.func117 (by kernel_rfl) (by kernel_rfl)⟩
  · exact ⟨pyxref1_CmpNat.sound k, enter_of Try.func118 (by kernel_rfl) (by kernel_rfl)⟩
  · exact ⟨pyxref1_digit.sound k, enter_of Try.func145 (by kernel_rfl) (by kernel_rfl)⟩) (by
  intro p hp
  simp only [pyxref1_Rounded.jl, List.mem_cons, List.not_mem_nil, or_false] at hp
  rcases hp with rfl
  · exact pyxref1_Rounded.j5001.fit)
theorem pyxref1_Rounded.eq (k : Nat) (x : (Bool × List Int × List Int × Int)) : runF (pyxref1_Rounded.E k) (codeOf Try.f111) (pyxref1_Rounded.mk x) pyxref1_Rounded.re = (pyxref1_Rounded.D k).f x := by kernel_rfl
theorem pyxref1_Rounded.fit (s : St U) (x : (Bool × List Int × List Int × Int)) (h : pyxref1_Rounded.un s = some x) : Fits s (pyxref1_Rounded.mk x) := by
  unfold pyxref1_Rounded.un at h
  split at h
  · cases h
    refine fits_ren [] ?_ ?_ ren_nil rfl
    · exact List.forall_mem_cons.2 ⟨FV.one (FV.same (by assumption) rfl), List.forall_mem_cons.2 ⟨FV.one (FV.same (by assumption) rfl), List.forall_mem_cons.2 ⟨FV.one (FV.same (by assumption) rfl), List.forall_mem_cons.2 ⟨FV.one (FV.same (by assumption) rfl), fun _ hp => (List.not_mem_nil hp).elim⟩⟩⟩⟩
    · exact fun _ hp => (List.not_mem_nil hp).elim
  · cases h
theorem pyxref1_Rounded.fitR (s : St U) (y : List Int) (h : pyxref1_Rounded.re s = some y) : Fits s (pyxref1_Rounded.fin y) := by
  unfold pyxref1_Rounded.re at h
  split at h
  · cases h
    refine fits_ren [] ?_ ?_ ren_nil rfl
    · exact List.forall_mem_cons.2 ⟨FV.one (FV.same (by assumption) rfl), fun _ hp => (List.not_mem_nil hp).elim⟩
    · exact fun _ hp => (List.not_mem_nil hp).elim
  · cases h
theorem pyxref1_Rounded.sound (k : Nat) : Sound Try.prog DD 111 (pyxref1_Rounded.D k) :=
  fun_sound (E := pyxref1_Rounded.E k) (fn := Try.f111) (c := codeOf Try.f111) (pyxref1_Rounded.ok k) mixed rfl Try.func111 (by kernel_rfl) (by kernel_rfl) (allL_of (l := []) (by kernel_rfl) allL_nil) (pyxref1_Rounded.D k) pyxref1_Rounded.mk pyxref1_Rounded.re (by kernel_rfl) (by kernel_rfl) pyxref1_Rounded.fit pyxref1_Rounded.fitR (pyxref1_Rounded.eq k)
/-! ### pyx/pyxref1.Unit: function 64 -/
noncomputable def pyxref1_Unit.f (k : Nat) (a0 : Sapi_Dec) (a1 : Sapi_Dec) (a2 : Int) : Option (Sapi_Dec × Int) := (((pyxref1_RightDec.f k (⟨a0.f_Neg, (a0.f_C.1, a0.f_C.2), a0.f_Scale⟩ : Sapi_Dec)).bind fun t1 => (cond (!t1) (some (a2, true, a0.f_Neg, a0.f_C.1, a0.f_C.2, a0.f_Scale, a1.f_Neg, a1.f_C.1, a1.f_C.2, a1.f_Scale, false, 0, 0, 0)) ((pyxref1_RightDec.f k (⟨a1.f_Neg, (a1.f_C.1, a1.f_C.2), a1.f_Scale⟩ : Sapi_Dec)).bind fun t16 => (cond (!t16) (some (a2, true, a0.f_Neg, a0.f_C.1, a0.f_C.2, a0.f_Scale, a1.f_Neg, a1.f_C.1, a1.f_C.2, a1.f_Scale, false, 0, 0, 0)) ((pyxref1_goodMode.f k 0 a2).bind fun t17 => (cond (!t17) (some (a2, true, a0.f_Neg, a0.f_C.1, a0.f_C.2, a0.f_Scale, a1.f_Neg, a1.f_C.1, a1.f_C.2, a1.f_Scale, false, 0, 0, 0)) ((pyxref1_Sign.f k (⟨a1.f_Neg, (a1.f_C.1, a1.f_C.2), a1.f_Scale⟩ : Sapi_Dec)).bind fun t18 => (some (a2, decide (t18 ≤ 0), a0.f_Neg, a0.f_C.1, a0.f_C.2, a0.f_Scale, a1.f_Neg, a1.f_C.1, a1.f_C.2, a1.f_Scale, false, 0, 0, 0))))))))) : Option (Int × Bool × Bool × Int × Int × Int × Bool × Int × Int × Int × Bool × Int × Int × Int)).bind fun y19 => (cond (y19.2.1) (some ((⟨false, (0, 0), 0⟩ : Sapi_Dec), 1)) ((pyxref1_Nat2.f k (y19.2.2.2.1, y19.2.2.2.2.1)).bind fun t20 => ((pyxref1_TenNat.f k y19.2.2.2.2.2.2.2.2.2.1).bind fun t21 => ((pyxref1_MulNat.f k t20 t21).bind fun t22 => ((pyxref1_Nat2.f k (y19.2.2.2.2.2.2.2.1, y19.2.2.2.2.2.2.2.2.1)).bind fun t23 => ((pyxref1_TenNat.f k y19.2.2.2.2.2.1).bind fun t24 => ((pyxref1_MulNat.f k t23 t24).bind fun t25 => ((pyxref1_Rounded.f k y19.2.2.1 t22 t25 y19.1).bind fun t26 => ((pyxref1_Nat2.f k (y19.2.2.2.2.2.2.2.1, y19.2.2.2.2.2.2.2.2.1)).bind fun t27 => ((pyxref1_MulNat.f k t26 t27).bind fun t28 => ((pyxref1_Make.f k y19.2.2.1 t28 y19.2.2.2.2.2.2.2.2.2.1).bind fun t29 => (some ((⟨t29.1.f_Neg, (t29.1.f_C.1, t29.1.f_C.2), t29.1.f_Scale⟩ : Sapi_Dec), t29.2)))))))))))))
noncomputable def pyxref1_Unit.un (s : St U) : Option (Sapi_Dec × Sapi_Dec × Int) := match s.get 0, s.get 1, s.get 2 with | .agg [.flat (.bool x1), .flat (.int .u64 x2), .flat (.int .u64 x3), .flat (.int .i64 x4)], .agg [.flat (.bool x5), .flat (.int .u64 x6), .flat (.int .u64 x7), .flat (.int .i64 x8)], .flat (.int .i64 x9) => some ((⟨x1, (x2, x3), x4⟩ : Sapi_Dec), (⟨x5, (x6, x7), x8⟩ : Sapi_Dec), x9) | _, _, _ => none
noncomputable def pyxref1_Unit.mk (x : (Sapi_Dec × Sapi_Dec × Int)) : St U := ⟨[(0, .agg [.flat (.bool x.1.f_Neg), .flat (.int .u64 x.1.f_C.1), .flat (.int .u64 x.1.f_C.2), .flat (.int .i64 x.1.f_Scale)]), (1, .agg [.flat (.bool x.2.1.f_Neg), .flat (.int .u64 x.2.1.f_C.1), .flat (.int .u64 x.2.1.f_C.2), .flat (.int .i64 x.2.1.f_Scale)]), (2, .flat (.int .i64 x.2.2))], []⟩
noncomputable def pyxref1_Unit.fin (y : (Sapi_Dec × Int)) : St U := ⟨[(0, .tup [.agg [.flat (.bool y.1.f_Neg), .flat (.int .u64 y.1.f_C.1), .flat (.int .u64 y.1.f_C.2), .flat (.int .i64 y.1.f_Scale)], .flat (.int .i64 y.2)])], []⟩
noncomputable def pyxref1_Unit.D (k : Nat) : FDen U := { X := (Sapi_Dec × Sapi_Dec × Int), Y := (Sapi_Dec × Int), nt := 58, gh := [], un := pyxref1_Unit.un, f := fun x => pyxref1_Unit.f k (x.1) (x.2.1) (x.2.2), fin := pyxref1_Unit.fin, cl := true, clo := fun _ _ => rfl }
noncomputable def pyxref1_Unit.re (s : St U) : Option (Sapi_Dec × Int) := match s.get 0 with | .tup [.agg [.flat (.bool x1), .flat (.int .u64 x2), .flat (.int .u64 x3), .flat (.int .i64 x4)], .flat (.int .i64 x5)] => some ((⟨x1, (x2, x3), x4⟩ : Sapi_Dec), x5) | _ => none
noncomputable def pyxref1_Unit.j1000.fin (y : (Int × Bool × Bool × Int × Int × Int × Bool × Int × Int × Int × Bool × Int × Int × Int)) : Out U := match y with | (x2, x15, x3, x4, x5, x6, x7, x8, x9, x10, x11, x12, x13, x14) => .norm ⟨[(3, .ptr 3 0), (4, .ptr 4 0), (6, .ptr 6 0), (2, .flat (.int .i64 x2)), (26, .flat (.bool x15))], [(3, .lit [.flat (.bool x3), .flat (.int .u64 x4), .flat (.int .u64 x5), .flat (.int .i64 x6)]), (4, .lit [.flat (.bool x7), .flat (.int .u64 x8), .flat (.int .u64 x9), .flat (.int .i64 x10)]), (6, .lit [.flat (.bool x11), .flat (.int .u64 x12), .flat (.int .u64 x13), .flat (.int .i64 x14)])]⟩
noncomputable def pyxref1_Unit.j1000.finK {ρ : Type} (y : (Int × Bool × Bool × Int × Int × Int × Bool × Int × Int × Int × Bool × Int × Int × Int)) (K : Out U → Option ρ) : Option ρ := match y with | (x2, x15, x3, x4, x5, x6, x7, x8, x9, x10, x11, x12, x13, x14) => K (.norm ⟨[(3, .ptr 3 0), (4, .ptr 4 0), (6, .ptr 6 0), (2, .flat (.int .i64 x2)), (26, .flat (.bool x15))], [(3, .lit [.flat (.bool x3), .flat (.int .u64 x4), .flat (.int .u64 x5), .flat (.int .i64 x6)]), (4, .lit [.flat (.bool x7), .flat (.int .u64 x8), .flat (.int .u64 x9), .flat (.int .i64 x10)]), (6, .lit [.flat (.bool x11), .flat (.int .u64 x12), .flat (.int .u64 x13), .flat (.int .i64 x14)])]⟩)
theorem pyxref1_Unit.j1000.finK_eq {ρ : Type} (y : (Int × Bool × Bool × Int × Int × Int × Bool × Int × Int × Int × Bool × Int × Int × Int)) (K : Out U → Option ρ) : pyxref1_Unit.j1000.finK y K = K (pyxref1_Unit.j1000.fin y) := by
  unfold pyxref1_Unit.j1000.finK pyxref1_Unit.j1000.fin
  first | rfl | (split <;> rfl)
noncomputable def pyxref1_Unit.j1000.re : Out U → Option ((Int × Bool × Bool × Int × Int × Int × Bool × Int × Int × Int × Bool × Int × Int × Int)) | .norm s => (match s.get 3, s.get 4, s.get 6, s.get 2, s.get 26, lk s.o 3, lk s.o 4, lk s.o 6 with | .ptr 3 0, .ptr 4 0, .ptr 6 0, .flat (.int .i64 x2), .flat (.bool x15), some (.lit [.flat (.bool x3), .flat (.int .u64 x4), .flat (.int .u64 x5), .flat (.int .i64 x6)]), some (.lit [.flat (.bool x7), .flat (.int .u64 x8), .flat (.int .u64 x9), .flat (.int .i64 x10)]), some (.lit [.flat (.bool x11), .flat (.int .u64 x12), .flat (.int .u64 x13), .flat (.int .i64 x14)]) => some (x2, x15, x3, x4, x5, x6, x7, x8, x9, x10, x11, x12, x13, x14) | _, _, _, _, _, _, _, _ => none) | _ => none
noncomputable def pyxref1_Unit.j1000.J : JDen U := { Y := (Int × Bool × Bool × Int × Int × Int × Bool × Int × Int × Int × Bool × Int × Int × Int), re := pyxref1_Unit.j1000.re, fin := pyxref1_Unit.j1000.fin, finK := pyxref1_Unit.j1000.finK, finK_eq := pyxref1_Unit.j1000.finK_eq }
theorem pyxref1_Unit.j1000.fit (o : Out U) (y : (Int × Bool × Bool × Int × Int × Int × Bool × Int × Int × Int × Bool × Int × Int × Int)) (h : pyxref1_Unit.j1000.re o = some y) : FitsO o (pyxref1_Unit.j1000.fin y) := by
  unfold pyxref1_Unit.j1000.re at h
  split at h
  · split at h
    · cases h
      refine fitsO_norm (fits_ren [] ?_ ?_ ren_nil rfl)
      · exact List.forall_mem_cons.2 ⟨FV.one (FV.ptr (by assumption)), List.forall_mem_cons.2 ⟨FV.one (FV.ptr (by assumption)), List.forall_mem_cons.2 ⟨FV.one (FV.ptr (by assumption)), List.forall_mem_cons.2 ⟨FV.one (FV.same (by assumption) rfl), List.forall_mem_cons.2 ⟨FV.one (FV.same (by assumption) rfl), fun _ hp => (List.not_mem_nil hp).elim⟩⟩⟩⟩⟩
      · exact List.forall_mem_cons.2 ⟨(FO.same (show lk (St.o _) 3 = some _ from by assumption) rfl), List.forall_mem_cons.2 ⟨(FO.same (show lk (St.o _) 4 = some _ from by assumption) rfl), List.forall_mem_cons.2 ⟨(FO.same (show lk (St.o _) 6 = some _ from by assumption) rfl), fun _ hp => (List.not_mem_nil hp).elim⟩⟩⟩
    · cases h
  · cases h
noncomputable def pyxref1_Unit.jl : List (Nat × JDen U) := [(1000, pyxref1_Unit.j1000.J)]
noncomputable def pyxref1_Unit.fl (k : Nat) : List (Nat × FDen U) := [(104, pyxref1_RightDec.D k), (110, pyxref1_goodMode.D k), (68, pyxref1_Sign.D k), (113, pyxref1_Nat2.D k), (114, pyxref1_TenNat.D k), (112, pyxref1_MulNat.D k), (111, pyxref1_Rounded.D k), (58, pyxref1_Make.D k)]
noncomputable def pyxref1_Unit.ll (k : Nat) : List (Nat × LDen U) := []
noncomputable def pyxref1_Unit.E (k : Nat) : Env U := { P := Try.prog, D := DD, fd := lk (pyxref1_Unit.fl k), ld := lk (pyxref1_Unit.ll k), jd := lk pyxref1_Unit.jl, mode := lk [], elc := lk ec, mpc := lk mc, rts := Try.f64.resultTypes.toList, dyn := fun t => false, vecs := fun d => false, results := Try.f64.results.toList, gh := [], own := false, io := fun g i => false }
theorem pyxref1_Unit.ok (k : Nat) : EnvOk (pyxref1_Unit.E k) := envOk lawful (pyxref1_Unit.fl k) (pyxref1_Unit.ll k) pyxref1_Unit.jl _ _ _ _ _ _ _ _ _ _ (by
  intro p hp
  simp only [pyxref1_Unit.fl, List.mem_cons, List.not_mem_nil, or_false] at hp
  rcases hp with rfl | rfl | rfl | rfl | rfl | rfl | rfl | rfl
  · exact ⟨pyxref1_RightDec.sound k, enter_of Try.func104 (by kernel_rfl) (by kernel_rfl)⟩
  · exact ⟨pyxref1_goodMode.sound k, enter_of Try.func110 (by kernel_rfl) (by kernel_rfl)⟩
  · exact ⟨pyxref1_Sign.sound k, enter_of Try.func68 (by kernel_rfl) (by kernel_rfl)⟩
  · exact ⟨pyxref1_Nat2.sound k, enter_of Try.func113 (by kernel_rfl) (by kernel_rfl)⟩
  · exact ⟨pyxref1_TenNat.sound k, enter_of Try.func114 (by kernel_rfl) (by kernel_rfl)⟩
  · exact ⟨pyxref1_MulNat.sound k, enter_of Try.func112 (by kernel_rfl) (by kernel_rfl)⟩
  · exact ⟨pyxref1_Rounded.sound k, enter_of Try.func111 (by kernel_rfl) (by kernel_rfl)⟩
  · exact ⟨pyxref1_Make.sound k, enter_of Try.func58 (by kernel_rfl) (by kernel_rfl)⟩) (by
  intro p hp
  simp only [pyxref1_Unit.jl, List.mem_cons, List.not_mem_nil, or_false] at hp
  rcases hp with rfl
  · exact pyxref1_Unit.j1000.fit)
theorem pyxref1_Unit.eq (k : Nat) (x : (Sapi_Dec × Sapi_Dec × Int)) : runF (pyxref1_Unit.E k) (codeOf Try.f64) (pyxref1_Unit.mk x) pyxref1_Unit.re = (pyxref1_Unit.D k).f x := by kernel_rfl
theorem pyxref1_Unit.fit (s : St U) (x : (Sapi_Dec × Sapi_Dec × Int)) (h : pyxref1_Unit.un s = some x) : Fits s (pyxref1_Unit.mk x) := by
  unfold pyxref1_Unit.un at h
  split at h
  · cases h
    refine fits_ren [] ?_ ?_ ren_nil rfl
    · exact List.forall_mem_cons.2 ⟨FV.one (FV.same (by assumption) rfl), List.forall_mem_cons.2 ⟨FV.one (FV.same (by assumption) rfl), List.forall_mem_cons.2 ⟨FV.one (FV.same (by assumption) rfl), fun _ hp => (List.not_mem_nil hp).elim⟩⟩⟩
    · exact fun _ hp => (List.not_mem_nil hp).elim
  · cases h
theorem pyxref1_Unit.fitR (s : St U) (y : (Sapi_Dec × Int)) (h : pyxref1_Unit.re s = some y) : Fits s (pyxref1_Unit.fin y) := by
  unfold pyxref1_Unit.re at h
  split at h
  · cases h
    refine fits_ren [] ?_ ?_ ren_nil rfl
    · exact List.forall_mem_cons.2 ⟨FV.tup (by assumption) (FTs.cons (FVA.one (FV.same rfl rfl)) (FTs.cons (FVA.one (FV.same rfl rfl)) (FTs.nil))), fun _ hp => (List.not_mem_nil hp).elim⟩
    · exact fun _ hp => (List.not_mem_nil hp).elim
  · cases h
theorem pyxref1_Unit.sound (k : Nat) : Sound Try.prog DD 64 (pyxref1_Unit.D k) :=
  fun_sound (E := pyxref1_Unit.E k) (fn := Try.f64) (c := codeOf Try.f64) (pyxref1_Unit.ok k) mixed rfl Try.func64 (by kernel_rfl) (by kernel_rfl) (allL_of (l := []) (by kernel_rfl) allL_nil) (pyxref1_Unit.D k) pyxref1_Unit.mk pyxref1_Unit.re (by kernel_rfl) (by kernel_rfl) pyxref1_Unit.fit pyxref1_Unit.fitR (pyxref1_Unit.eq k)
/-! ### pyx/gate.New: function 15 -/
noncomputable def gate_New.f (k : Nat)  : Option Sgate_Gate := some (⟨[], ([] : List (Sgate_Key × Int))⟩ : Sgate_Gate)
noncomputable def gate_New.un (s : St U) : Option Unit := some ()
noncomputable def gate_New.mk (x : Unit) : St U := ⟨[], []⟩
noncomputable def gate_New.fin (y : Sgate_Gate) : St U := ⟨[(0, .ptr 3 0)], [(3, .lit [.tip 6000000000001 C.Sgate_Out y.f_l, .mp 6000000000002]), (6000000000001, .tip 11), (6000000000002, .map true true false C.Sgate_Key C.i64 y.f_at)]⟩
noncomputable def gate_New.D (k : Nat) : FDen U := { X := Unit, Y := Sgate_Gate, nt := 4, gh := [], un := gate_New.un, f := fun x => gate_New.f k , fin := gate_New.fin, cl := false, clo := fun h => by cases h }
noncomputable def gate_New.re (s : St U) : Option Sgate_Gate := match s.get 0, lk s.o 3 with | .ptr 3 0, some (.lit [x3, x4]) => (tip_Sgate_Out s.o 11 x3).bind fun ex1 => ((map_Sgate_Key_i64_t s.o x4).bind fun ex2 => (cond (apart [ex1.1, ex2.1]) (some (⟨ex1.2, ex2.2⟩ : Sgate_Gate)) none)) | _, _ => none
noncomputable def gate_New.jl : List (Nat × JDen U) := []
noncomputable def gate_New.fl (k : Nat) : List (Nat × FDen U) := []
noncomputable def gate_New.ll (k : Nat) : List (Nat × LDen U) := []
noncomputable def gate_New.E (k : Nat) : Env U := { P := Try.prog, D := DD, fd := lk (gate_New.fl k), ld := lk (gate_New.ll k), jd := lk gate_New.jl, mode := lk [], elc := lk ec, mpc := lk mc, rts := Try.f15.resultTypes.toList, dyn := fun t => false, vecs := fun d => false, results := Try.f15.results.toList, gh := [], own := false, io := fun g i => false }
theorem gate_New.ok (k : Nat) : EnvOk (gate_New.E k) := envOk lawful (gate_New.fl k) (gate_New.ll k) gate_New.jl _ _ _ _ _ _ _ _ _ _ (by
  intro p hp
  simp [gate_New.fl] at hp) (by
  intro p hp
  simp [gate_New.jl] at hp)
theorem gate_New.eq (k : Nat) (x : Unit) : runF (gate_New.E k) (codeOf Try.f15) (gate_New.mk x) gate_New.re = (gate_New.D k).f x := by kernel_rfl
theorem gate_New.fit (s : St U) (x : Unit) (h : gate_New.un s = some x) : Fits s (gate_New.mk x) := by
  unfold gate_New.un at h
  cases h
  refine fits_ren [] ?_ ?_ ren_nil rfl
  · exact fun _ hp => (List.not_mem_nil hp).elim
  · exact fun _ hp => (List.not_mem_nil hp).elim
theorem gate_New.fitR (s : St U) (y : Sgate_Gate) (h : gate_New.re s = some y) : Fits s (gate_New.fin y) := by
  unfold gate_New.re at h
  split at h
  · obtain ⟨ex1, hex1, hh1⟩ := Option.bind_eq_some_iff.1 h
    obtain ⟨ex2, hex2, hh2⟩ := Option.bind_eq_some_iff.1 hh1
    obtain ⟨hap, hh0⟩ := cond_none hh2
    cases hh0
    refine fits_ren [(6000000000001, ex1.1), (6000000000002, ex2.1)] ?_ ?_ (ren_apart hap) rfl
    · exact List.forall_mem_cons.2 ⟨FV.one (FV.ptr (by assumption)), fun _ hp => (List.not_mem_nil hp).elim⟩
    · exact List.forall_mem_cons.2 ⟨FO.cells (show lk (St.o _) 3 = some _ from by assumption) (FCs.cons ((tip_Sgate_Out_fit hex1 rfl).1) (FCs.cons ((map_Sgate_Key_i64_t_fit hex2 rfl).1) (FCs.nil))), List.forall_mem_cons.2 ⟨(tip_Sgate_Out_fit hex1 rfl).2, List.forall_mem_cons.2 ⟨(map_Sgate_Key_i64_t_fit hex2 rfl).2, fun _ hp => (List.not_mem_nil hp).elim⟩⟩⟩
  · cases h
theorem gate_New.sound (k : Nat) : Sound Try.prog DD 15 (gate_New.D k) :=
  fun_sound (E := gate_New.E k) (fn := Try.f15) (c := codeOf Try.f15) (gate_New.ok k) mixed rfl Try.func15 (by kernel_rfl) (by kernel_rfl) (allL_of (l := []) (by kernel_rfl) allL_nil) (gate_New.D k) gate_New.mk gate_New.re (by kernel_rfl) (by kernel_rfl) gate_New.fit gate_New.fitR (gate_New.eq k)
/-! ### pyx/pyxref1.Within: function 60 -/
noncomputable def pyxref1_Within.f (k : Nat) (a0 : Int) (a1 : Int) (a2 : Int) : Option Int := some (if (if a0 < a2 then a0 else a2) > a1 then (if a0 < a2 then a0 else a2) else a1)
noncomputable def pyxref1_Within.un (s : St U) : Option (Int × Int × Int) := match s.get 0, s.get 1, s.get 2 with | .flat (.int .i64 x1), .flat (.int .i64 x2), .flat (.int .i64 x3) => some (x1, x2, x3) | _, _, _ => none
noncomputable def pyxref1_Within.mk (x : (Int × Int × Int)) : St U := ⟨[(0, .flat (.int .i64 x.1)), (1, .flat (.int .i64 x.2.1)), (2, .flat (.int .i64 x.2.2))], []⟩
noncomputable def pyxref1_Within.fin (y : Int) : St U := ⟨[(0, .flat (.int .i64 y))], []⟩
noncomputable def pyxref1_Within.D (k : Nat) : FDen U := { X := (Int × Int × Int), Y := Int, nt := 12, gh := [], un := pyxref1_Within.un, f := fun x => pyxref1_Within.f k (x.1) (x.2.1) (x.2.2), fin := pyxref1_Within.fin, cl := true, clo := fun _ _ => rfl }
noncomputable def pyxref1_Within.re (s : St U) : Option Int := match s.get 0 with | .flat (.int .i64 x1) => some x1 | _ => none
noncomputable def pyxref1_Within.jl : List (Nat × JDen U) := []
noncomputable def pyxref1_Within.fl (k : Nat) : List (Nat × FDen U) := []
noncomputable def pyxref1_Within.ll (k : Nat) : List (Nat × LDen U) := []
noncomputable def pyxref1_Within.E (k : Nat) : Env U := { P := Try.prog, D := DD, fd := lk (pyxref1_Within.fl k), ld := lk (pyxref1_Within.ll k), jd := lk pyxref1_Within.jl, mode := lk [], elc := lk ec, mpc := lk mc, rts := Try.f60.resultTypes.toList, dyn := fun t => false, vecs := fun d => false, results := Try.f60.results.toList, gh := [], own := false, io := fun g i => false }
theorem pyxref1_Within.ok (k : Nat) : EnvOk (pyxref1_Within.E k) := envOk lawful (pyxref1_Within.fl k) (pyxref1_Within.ll k) pyxref1_Within.jl _ _ _ _ _ _ _ _ _ _ (by
  intro p hp
  simp [pyxref1_Within.fl] at hp) (by
  intro p hp
  simp [pyxref1_Within.jl] at hp)
theorem pyxref1_Within.eq (k : Nat) (x : (Int × Int × Int)) : runF (pyxref1_Within.E k) (codeOf Try.f60) (pyxref1_Within.mk x) pyxref1_Within.re = (pyxref1_Within.D k).f x := by kernel_rfl
theorem pyxref1_Within.fit (s : St U) (x : (Int × Int × Int)) (h : pyxref1_Within.un s = some x) : Fits s (pyxref1_Within.mk x) := by
  unfold pyxref1_Within.un at h
  split at h
  · cases h
    refine fits_ren [] ?_ ?_ ren_nil rfl
    · exact List.forall_mem_cons.2 ⟨FV.one (FV.same (by assumption) rfl), List.forall_mem_cons.2 ⟨FV.one (FV.same (by assumption) rfl), List.forall_mem_cons.2 ⟨FV.one (FV.same (by assumption) rfl), fun _ hp => (List.not_mem_nil hp).elim⟩⟩⟩
    · exact fun _ hp => (List.not_mem_nil hp).elim
  · cases h
theorem pyxref1_Within.fitR (s : St U) (y : Int) (h : pyxref1_Within.re s = some y) : Fits s (pyxref1_Within.fin y) := by
  unfold pyxref1_Within.re at h
  split at h
  · cases h
    refine fits_ren [] ?_ ?_ ren_nil rfl
    · exact List.forall_mem_cons.2 ⟨FV.one (FV.same (by assumption) rfl), fun _ hp => (List.not_mem_nil hp).elim⟩
    · exact fun _ hp => (List.not_mem_nil hp).elim
  · cases h
theorem pyxref1_Within.sound (k : Nat) : Sound Try.prog DD 60 (pyxref1_Within.D k) :=
  fun_sound (E := pyxref1_Within.E k) (fn := Try.f60) (c := codeOf Try.f60) (pyxref1_Within.ok k) mixed rfl Try.func60 (by kernel_rfl) (by kernel_rfl) (allL_of (l := []) (by kernel_rfl) allL_nil) (pyxref1_Within.D k) pyxref1_Within.mk pyxref1_Within.re (by kernel_rfl) (by kernel_rfl) pyxref1_Within.fit pyxref1_Within.fitR (pyxref1_Within.eq k)
/-! ### pyx/pyxref1.Of: function 17 -/
noncomputable def pyxref1_Of.f (k : Nat) (a0 : Int) (a1 : Int) : Option Sapi_Dec := ((cond (decide (a0 < 0)) (some (a1, decide (a0 < 0), IntKind.wrap .u64 (0 - (IntKind.wrap .u64 (a0))), false, 0, 0, 0)) (some (a1, decide (a0 < 0), IntKind.wrap .u64 (a0), false, 0, 0, 0))) : Option (Int × Bool × Int × Bool × Int × Int × Int)).bind fun y8 => ((pyxref1_Word.f k y8.2.2.1).bind fun t9 => ((pyxref1_Within.f k y8.1 0 9).bind fun t10 => ((pyxref1_Make.f k y8.2.1 t9 t10).bind fun t11 => (some (⟨t11.1.f_Neg, (t11.1.f_C.1, t11.1.f_C.2), t11.1.f_Scale⟩ : Sapi_Dec)))))
noncomputable def pyxref1_Of.un (s : St U) : Option (Int × Int) := match s.get 0, s.get 1 with | .flat (.int .i64 x1), .flat (.int .i64 x2) => some (x1, x2) | _, _ => none
noncomputable def pyxref1_Of.mk (x : (Int × Int)) : St U := ⟨[(0, .flat (.int .i64 x.1)), (1, .flat (.int .i64 x.2))], []⟩
noncomputable def pyxref1_Of.fin (y : Sapi_Dec) : St U := ⟨[(0, .agg [.flat (.bool y.f_Neg), .flat (.int .u64 y.f_C.1), .flat (.int .u64 y.f_C.2), .flat (.int .i64 y.f_Scale)])], []⟩
noncomputable def pyxref1_Of.D (k : Nat) : FDen U := { X := (Int × Int), Y := Sapi_Dec, nt := 26, gh := [], un := pyxref1_Of.un, f := fun x => pyxref1_Of.f k (x.1) (x.2), fin := pyxref1_Of.fin, cl := true, clo := fun _ _ => rfl }
noncomputable def pyxref1_Of.re (s : St U) : Option Sapi_Dec := match s.get 0 with | .agg [.flat (.bool x1), .flat (.int .u64 x2), .flat (.int .u64 x3), .flat (.int .i64 x4)] => some (⟨x1, (x2, x3), x4⟩ : Sapi_Dec) | _ => none
noncomputable def pyxref1_Of.j4001.fin (y : (Int × Bool × Int × Bool × Int × Int × Int)) : Out U := match y with | (x1, x6, x7, x2, x3, x4, x5) => .norm ⟨[(4, .ptr 4 0), (1, .flat (.int .i64 x1)), (5, .flat (.bool x6)), (6, .flat (.int .u64 x7))], [(4, .lit [.flat (.bool x2), .flat (.int .u64 x3), .flat (.int .u64 x4), .flat (.int .i64 x5)])]⟩
noncomputable def pyxref1_Of.j4001.finK {ρ : Type} (y : (Int × Bool × Int × Bool × Int × Int × Int)) (K : Out U → Option ρ) : Option ρ := match y with | (x1, x6, x7, x2, x3, x4, x5) => K (.norm ⟨[(4, .ptr 4 0), (1, .flat (.int .i64 x1)), (5, .flat (.bool x6)), (6, .flat (.int .u64 x7))], [(4, .lit [.flat (.bool x2), .flat (.int .u64 x3), .flat (.int .u64 x4), .flat (.int .i64 x5)])]⟩)
theorem pyxref1_Of.j4001.finK_eq {ρ : Type} (y : (Int × Bool × Int × Bool × Int × Int × Int)) (K : Out U → Option ρ) : pyxref1_Of.j4001.finK y K = K (pyxref1_Of.j4001.fin y) := by
  unfold pyxref1_Of.j4001.finK pyxref1_Of.j4001.fin
  first | rfl | (split <;> rfl)
noncomputable def pyxref1_Of.j4001.re : Out U → Option ((Int × Bool × Int × Bool × Int × Int × Int)) | .norm s => (match s.get 4, s.get 1, s.get 5, s.get 6, lk s.o 4 with | .ptr 4 0, .flat (.int .i64 x1), .flat (.bool x6), .flat (.int .u64 x7), some (.lit [.flat (.bool x2), .flat (.int .u64 x3), .flat (.int .u64 x4), .flat (.int .i64 x5)]) => some (x1, x6, x7, x2, x3, x4, x5) | _, _, _, _, _ => none) | _ => none
noncomputable def pyxref1_Of.j4001.J : JDen U := { Y := (Int × Bool × Int × Bool × Int × Int × Int), re := pyxref1_Of.j4001.re, fin := pyxref1_Of.j4001.fin, finK := pyxref1_Of.j4001.finK, finK_eq := pyxref1_Of.j4001.finK_eq }
theorem pyxref1_Of.j4001.fit (o : Out U) (y : (Int × Bool × Int × Bool × Int × Int × Int)) (h : pyxref1_Of.j4001.re o = some y) : FitsO o (pyxref1_Of.j4001.fin y) := by
  unfold pyxref1_Of.j4001.re at h
  split at h
  · split at h
    · cases h
      refine fitsO_norm (fits_ren [] ?_ ?_ ren_nil rfl)
      · exact List.forall_mem_cons.2 ⟨FV.one (FV.ptr (by assumption)), List.forall_mem_cons.2 ⟨FV.one (FV.same (by assumption) rfl), List.forall_mem_cons.2 ⟨FV.one (FV.same (by assumption) rfl), List.forall_mem_cons.2 ⟨FV.one (FV.same (by assumption) rfl), fun _ hp => (List.not_mem_nil hp).elim⟩⟩⟩⟩
      · exact List.forall_mem_cons.2 ⟨(FO.same (show lk (St.o _) 4 = some _ from by assumption) rfl), fun _ hp => (List.not_mem_nil hp).elim⟩
    · cases h
  · cases h
noncomputable def pyxref1_Of.jl : List (Nat × JDen U) := [(4001, pyxref1_Of.j4001.J)]
noncomputable def pyxref1_Of.fl (k : Nat) : List (Nat × FDen U) := [(59, pyxref1_Word.D k), (60, pyxref1_Within.D k), (58, pyxref1_Make.D k)]
noncomputable def pyxref1_Of.ll (k : Nat) : List (Nat × LDen U) := []
noncomputable def pyxref1_Of.E (k : Nat) : Env U := { P := Try.prog, D := DD, fd := lk (pyxref1_Of.fl k), ld := lk (pyxref1_Of.ll k), jd := lk pyxref1_Of.jl, mode := lk [], elc := lk ec, mpc := lk mc, rts := Try.f17.resultTypes.toList, dyn := fun t => false, vecs := fun d => false, results := Try.f17.results.toList, gh := [], own := false, io := fun g i => false }
theorem pyxref1_Of.ok (k : Nat) : EnvOk (pyxref1_Of.E k) := envOk lawful (pyxref1_Of.fl k) (pyxref1_Of.ll k) pyxref1_Of.jl _ _ _ _ _ _ _ _ _ _ (by
  intro p hp
  simp only [pyxref1_Of.fl, List.mem_cons, List.not_mem_nil, or_false] at hp
  rcases hp with rfl | rfl | rfl
  · exact ⟨pyxref1_Word.sound k, enter_of Try.func59 (by kernel_rfl) (by kernel_rfl)⟩
  · exact ⟨pyxref1_Within.sound k, enter_of Try.func60 (by kernel_rfl) (by kernel_rfl)⟩
  · exact ⟨pyxref1_Make.sound k, enter_of Try.func58 (by kernel_rfl) (by kernel_rfl)⟩) (by
  intro p hp
  simp only [pyxref1_Of.jl, List.mem_cons, List.not_mem_nil, or_false] at hp
  rcases hp with rfl
  · exact pyxref1_Of.j4001.fit)
theorem pyxref1_Of.eq (k : Nat) (x : (Int × Int)) : runF (pyxref1_Of.E k) (codeOf Try.f17) (pyxref1_Of.mk x) pyxref1_Of.re = (pyxref1_Of.D k).f x := by kernel_rfl
theorem pyxref1_Of.fit (s : St U) (x : (Int × Int)) (h : pyxref1_Of.un s = some x) : Fits s (pyxref1_Of.mk x) := by
  unfold pyxref1_Of.un at h
  split at h
  · cases h
    refine fits_ren [] ?_ ?_ ren_nil rfl
    · exact List.forall_mem_cons.2 ⟨FV.one (FV.same (by assumption) rfl), List.forall_mem_cons.2 ⟨FV.one (FV.same (by assumption) rfl), fun _ hp => (List.not_mem_nil hp).elim⟩⟩
    · exact fun _ hp => (List.not_mem_nil hp).elim
  · cases h
theorem pyxref1_Of.fitR (s : St U) (y : Sapi_Dec) (h : pyxref1_Of.re s = some y) : Fits s (pyxref1_Of.fin y) := by
  unfold pyxref1_Of.re at h
  split at h
  · cases h
    refine fits_ren [] ?_ ?_ ren_nil rfl
    · exact List.forall_mem_cons.2 ⟨FV.one (FV.same (by assumption) rfl), fun _ hp => (List.not_mem_nil hp).elim⟩
    · exact fun _ hp => (List.not_mem_nil hp).elim
  · cases h
theorem pyxref1_Of.sound (k : Nat) : Sound Try.prog DD 17 (pyxref1_Of.D k) :=
  fun_sound (E := pyxref1_Of.E k) (fn := Try.f17) (c := codeOf Try.f17) (pyxref1_Of.ok k) mixed rfl Try.func17 (by kernel_rfl) (by kernel_rfl) (allL_of (l := []) (by kernel_rfl) allL_nil) (pyxref1_Of.D k) pyxref1_Of.mk pyxref1_Of.re (by kernel_rfl) (by kernel_rfl) pyxref1_Of.fit pyxref1_Of.fitR (pyxref1_Of.eq k)
/-! ### pyx/quant.right: function 140 -/
noncomputable def quant_right.l2.once (k : Nat) (x : (Int × Int × List Sapi_Dec × Int × Int)) : Option ((Int × Int × List Sapi_Dec × Int × Int) ⊕ ((Int × Int) ⊕ Bool)) := match x with | (x1, x2, x3, x4, x5) => cond (decide (x5 < x4)) (cond (inb x5 (List.length x3)) ((dec_Right.f k (⟨(List.getD x3 (Int.toNat x5) Sapi_Dec.zero).f_Neg, (((List.getD x3 (Int.toNat x5) Sapi_Dec.zero).f_C).1, ((List.getD x3 (Int.toNat x5) Sapi_Dec.zero).f_C).2), (List.getD x3 (Int.toNat x5) Sapi_Dec.zero).f_Scale⟩ : Sapi_Dec)).bind fun t6 => (cond (!t6) (some (.inr (.inr false))) (some (.inl (x1, x2, x3, x4, IntKind.wrap .i64 (x5 + 1)))))) none) (some (.inr (.inl (x1, x2))))
noncomputable def quant_right.f (k : Nat) (a0 : Int) (a1 : Int) (a2 : List Sapi_Dec) : Option Bool := (iter (quant_right.l2.once k) k (a0, a1, a2, (List.length a2 : Int), 0)).bind fun | .inl y10 => (cond (decide (y10.1 ≥ 0)) (cond (decide (y10.1 ≤ 9)) (cond (decide (y10.2 ≥ 0)) (some (decide (y10.2 ≤ 4))) (some false)) (some false)) (some false)) | .inr y11 => (some y11)
noncomputable def quant_right.un (s : St U) : Option (Int × Int × List Sapi_Dec) := match s.get 0, s.get 1, s.get 2 with | .flat (.int .i64 x1), .flat (.int .i64 x2), .row C.Sapi_Dec x3 => some (x1, x2, x3) | _, _, _ => none
noncomputable def quant_right.mk (x : (Int × Int × List Sapi_Dec)) : St U := ⟨[(0, .flat (.int .i64 x.1)), (1, .flat (.int .i64 x.2.1)), (2, .row C.Sapi_Dec x.2.2)], []⟩
noncomputable def quant_right.fin (y : Bool) : St U := ⟨[(0, .flat (.bool y))], []⟩
noncomputable def quant_right.D (k : Nat) : FDen U := { X := (Int × Int × List Sapi_Dec), Y := Bool, nt := 33, gh := [], un := quant_right.un, f := fun x => quant_right.f k (x.1) (x.2.1) (x.2.2), fin := quant_right.fin, cl := true, clo := fun _ _ => rfl }
noncomputable def quant_right.re (s : St U) : Option Bool := match s.get 0 with | .flat (.bool x1) => some x1 | _ => none
noncomputable def quant_right.l2.mk (x : (Int × Int × List Sapi_Dec × Int × Int)) : St U := match x with | (x1, x2, x3, x4, x5) => ⟨[(0, .flat (.int .i64 x1)), (1, .flat (.int .i64 x2)), (9, .row C.Sapi_Dec x3), (10, .flat (.int .i64 x4)), (11, .flat (.int .i64 x5))], []⟩
noncomputable def quant_right.l2.un (s : St U) : Option (Int × Int × List Sapi_Dec × Int × Int) := (row_Sapi_Dec (s.get 9)).bind fun q0 => (match s.get 0, s.get 1, s.get 10, s.get 11 with | .flat (.int .i64 x1), .flat (.int .i64 x2), .flat (.int .i64 x4), .flat (.int .i64 x5) => some (x1, x2, q0, x4, x5) | _, _, _, _ => none)
noncomputable def quant_right.l2.fin (y : (Int × Int) ⊕ Bool) : Out U := match y with | .inl (x7, x8) => .exit 0 ⟨[(0, .flat (.int .i64 x7)), (1, .flat (.int .i64 x8))], []⟩ | .inr z => .ret (⟨[(0, .flat (.bool z))], []⟩)
noncomputable def quant_right.l2.finK {ρ : Type} (y : (Int × Int) ⊕ Bool) (K : Out U → Option ρ) : Option ρ := match y with | .inl (x7, x8) => K (.exit 0 ⟨[(0, .flat (.int .i64 x7)), (1, .flat (.int .i64 x8))], []⟩) | .inr z => K (.ret (⟨[(0, .flat (.bool z))], []⟩))
theorem quant_right.l2.finK_eq {ρ : Type} (y : (Int × Int) ⊕ Bool) (K : Out U → Option ρ) : quant_right.l2.finK y K = K (quant_right.l2.fin y) := by
  unfold quant_right.l2.finK quant_right.l2.fin
  first | rfl | (split <;> rfl)
noncomputable def quant_right.l2.re : Out U → Option ((Int × Int) ⊕ Bool) | .exit 0 s => (match s.get 0, s.get 1 with | .flat (.int .i64 x7), .flat (.int .i64 x8) => some (.inl (x7, x8)) | _, _ => none) | .ret s => (match s.get 0 with | .flat (.bool x1) => some (.inr x1) | _ => none) | _ => none
noncomputable def quant_right.l2.L (k : Nat) : LDen U := { X := (Int × Int × List Sapi_Dec × Int × Int), Y := (Int × Int) ⊕ Bool, un := quant_right.l2.un, f := iter (quant_right.l2.once k) k, fin := quant_right.l2.fin, finK := quant_right.l2.finK, finK_eq := quant_right.l2.finK_eq }
noncomputable def quant_right.jl : List (Nat × JDen U) := []
noncomputable def quant_right.fl (k : Nat) : List (Nat × FDen U) := [(82, dec_Right.D k)]
noncomputable def quant_right.ll (k : Nat) : List (Nat × LDen U) := [(2, quant_right.l2.L k)]
noncomputable def quant_right.E (k : Nat) : Env U := { P := Try.prog, D := DD, fd := lk (quant_right.fl k), ld := lk (quant_right.ll k), jd := lk quant_right.jl, mode := lk [], elc := lk ec, mpc := lk mc, rts := Try.f140.resultTypes.toList, dyn := fun t => false, vecs := fun d => false, results := Try.f140.results.toList, gh := [], own := false, io := fun g i => false }
theorem quant_right.ok (k : Nat) : EnvOk (quant_right.E k) := envOk lawful (quant_right.fl k) (quant_right.ll k) quant_right.jl _ _ _ _ _ _ _ _ _ _ (by
  intro p hp
  simp only [quant_right.fl, List.mem_cons, List.not_mem_nil, or_false] at hp
  rcases hp with rfl
  · exact ⟨dec_Right.sound k, enter_of Try.func82 (by kernel_rfl) (by kernel_rfl)⟩) (by
  intro p hp
  simp [quant_right.jl] at hp)
theorem quant_right.l2.eq (k : Nat) (x : (Int × Int × List Sapi_Dec × Int × Int)) : evC (quant_right.E k) (loopAt Try.f140 2) (quant_right.l2.mk x) (headK quant_right.l2.un quant_right.l2.re) = quant_right.l2.once k x := by kernel_rfl
theorem quant_right.l2.fit (s : St U) (x : (Int × Int × List Sapi_Dec × Int × Int)) (h : quant_right.l2.un s = some x) : Fits s (quant_right.l2.mk x) := by
  unfold quant_right.l2.un at h
  obtain ⟨q0, eq0, h1⟩ := Option.bind_eq_some_iff.1 h
  split at h1
  · cases h1
    refine fits_ren [] ?_ ?_ ren_nil rfl
    · exact List.forall_mem_cons.2 ⟨FV.one (FV.same (by assumption) rfl), List.forall_mem_cons.2 ⟨FV.one (FV.same (by assumption) rfl), List.forall_mem_cons.2 ⟨FV.one (row_Sapi_Dec_fit eq0), List.forall_mem_cons.2 ⟨FV.one (FV.same (by assumption) rfl), List.forall_mem_cons.2 ⟨FV.one (FV.same (by assumption) rfl), fun _ hp => (List.not_mem_nil hp).elim⟩⟩⟩⟩⟩
    · exact fun _ hp => (List.not_mem_nil hp).elim
  · cases h1
theorem quant_right.l2.fitO (o : Out U) (y : (Int × Int) ⊕ Bool) (h : quant_right.l2.re o = some y) : FitsO o (quant_right.l2.fin y) := by
  unfold quant_right.l2.re at h
  split at h
  · split at h
    · cases h
      refine fitsO_exit (fits_ren [] ?_ ?_ ren_nil rfl)
      · exact List.forall_mem_cons.2 ⟨FV.one (FV.same (by assumption) rfl), List.forall_mem_cons.2 ⟨FV.one (FV.same (by assumption) rfl), fun _ hp => (List.not_mem_nil hp).elim⟩⟩
      · exact fun _ hp => (List.not_mem_nil hp).elim
    · cases h
  · split at h
    · cases h
      refine fitsO_ret (fits_ren [] ?_ ?_ ren_nil rfl)
      · exact List.forall_mem_cons.2 ⟨FV.one (FV.same (by assumption) rfl), fun _ hp => (List.not_mem_nil hp).elim⟩
      · exact fun _ hp => (List.not_mem_nil hp).elim
    · cases h
  · cases h
theorem quant_right.l2.sound (k : Nat) : LSound (quant_right.E k) Try.f140.ntmps Try.f140 (loopAt Try.f140 2) (quant_right.l2.L k) :=
  loop_sound (quant_right.ok k) mixed rfl (by kernel_rfl) (allL_of (l := []) (by kernel_rfl) allL_nil) quant_right.l2.un quant_right.l2.mk quant_right.l2.fin quant_right.l2.re (quant_right.l2.once k) k quant_right.l2.fit quant_right.l2.fitO (quant_right.l2.eq k) quant_right.l2.finK quant_right.l2.finK_eq
theorem quant_right.eq (k : Nat) (x : (Int × Int × List Sapi_Dec)) : runF (quant_right.E k) (codeOf Try.f140) (quant_right.mk x) quant_right.re = (quant_right.D k).f x := by kernel_rfl
theorem quant_right.fit (s : St U) (x : (Int × Int × List Sapi_Dec)) (h : quant_right.un s = some x) : Fits s (quant_right.mk x) := by
  unfold quant_right.un at h
  split at h
  · cases h
    refine fits_ren [] ?_ ?_ ren_nil rfl
    · exact List.forall_mem_cons.2 ⟨FV.one (FV.same (by assumption) rfl), List.forall_mem_cons.2 ⟨FV.one (FV.same (by assumption) rfl), List.forall_mem_cons.2 ⟨FV.one (FV.same (by assumption) rfl), fun _ hp => (List.not_mem_nil hp).elim⟩⟩⟩
    · exact fun _ hp => (List.not_mem_nil hp).elim
  · cases h
theorem quant_right.fitR (s : St U) (y : Bool) (h : quant_right.re s = some y) : Fits s (quant_right.fin y) := by
  unfold quant_right.re at h
  split at h
  · cases h
    refine fits_ren [] ?_ ?_ ren_nil rfl
    · exact List.forall_mem_cons.2 ⟨FV.one (FV.same (by assumption) rfl), fun _ hp => (List.not_mem_nil hp).elim⟩
    · exact fun _ hp => (List.not_mem_nil hp).elim
  · cases h
theorem quant_right.sound (k : Nat) : Sound Try.prog DD 140 (quant_right.D k) :=
  fun_sound (E := quant_right.E k) (fn := Try.f140) (c := codeOf Try.f140) (quant_right.ok k) mixed rfl Try.func140 (by kernel_rfl) (by kernel_rfl) (allL_of (l := [loopAt Try.f140 2]) (by kernel_rfl) (allL_cons (key := 2) (by kernel_rfl) rfl (quant_right.l2.sound k) allL_nil)) (quant_right.D k) quant_right.mk quant_right.re (by kernel_rfl) (by kernel_rfl) quant_right.fit quant_right.fitR (quant_right.eq k)
/-! ### pyx/quant.ten: function 142 -/
noncomputable def quant_ten.f (k : Nat) (a0 : Int) : Option (Int × Int) := (limb_Ten.f k a0).bind fun t1 => (some (t1.1.1, t1.1.2))
noncomputable def quant_ten.un (s : St U) : Option Int := match s.get 0 with | .flat (.int .i64 x1) => some x1 | _ => none
noncomputable def quant_ten.mk (x : Int) : St U := ⟨[(0, .flat (.int .i64 x))], []⟩
noncomputable def quant_ten.fin (y : (Int × Int)) : St U := ⟨[(0, .agg [.flat (.int .u64 y.1), .flat (.int .u64 y.2)])], []⟩
noncomputable def quant_ten.D (k : Nat) : FDen U := { X := Int, Y := (Int × Int), nt := 11, gh := [], un := quant_ten.un, f := fun x => quant_ten.f k (x), fin := quant_ten.fin, cl := true, clo := fun _ _ => rfl }
noncomputable def quant_ten.re (s : St U) : Option (Int × Int) := match s.get 0 with | .agg [.flat (.int .u64 x1), .flat (.int .u64 x2)] => some (x1, x2) | _ => none
noncomputable def quant_ten.jl : List (Nat × JDen U) := []
noncomputable def quant_ten.fl (k : Nat) : List (Nat × FDen U) := [(150, limb_Ten.D k)]
noncomputable def quant_ten.ll (k : Nat) : List (Nat × LDen U) := []
noncomputable def quant_ten.E (k : Nat) : Env U := { P := Try.prog, D := DD, fd := lk (quant_ten.fl k), ld := lk (quant_ten.ll k), jd := lk quant_ten.jl, mode := lk [], elc := lk ec, mpc := lk mc, rts := Try.f142.resultTypes.toList, dyn := fun t => false, vecs := fun d => false, results := Try.f142.results.toList, gh := [], own := false, io := fun g i => false }
theorem quant_ten.ok (k : Nat) : EnvOk (quant_ten.E k) := envOk lawful (quant_ten.fl k) (quant_ten.ll k) quant_ten.jl _ _ _ _ _ _ _ _ _ _ (by
  intro p hp
  simp only [quant_ten.fl, List.mem_cons, List.not_mem_nil, or_false] at hp
  rcases hp with rfl
  · exact ⟨limb_Ten.sound k, enter_of Try.func150 (by kernel_rfl) (by kernel_rfl)⟩) (by
  intro p hp
  simp [quant_ten.jl] at hp)
theorem quant_ten.eq (k : Nat) (x : Int) : runF (quant_ten.E k) (codeOf Try.f142) (quant_ten.mk x) quant_ten.re = (quant_ten.D k).f x := by kernel_rfl
theorem quant_ten.fit (s : St U) (x : Int) (h : quant_ten.un s = some x) : Fits s (quant_ten.mk x) := by
  unfold quant_ten.un at h
  split at h
  · cases h
    refine fits_ren [] ?_ ?_ ren_nil rfl
    · exact List.forall_mem_cons.2 ⟨FV.one (FV.same (by assumption) rfl), fun _ hp => (List.not_mem_nil hp).elim⟩
    · exact fun _ hp => (List.not_mem_nil hp).elim
  · cases h
theorem quant_ten.fitR (s : St U) (y : (Int × Int)) (h : quant_ten.re s = some y) : Fits s (quant_ten.fin y) := by
  unfold quant_ten.re at h
  split at h
  · cases h
    refine fits_ren [] ?_ ?_ ren_nil rfl
    · exact List.forall_mem_cons.2 ⟨FV.one (FV.same (by assumption) rfl), fun _ hp => (List.not_mem_nil hp).elim⟩
    · exact fun _ hp => (List.not_mem_nil hp).elim
  · cases h
theorem quant_ten.sound (k : Nat) : Sound Try.prog DD 142 (quant_ten.D k) :=
  fun_sound (E := quant_ten.E k) (fn := Try.f142) (c := codeOf Try.f142) (quant_ten.ok k) mixed rfl Try.func142 (by kernel_rfl) (by kernel_rfl) (allL_of (l := []) (by kernel_rfl) allL_nil) (quant_ten.D k) quant_ten.mk quant_ten.re (by kernel_rfl) (by kernel_rfl) quant_ten.fit quant_ten.fitR (quant_ten.eq k)
/-! ### pyx/limb.Div: function 156 -/
noncomputable def limb_Div.l4.once (k : Nat) (x : (Int × List Int × Int × Int × List Int × Int × Int)) : Option ((Int × List Int × Int × Int × List Int × Int × Int) ⊕ ((List Int × Int × Int))) := match x with | (x7, x1, x2, x3, x4, x5, x6) => cond (decide (x7 ≥ 0)) (((cond (inb (IntKind.wrap .i64 (Int.tdiv x7 64)) 4) (cond (Nat.blt (Int.toNat (IntKind.wrap .i64 (Int.tdiv x7 64))) 4) (cond (decide (Int.tmod x7 64 < 0)) none (((cond (decide ((Int.fdiv x6 (2 ^ 63)) > 0)) (some (x7, true, x1, x2, x3, x4, bits .or .u64 (IntKind.wrap .u64 (x5 * 2 ^ 1)) (bits .and .u64 (Int.fdiv (List.getD x1 (Int.toNat (IntKind.wrap .i64 (Int.tdiv x7 64))) 0) (2 ^ (min (Int.toNat (Int.tmod x7 64)) 64))) 1), bits .or .u64 (IntKind.wrap .u64 (x6 * 2 ^ 1)) (Int.fdiv x5 (2 ^ 63)))) ((limb_Cmp.f k (bits .or .u64 (IntKind.wrap .u64 (x5 * 2 ^ 1)) (bits .and .u64 (Int.fdiv (List.getD x1 (Int.toNat (IntKind.wrap .i64 (Int.tdiv x7 64))) 0) (2 ^ (min (Int.toNat (Int.tmod x7 64)) 64))) 1), bits .or .u64 (IntKind.wrap .u64 (x6 * 2 ^ 1)) (Int.fdiv x5 (2 ^ 63))) (x2, x3)).bind fun t16 => (some (x7, decide (t16 ≥ 0), x1, x2, x3, x4, bits .or .u64 (IntKind.wrap .u64 (x5 * 2 ^ 1)) (bits .and .u64 (Int.fdiv (List.getD x1 (Int.toNat (IntKind.wrap .i64 (Int.tdiv x7 64))) 0) (2 ^ (min (Int.toNat (Int.tmod x7 64)) 64))) 1), bits .or .u64 (IntKind.wrap .u64 (x6 * 2 ^ 1)) (Int.fdiv x5 (2 ^ 63)))))) : Option (Int × Bool × List Int × Int × Int × List Int × Int × Int)).bind fun y17 => (cond (y17.2.1) ((limb_less.f k y17.2.2.2.2.2.2.1 y17.2.2.2.1 0).bind fun t18 => ((limb_less.f k y17.2.2.2.2.2.2.2 y17.2.2.2.2.1 t18.2).bind fun t19 => (cond (inb (IntKind.wrap .i64 (Int.tdiv y17.1 64)) 4) (cond (Nat.blt (Int.toNat (IntKind.wrap .i64 (Int.tdiv y17.1 64))) 4) (cond (decide (Int.tmod y17.1 64 < 0)) none (cond (inb (IntKind.wrap .i64 (Int.tdiv y17.1 64)) 4) (cond (Nat.blt (Int.toNat (IntKind.wrap .i64 (Int.tdiv y17.1 64))) 4) (some (y17.1, y17.2.2.1, y17.2.2.2.1, y17.2.2.2.2.1, List.set y17.2.2.2.2.2.1 (Int.toNat (IntKind.wrap .i64 (Int.tdiv y17.1 64))) (bits .or .u64 (List.getD y17.2.2.2.2.2.1 (Int.toNat (IntKind.wrap .i64 (Int.tdiv y17.1 64))) 0) (IntKind.wrap .u64 (1 * 2 ^ (min (Int.toNat (Int.tmod y17.1 64)) 64)))), t18.1, t19.1)) none) none)) none) none))) (some (y17.1, y17.2.2.1, y17.2.2.2.1, y17.2.2.2.2.1, y17.2.2.2.2.2.1, y17.2.2.2.2.2.2.1, y17.2.2.2.2.2.2.2))))) none) none) : Option (Int × List Int × Int × Int × List Int × Int × Int)).bind fun y27 => (some (.inl (IntKind.wrap .i64 (y27.1 - 1), y27.2.1, y27.2.2.1, y27.2.2.2.1, y27.2.2.2.2.1, y27.2.2.2.2.2.1, y27.2.2.2.2.2.2)))) (some (.inr (x4, x5, x6)))
noncomputable def limb_Div.f (k : Nat) (a0 : (Int × Int × Int × Int)) (a1 : (Int × Int)) : Option ((Int × Int × Int × Int) × (Int × Int) × Bool) := cond ((a1.1 == 0) && (a1.2 == 0)) (some ((List.getD [List.getD [0, 0, 0, 0] 0 0, List.getD [0, 0, 0, 0] 1 0, List.getD [0, 0, 0, 0] 2 0, List.getD [0, 0, 0, 0] 3 0] 0 0, List.getD [List.getD [0, 0, 0, 0] 0 0, List.getD [0, 0, 0, 0] 1 0, List.getD [0, 0, 0, 0] 2 0, List.getD [0, 0, 0, 0] 3 0] 1 0, List.getD [List.getD [0, 0, 0, 0] 0 0, List.getD [0, 0, 0, 0] 1 0, List.getD [0, 0, 0, 0] 2 0, List.getD [0, 0, 0, 0] 3 0] 2 0, List.getD [List.getD [0, 0, 0, 0] 0 0, List.getD [0, 0, 0, 0] 1 0, List.getD [0, 0, 0, 0] 2 0, List.getD [0, 0, 0, 0] 3 0] 3 0), (0, 0), false)) ((iter (limb_Div.l4.once k) k (255, [a0.1, a0.2.1, a0.2.2.1, a0.2.2.2], a1.1, a1.2, [0, 0, 0, 0], 0, 0)).bind fun y31 => (some ((List.getD [List.getD y31.1 0 0, List.getD y31.1 1 0, List.getD y31.1 2 0, List.getD y31.1 3 0] 0 0, List.getD [List.getD y31.1 0 0, List.getD y31.1 1 0, List.getD y31.1 2 0, List.getD y31.1 3 0] 1 0, List.getD [List.getD y31.1 0 0, List.getD y31.1 1 0, List.getD y31.1 2 0, List.getD y31.1 3 0] 2 0, List.getD [List.getD y31.1 0 0, List.getD y31.1 1 0, List.getD y31.1 2 0, List.getD y31.1 3 0] 3 0), (y31.2.1, y31.2.2), true)))
noncomputable def limb_Div.un (s : St U) : Option ((Int × Int × Int × Int) × (Int × Int)) := match s.get 0, s.get 1 with | .agg [.flat (.int .u64 x1), .flat (.int .u64 x2), .flat (.int .u64 x3), .flat (.int .u64 x4)], .agg [.flat (.int .u64 x5), .flat (.int .u64 x6)] => some ((x1, x2, x3, x4), (x5, x6)) | _, _ => none
noncomputable def limb_Div.mk (x : ((Int × Int × Int × Int) × (Int × Int))) : St U := ⟨[(0, .agg [.flat (.int .u64 x.1.1), .flat (.int .u64 x.1.2.1), .flat (.int .u64 x.1.2.2.1), .flat (.int .u64 x.1.2.2.2)]), (1, .agg [.flat (.int .u64 x.2.1), .flat (.int .u64 x.2.2)])], []⟩
noncomputable def limb_Div.fin (y : ((Int × Int × Int × Int) × (Int × Int) × Bool)) : St U := ⟨[(0, .tup [.agg [.flat (.int .u64 y.1.1), .flat (.int .u64 y.1.2.1), .flat (.int .u64 y.1.2.2.1), .flat (.int .u64 y.1.2.2.2)], .agg [.flat (.int .u64 y.2.1.1), .flat (.int .u64 y.2.1.2)], .flat (.bool y.2.2)])], []⟩
noncomputable def limb_Div.D (k : Nat) : FDen U := { X := ((Int × Int × Int × Int) × (Int × Int)), Y := ((Int × Int × Int × Int) × (Int × Int) × Bool), nt := 85, gh := [], un := limb_Div.un, f := fun x => limb_Div.f k (x.1) (x.2), fin := limb_Div.fin, cl := true, clo := fun _ _ => rfl }
noncomputable def limb_Div.re (s : St U) : Option ((Int × Int × Int × Int) × (Int × Int) × Bool) := match s.get 0 with | .tup [.agg [.flat (.int .u64 x1), .flat (.int .u64 x2), .flat (.int .u64 x3), .flat (.int .u64 x4)], .agg [.flat (.int .u64 x5), .flat (.int .u64 x6)], .flat (.bool x7)] => some ((x1, x2, x3, x4), (x5, x6), x7) | _ => none
noncomputable def limb_Div.l4.mk (x : (Int × List Int × Int × Int × List Int × Int × Int)) : St U := match x with | (x7, x1, x2, x3, x4, x5, x6) => ⟨[(2, .ptr 2 0), (3, .ptr 3 0), (4, .ptr 4 0), (5, .ptr 5 0), (7, .flat (.int .i64 x7))], [(2, .arr 4 C.u64 x1), (3, .lit [.flat (.int .u64 x2), .flat (.int .u64 x3)]), (4, .arr 4 C.u64 x4), (5, .lit [.flat (.int .u64 x5), .flat (.int .u64 x6)])]⟩
noncomputable def limb_Div.l4.un (s : St U) : Option (Int × List Int × Int × Int × List Int × Int × Int) := match s.get 2, s.get 3, s.get 4, s.get 5, s.get 7, lk s.o 2, lk s.o 3, lk s.o 4, lk s.o 5 with | .ptr 2 0, .ptr 3 0, .ptr 4 0, .ptr 5 0, .flat (.int .i64 x7), some (.arr 4 C.u64 x1), some (.lit [.flat (.int .u64 x2), .flat (.int .u64 x3)]), some (.arr 4 C.u64 x4), some (.lit [.flat (.int .u64 x5), .flat (.int .u64 x6)]) => some (x7, x1, x2, x3, x4, x5, x6) | _, _, _, _, _, _, _, _, _ => none
noncomputable def limb_Div.l4.fin (y : (List Int × Int × Int)) : Out U := match y with | (x28, x29, x30) => .exit 0 ⟨[(4, .ptr 4 0), (5, .ptr 5 0)], [(4, .arr 4 C.u64 x28), (5, .lit [.flat (.int .u64 x29), .flat (.int .u64 x30)])]⟩
noncomputable def limb_Div.l4.finK {ρ : Type} (y : (List Int × Int × Int)) (K : Out U → Option ρ) : Option ρ := match y with | (x28, x29, x30) => K (.exit 0 ⟨[(4, .ptr 4 0), (5, .ptr 5 0)], [(4, .arr 4 C.u64 x28), (5, .lit [.flat (.int .u64 x29), .flat (.int .u64 x30)])]⟩)
theorem limb_Div.l4.finK_eq {ρ : Type} (y : (List Int × Int × Int)) (K : Out U → Option ρ) : limb_Div.l4.finK y K = K (limb_Div.l4.fin y) := by
  unfold limb_Div.l4.finK limb_Div.l4.fin
  first | rfl | (split <;> rfl)
noncomputable def limb_Div.l4.re : Out U → Option ((List Int × Int × Int)) | .exit 0 s => (match s.get 4, s.get 5, lk s.o 4, lk s.o 5 with | .ptr 4 0, .ptr 5 0, some (.arr 4 C.u64 x28), some (.lit [.flat (.int .u64 x29), .flat (.int .u64 x30)]) => some (x28, x29, x30) | _, _, _, _ => none) | _ => none
noncomputable def limb_Div.l4.L (k : Nat) : LDen U := { X := (Int × List Int × Int × Int × List Int × Int × Int), Y := (List Int × Int × Int), un := limb_Div.l4.un, f := iter (limb_Div.l4.once k) k, fin := limb_Div.l4.fin, finK := limb_Div.l4.finK, finK_eq := limb_Div.l4.finK_eq }
noncomputable def limb_Div.j9000.fin (y : (Int × Bool × List Int × Int × Int × List Int × Int × Int)) : Out U := match y with | (x14, x15, x8, x9, x10, x11, x12, x13) => .norm ⟨[(2, .ptr 2 0), (3, .ptr 3 0), (4, .ptr 4 0), (5, .ptr 5 0), (7, .flat (.int .i64 x14)), (53, .flat (.bool x15))], [(2, .arr 4 C.u64 x8), (3, .lit [.flat (.int .u64 x9), .flat (.int .u64 x10)]), (4, .arr 4 C.u64 x11), (5, .lit [.flat (.int .u64 x12), .flat (.int .u64 x13)])]⟩
noncomputable def limb_Div.j9000.finK {ρ : Type} (y : (Int × Bool × List Int × Int × Int × List Int × Int × Int)) (K : Out U → Option ρ) : Option ρ := match y with | (x14, x15, x8, x9, x10, x11, x12, x13) => K (.norm ⟨[(2, .ptr 2 0), (3, .ptr 3 0), (4, .ptr 4 0), (5, .ptr 5 0), (7, .flat (.int .i64 x14)), (53, .flat (.bool x15))], [(2, .arr 4 C.u64 x8), (3, .lit [.flat (.int .u64 x9), .flat (.int .u64 x10)]), (4, .arr 4 C.u64 x11), (5, .lit [.flat (.int .u64 x12), .flat (.int .u64 x13)])]⟩)
theorem limb_Div.j9000.finK_eq {ρ : Type} (y : (Int × Bool × List Int × Int × Int × List Int × Int × Int)) (K : Out U → Option ρ) : limb_Div.j9000.finK y K = K (limb_Div.j9000.fin y) := by
  unfold limb_Div.j9000.finK limb_Div.j9000.fin
  first | rfl | (split <;> rfl)
noncomputable def limb_Div.j9000.re : Out U → Option ((Int × Bool × List Int × Int × Int × List Int × Int × Int)) | .norm s => (match s.get 2, s.get 3, s.get 4, s.get 5, s.get 7, s.get 53, lk s.o 2, lk s.o 3, lk s.o 4, lk s.o 5 with | .ptr 2 0, .ptr 3 0, .ptr 4 0, .ptr 5 0, .flat (.int .i64 x14), .flat (.bool x15), some (.arr 4 C.u64 x8), some (.lit [.flat (.int .u64 x9), .flat (.int .u64 x10)]), some (.arr 4 C.u64 x11), some (.lit [.flat (.int .u64 x12), .flat (.int .u64 x13)]) => some (x14, x15, x8, x9, x10, x11, x12, x13) | _, _, _, _, _, _, _, _, _, _ => none) | _ => none
noncomputable def limb_Div.j9000.J : JDen U := { Y := (Int × Bool × List Int × Int × Int × List Int × Int × Int), re := limb_Div.j9000.re, fin := limb_Div.j9000.fin, finK := limb_Div.j9000.finK, finK_eq := limb_Div.j9000.finK_eq }
theorem limb_Div.j9000.fit (o : Out U) (y : (Int × Bool × List Int × Int × Int × List Int × Int × Int)) (h : limb_Div.j9000.re o = some y) : FitsO o (limb_Div.j9000.fin y) := by
  unfold limb_Div.j9000.re at h
  split at h
  · split at h
    · cases h
      refine fitsO_norm (fits_ren [] ?_ ?_ ren_nil rfl)
      · exact List.forall_mem_cons.2 ⟨FV.one (FV.ptr (by assumption)), List.forall_mem_cons.2 ⟨FV.one (FV.ptr (by assumption)), List.forall_mem_cons.2 ⟨FV.one (FV.ptr (by assumption)), List.forall_mem_cons.2 ⟨FV.one (FV.ptr (by assumption)), List.forall_mem_cons.2 ⟨FV.one (FV.same (by assumption) rfl), List.forall_mem_cons.2 ⟨FV.one (FV.same (by assumption) rfl), fun _ hp => (List.not_mem_nil hp).elim⟩⟩⟩⟩⟩⟩
      · exact List.forall_mem_cons.2 ⟨(show lk (St.o _) 2 = some _ from by assumption), List.forall_mem_cons.2 ⟨(FO.same (show lk (St.o _) 3 = some _ from by assumption) rfl), List.forall_mem_cons.2 ⟨(show lk (St.o _) 4 = some _ from by assumption), List.forall_mem_cons.2 ⟨(FO.same (show lk (St.o _) 5 = some _ from by assumption) rfl), fun _ hp => (List.not_mem_nil hp).elim⟩⟩⟩⟩
    · cases h
  · cases h
noncomputable def limb_Div.j6001.fin (y : (Int × List Int × Int × Int × List Int × Int × Int)) : Out U := match y with | (x26, x20, x21, x22, x23, x24, x25) => .norm ⟨[(2, .ptr 2 0), (3, .ptr 3 0), (4, .ptr 4 0), (5, .ptr 5 0), (7, .flat (.int .i64 x26))], [(2, .arr 4 C.u64 x20), (3, .lit [.flat (.int .u64 x21), .flat (.int .u64 x22)]), (4, .arr 4 C.u64 x23), (5, .lit [.flat (.int .u64 x24), .flat (.int .u64 x25)])]⟩
noncomputable def limb_Div.j6001.finK {ρ : Type} (y : (Int × List Int × Int × Int × List Int × Int × Int)) (K : Out U → Option ρ) : Option ρ := match y with | (x26, x20, x21, x22, x23, x24, x25) => K (.norm ⟨[(2, .ptr 2 0), (3, .ptr 3 0), (4, .ptr 4 0), (5, .ptr 5 0), (7, .flat (.int .i64 x26))], [(2, .arr 4 C.u64 x20), (3, .lit [.flat (.int .u64 x21), .flat (.int .u64 x22)]), (4, .arr 4 C.u64 x23), (5, .lit [.flat (.int .u64 x24), .flat (.int .u64 x25)])]⟩)
theorem limb_Div.j6001.finK_eq {ρ : Type} (y : (Int × List Int × Int × Int × List Int × Int × Int)) (K : Out U → Option ρ) : limb_Div.j6001.finK y K = K (limb_Div.j6001.fin y) := by
  unfold limb_Div.j6001.finK limb_Div.j6001.fin
  first | rfl | (split <;> rfl)
noncomputable def limb_Div.j6001.re : Out U → Option ((Int × List Int × Int × Int × List Int × Int × Int)) | .norm s => (match s.get 2, s.get 3, s.get 4, s.get 5, s.get 7, lk s.o 2, lk s.o 3, lk s.o 4, lk s.o 5 with | .ptr 2 0, .ptr 3 0, .ptr 4 0, .ptr 5 0, .flat (.int .i64 x26), some (.arr 4 C.u64 x20), some (.lit [.flat (.int .u64 x21), .flat (.int .u64 x22)]), some (.arr 4 C.u64 x23), some (.lit [.flat (.int .u64 x24), .flat (.int .u64 x25)]) => some (x26, x20, x21, x22, x23, x24, x25) | _, _, _, _, _, _, _, _, _ => none) | _ => none
noncomputable def limb_Div.j6001.J : JDen U := { Y := (Int × List Int × Int × Int × List Int × Int × Int), re := limb_Div.j6001.re, fin := limb_Div.j6001.fin, finK := limb_Div.j6001.finK, finK_eq := limb_Div.j6001.finK_eq }
theorem limb_Div.j6001.fit (o : Out U) (y : (Int × List Int × Int × Int × List Int × Int × Int)) (h : limb_Div.j6001.re o = some y) : FitsO o (limb_Div.j6001.fin y) := by
  unfold limb_Div.j6001.re at h
  split at h
  · split at h
    · cases h
      refine fitsO_norm (fits_ren [] ?_ ?_ ren_nil rfl)
      · exact List.forall_mem_cons.2 ⟨FV.one (FV.ptr (by assumption)), List.forall_mem_cons.2 ⟨FV.one (FV.ptr (by assumption)), List.forall_mem_cons.2 ⟨FV.one (FV.ptr (by assumption)), List.forall_mem_cons.2 ⟨FV.one (FV.ptr (by assumption)), List.forall_mem_cons.2 ⟨FV.one (FV.same (by assumption) rfl), fun _ hp => (List.not_mem_nil hp).elim⟩⟩⟩⟩⟩
      · exact List.forall_mem_cons.2 ⟨(show lk (St.o _) 2 = some _ from by assumption), List.forall_mem_cons.2 ⟨(FO.same (show lk (St.o _) 3 = some _ from by assumption) rfl), List.forall_mem_cons.2 ⟨(show lk (St.o _) 4 = some _ from by assumption), List.forall_mem_cons.2 ⟨(FO.same (show lk (St.o _) 5 = some _ from by assumption) rfl), fun _ hp => (List.not_mem_nil hp).elim⟩⟩⟩⟩
    · cases h
  · cases h
noncomputable def limb_Div.jl : List (Nat × JDen U) := [(9000, limb_Div.j9000.J), (6001, limb_Div.j6001.J)]
noncomputable def limb_Div.fl (k : Nat) : List (Nat × FDen U) := [(149, limb_Cmp.D k), (152, limb_less.D k)]
noncomputable def limb_Div.ll (k : Nat) : List (Nat × LDen U) := [(4, limb_Div.l4.L k)]
noncomputable def limb_Div.E (k : Nat) : Env U := { P := Try.prog, D := DD, fd := lk (limb_Div.fl k), ld := lk (limb_Div.ll k), jd := lk limb_Div.jl, mode := lk [(149, (4, C.u64))], elc := lk ec, mpc := lk mc, rts := Try.f156.resultTypes.toList, dyn := fun t => false, vecs := fun d => false, results := Try.f156.results.toList, gh := [], own := false, io := fun g i => false }
theorem limb_Div.ok (k : Nat) : EnvOk (limb_Div.E k) := envOk lawful (limb_Div.fl k) (limb_Div.ll k) limb_Div.jl _ _ _ _ _ _ _ _ _ _ (by
  intro p hp
  simp only [limb_Div.fl, List.mem_cons, List.not_mem_nil, or_false] at hp
  rcases hp with rfl | rfl
  · exact ⟨limb_Cmp.sound k, enter_of Try.func149 (by kernel_rfl) (by kernel_rfl)⟩
  · exact ⟨limb_less.sound k, enter_of Try.func152 (by kernel_rfl) (by kernel_rfl)⟩) (by
  intro p hp
  simp only [limb_Div.jl, List.mem_cons, List.not_mem_nil, or_false] at hp
  rcases hp with rfl | rfl
  · exact limb_Div.j9000.fit
  · exact limb_Div.j6001.fit)
theorem limb_Div.l4.eq (k : Nat) (x : (Int × List Int × Int × Int × List Int × Int × Int)) : evC (limb_Div.E k) (loopAt Try.f156 4) (limb_Div.l4.mk x) (headK limb_Div.l4.un limb_Div.l4.re) = limb_Div.l4.once k x := by kernel_rfl
theorem limb_Div.l4.fit (s : St U) (x : (Int × List Int × Int × Int × List Int × Int × Int)) (h : limb_Div.l4.un s = some x) : Fits s (limb_Div.l4.mk x) := by
  unfold limb_Div.l4.un at h
  split at h
  · cases h
    refine fits_ren [] ?_ ?_ ren_nil rfl
    · exact List.forall_mem_cons.2 ⟨FV.one (FV.ptr (by assumption)), List.forall_mem_cons.2 ⟨FV.one (FV.ptr (by assumption)), List.forall_mem_cons.2 ⟨FV.one (FV.ptr (by assumption)), List.forall_mem_cons.2 ⟨FV.one (FV.ptr (by assumption)), List.forall_mem_cons.2 ⟨FV.one (FV.same (by assumption) rfl), fun _ hp => (List.not_mem_nil hp).elim⟩⟩⟩⟩⟩
    · exact List.forall_mem_cons.2 ⟨(show lk (St.o _) 2 = some _ from by assumption), List.forall_mem_cons.2 ⟨(FO.same (show lk (St.o _) 3 = some _ from by assumption) rfl), List.forall_mem_cons.2 ⟨(show lk (St.o _) 4 = some _ from by assumption), List.forall_mem_cons.2 ⟨(FO.same (show lk (St.o _) 5 = some _ from by assumption) rfl), fun _ hp => (List.not_mem_nil hp).elim⟩⟩⟩⟩
  · cases h
theorem limb_Div.l4.fitO (o : Out U) (y : (List Int × Int × Int)) (h : limb_Div.l4.re o = some y) : FitsO o (limb_Div.l4.fin y) := by
  unfold limb_Div.l4.re at h
  split at h
  · split at h
    · cases h
      refine fitsO_exit (fits_ren [] ?_ ?_ ren_nil rfl)
      · exact List.forall_mem_cons.2 ⟨FV.one (FV.ptr (by assumption)), List.forall_mem_cons.2 ⟨FV.one (FV.ptr (by assumption)), fun _ hp => (List.not_mem_nil hp).elim⟩⟩
      · exact List.forall_mem_cons.2 ⟨(show lk (St.o _) 4 = some _ from by assumption), List.forall_mem_cons.2 ⟨(FO.same (show lk (St.o _) 5 = some _ from by assumption) rfl), fun _ hp => (List.not_mem_nil hp).elim⟩⟩
    · cases h
  · cases h
theorem limb_Div.l4.sound (k : Nat) : LSound (limb_Div.E k) Try.f156.ntmps Try.f156 (loopAt Try.f156 4) (limb_Div.l4.L k) :=
  loop_sound (limb_Div.ok k) mixed rfl (by kernel_rfl) (allL_of (l := []) (by kernel_rfl) allL_nil) limb_Div.l4.un limb_Div.l4.mk limb_Div.l4.fin limb_Div.l4.re (limb_Div.l4.once k) k limb_Div.l4.fit limb_Div.l4.fitO (limb_Div.l4.eq k) limb_Div.l4.finK limb_Div.l4.finK_eq
theorem limb_Div.eq (k : Nat) (x : ((Int × Int × Int × Int) × (Int × Int))) : runF (limb_Div.E k) (codeOf Try.f156) (limb_Div.mk x) limb_Div.re = (limb_Div.D k).f x := by kernel_rfl
theorem limb_Div.fit (s : St U) (x : ((Int × Int × Int × Int) × (Int × Int))) (h : limb_Div.un s = some x) : Fits s (limb_Div.mk x) := by
  unfold limb_Div.un at h
  split at h
  · cases h
    refine fits_ren [] ?_ ?_ ren_nil rfl
    · exact List.forall_mem_cons.2 ⟨FV.one (FV.same (by assumption) rfl), List.forall_mem_cons.2 ⟨FV.one (FV.same (by assumption) rfl), fun _ hp => (List.not_mem_nil hp).elim⟩⟩
    · exact fun _ hp => (List.not_mem_nil hp).elim
  · cases h
theorem limb_Div.fitR (s : St U) (y : ((Int × Int × Int × Int) × (Int × Int) × Bool)) (h : limb_Div.re s = some y) : Fits s (limb_Div.fin y) := by
  unfold limb_Div.re at h
  split at h
  · cases h
    refine fits_ren [] ?_ ?_ ren_nil rfl
    · exact List.forall_mem_cons.2 ⟨FV.tup (by assumption) (FTs.cons (FVA.one (FV.same rfl rfl)) (FTs.cons (FVA.one (FV.same rfl rfl)) (FTs.cons (FVA.one (FV.same rfl rfl)) (FTs.nil)))), fun _ hp => (List.not_mem_nil hp).elim⟩
    · exact fun _ hp => (List.not_mem_nil hp).elim
  · cases h
theorem limb_Div.sound (k : Nat) : Sound Try.prog DD 156 (limb_Div.D k) :=
  fun_sound (E := limb_Div.E k) (fn := Try.f156) (c := codeOf Try.f156) (limb_Div.ok k) mixed rfl Try.func156 (by kernel_rfl) (by kernel_rfl) (allL_of (l := [loopAt Try.f156 4]) (by kernel_rfl) (allL_cons (key := 4) (by kernel_rfl) rfl (limb_Div.l4.sound k) allL_nil)) (limb_Div.D k) limb_Div.mk limb_Div.re (by kernel_rfl) (by kernel_rfl) limb_Div.fit limb_Div.fitR (limb_Div.eq k)
/-! ### pyx/quant.middle: function 168 -/
noncomputable def quant_middle.f (k : Nat) (a0 : (Int × Int)) (a1 : (Int × Int)) : Option Int := (limb_Sub.f k (a1.1, a1.2) (a0.1, a0.2)).bind fun t1 => ((limb_Cmp.f k (a0.1, a0.2) (t1.1.1, t1.1.2)).bind fun t2 => (some t2))
noncomputable def quant_middle.un (s : St U) : Option ((Int × Int) × (Int × Int)) := match s.get 0, s.get 1 with | .agg [.flat (.int .u64 x1), .flat (.int .u64 x2)], .agg [.flat (.int .u64 x3), .flat (.int .u64 x4)] => some ((x1, x2), (x3, x4)) | _, _ => none
noncomputable def quant_middle.mk (x : ((Int × Int) × (Int × Int))) : St U := ⟨[(0, .agg [.flat (.int .u64 x.1.1), .flat (.int .u64 x.1.2)]), (1, .agg [.flat (.int .u64 x.2.1), .flat (.int .u64 x.2.2)])], []⟩
noncomputable def quant_middle.fin (y : Int) : St U := ⟨[(0, .flat (.int .i64 y))], []⟩
noncomputable def quant_middle.D (k : Nat) : FDen U := { X := ((Int × Int) × (Int × Int)), Y := Int, nt := 16, gh := [], un := quant_middle.un, f := fun x => quant_middle.f k (x.1) (x.2), fin := quant_middle.fin, cl := true, clo := fun _ _ => rfl }
noncomputable def quant_middle.re (s : St U) : Option Int := match s.get 0 with | .flat (.int .i64 x1) => some x1 | _ => none
noncomputable def quant_middle.jl : List (Nat × JDen U) := []
noncomputable def quant_middle.fl (k : Nat) : List (Nat × FDen U) := [(128, limb_Sub.D k), (149, limb_Cmp.D k)]
noncomputable def quant_middle.ll (k : Nat) : List (Nat × LDen U) := []
noncomputable def quant_middle.E (k : Nat) : Env U := { P := Try.prog, D := DD, fd := lk (quant_middle.fl k), ld := lk (quant_middle.ll k), jd := lk quant_middle.jl, mode := lk [], elc := lk ec, mpc := lk mc, rts := Try.f168.resultTypes.toList, dyn := fun t => false, vecs := fun d => false, results := Try.f168.results.toList, gh := [], own := false, io := fun g i => false }
theorem quant_middle.ok (k : Nat) : EnvOk (quant_middle.E k) := envOk lawful (quant_middle.fl k) (quant_middle.ll k) quant_middle.jl _ _ _ _ _ _ _ _ _ _ (by
  intro p hp
  simp only [quant_middle.fl, List.mem_cons, List.not_mem_nil, or_false] at hp
  rcases hp with rfl | rfl
  · exact ⟨limb_Sub.sound k, enter_of Try.func128 (by kernel_rfl) (by kernel_rfl)⟩
  · exact ⟨limb_Cmp.sound k, enter_of Try.func149 (by kernel_rfl) (by kernel_rfl)⟩) (by
  intro p hp
  simp [quant_middle.jl] at hp)
theorem quant_middle.eq (k : Nat) (x : ((Int × Int) × (Int × Int))) : runF (quant_middle.E k) (codeOf Try.f168) (quant_middle.mk x) quant_middle.re = (quant_middle.D k).f x := by kernel_rfl
theorem quant_middle.fit (s : St U) (x : ((Int × Int) × (Int × Int))) (h : quant_middle.un s = some x) : Fits s (quant_middle.mk x) := by
  unfold quant_middle.un at h
  split at h
  · cases h
    refine fits_ren [] ?_ ?_ ren_nil rfl
    · exact List.forall_mem_cons.2 ⟨FV.one (FV.same (by assumption) rfl), List.forall_mem_cons.2 ⟨FV.one (FV.same (by assumption) rfl), fun _ hp => (List.not_mem_nil hp).elim⟩⟩
    · exact fun _ hp => (List.not_mem_nil hp).elim
  · cases h
theorem quant_middle.fitR (s : St U) (y : Int) (h : quant_middle.re s = some y) : Fits s (quant_middle.fin y) := by
  unfold quant_middle.re at h
  split at h
  · cases h
    refine fits_ren [] ?_ ?_ ren_nil rfl
    · exact List.forall_mem_cons.2 ⟨FV.one (FV.same (by assumption) rfl), fun _ hp => (List.not_mem_nil hp).elim⟩
    · exact fun _ hp => (List.not_mem_nil hp).elim
  · cases h
theorem quant_middle.sound (k : Nat) : Sound Try.prog DD 168 (quant_middle.D k) :=
  fun_sound (E := quant_middle.E k) (fn := Try.f168) (c := codeOf Try.f168) (quant_middle.ok k) mixed rfl Try.func168 (by kernel_rfl) (by kernel_rfl) (allL_of (l := []) (by kernel_rfl) allL_nil) (quant_middle.D k) quant_middle.mk quant_middle.re (by kernel_rfl) (by kernel_rfl) quant_middle.fit quant_middle.fitR (quant_middle.eq k)
/-! ### pyx/quant.farther: function 157 -/
noncomputable def quant_farther.f (k : Nat) (a0 : Bool) (a1 : Bool) (a2 : (Int × Int)) (a3 : (Int × Int)) (a4 : Int) : Option Bool := cond ((a2.1 == 0) && (a2.2 == 0)) (some false) (cond (a4 == 1) (some true) (cond (a4 == 2) (some a0) (cond (a4 == 3) ((quant_middle.f k (a2.1, a2.2) (a3.1, a3.2)).bind fun t1 => (some (decide (t1 ≥ 0)))) (cond (a4 == 4) ((quant_middle.f k (a2.1, a2.2) (a3.1, a3.2)).bind fun t2 => (cond (decide (t2 > 0)) (some true) (cond (t2 == 0) (some a1) (some false)))) (some false)))))
noncomputable def quant_farther.un (s : St U) : Option (Bool × Bool × (Int × Int) × (Int × Int) × Int) := match s.get 0, s.get 1, s.get 2, s.get 3, s.get 4 with | .flat (.bool x1), .flat (.bool x2), .agg [.flat (.int .u64 x3), .flat (.int .u64 x4)], .agg [.flat (.int .u64 x5), .flat (.int .u64 x6)], .flat (.int .i64 x7) => some (x1, x2, (x3, x4), (x5, x6), x7) | _, _, _, _, _ => none
noncomputable def quant_farther.mk (x : (Bool × Bool × (Int × Int) × (Int × Int) × Int)) : St U := ⟨[(0, .flat (.bool x.1)), (1, .flat (.bool x.2.1)), (2, .agg [.flat (.int .u64 x.2.2.1.1), .flat (.int .u64 x.2.2.1.2)]), (3, .agg [.flat (.int .u64 x.2.2.2.1.1), .flat (.int .u64 x.2.2.2.1.2)]), (4, .flat (.int .i64 x.2.2.2.2))], []⟩
noncomputable def quant_farther.fin (y : Bool) : St U := ⟨[(0, .flat (.bool y))], []⟩
noncomputable def quant_farther.D (k : Nat) : FDen U := { X := (Bool × Bool × (Int × Int) × (Int × Int) × Int), Y := Bool, nt := 41, gh := [], un := quant_farther.un, f := fun x => quant_farther.f k (x.1) (x.2.1) (x.2.2.1) (x.2.2.2.1) (x.2.2.2.2), fin := quant_farther.fin, cl := true, clo := fun _ _ => rfl }
noncomputable def quant_farther.re (s : St U) : Option Bool := match s.get 0 with | .flat (.bool x1) => some x1 | _ => none
noncomputable def quant_farther.jl : List (Nat × JDen U) := []
noncomputable def quant_farther.fl (k : Nat) : List (Nat × FDen U) := [(168, quant_middle.D k)]
noncomputable def quant_farther.ll (k : Nat) : List (Nat × LDen U) := []
noncomputable def quant_farther.E (k : Nat) : Env U := { P := Try.prog, D := DD, fd := lk (quant_farther.fl k), ld := lk (quant_farther.ll k), jd := lk quant_farther.jl, mode := lk [], elc := lk ec, mpc := lk mc, rts := Try.f157.resultTypes.toList, dyn := fun t => false, vecs := fun d => false, results := Try.f157.results.toList, gh := [], own := false, io := fun g i => false }
theorem quant_farther.ok (k : Nat) : EnvOk (quant_farther.E k) := envOk lawful (quant_farther.fl k) (quant_farther.ll k) quant_farther.jl _ _ _ _ _ _ _ _ _ _ (by
  intro p hp
  simp only [quant_farther.fl, List.mem_cons, List.not_mem_nil, or_false] at hp
  rcases hp with rfl
  · exact ⟨quant_middle.sound k, enter_of Try.func168 (by kernel_rfl) (by kernel_rfl)⟩) (by
  intro p hp
  simp [quant_farther.jl] at hp)
theorem quant_farther.eq (k : Nat) (x : (Bool × Bool × (Int × Int) × (Int × Int) × Int)) : runF (quant_farther.E k) (codeOf Try.f157) (quant_farther.mk x) quant_farther.re = (quant_farther.D k).f x := by kernel_rfl
theorem quant_farther.fit (s : St U) (x : (Bool × Bool × (Int × Int) × (Int × Int) × Int)) (h : quant_farther.un s = some x) : Fits s (quant_farther.mk x) := by
  unfold quant_farther.un at h
  split at h
  · cases h
    refine fits_ren [] ?_ ?_ ren_nil rfl
    · exact List.forall_mem_cons.2 ⟨FV.one (FV.same (by assumption) rfl), List.forall_mem_cons.2 ⟨FV.one (FV.same (by assumption) rfl), List.forall_mem_cons.2 ⟨FV.one (FV.same (by assumption) rfl), List.forall_mem_cons.2 ⟨FV.one (FV.same (by assumption) rfl), List.forall_mem_cons.2 ⟨FV.one (FV.same (by assumption) rfl), fun _ hp => (List.not_mem_nil hp).elim⟩⟩⟩⟩⟩
    · exact fun _ hp => (List.not_mem_nil hp).elim
  · cases h
theorem quant_farther.fitR (s : St U) (y : Bool) (h : quant_farther.re s = some y) : Fits s (quant_farther.fin y) := by
  unfold quant_farther.re at h
  split at h
  · cases h
    refine fits_ren [] ?_ ?_ ren_nil rfl
    · exact List.forall_mem_cons.2 ⟨FV.one (FV.same (by assumption) rfl), fun _ hp => (List.not_mem_nil hp).elim⟩
    · exact fun _ hp => (List.not_mem_nil hp).elim
  · cases h
theorem quant_farther.sound (k : Nat) : Sound Try.prog DD 157 (quant_farther.D k) :=
  fun_sound (E := quant_farther.E k) (fn := Try.f157) (c := codeOf Try.f157) (quant_farther.ok k) mixed rfl Try.func157 (by kernel_rfl) (by kernel_rfl) (allL_of (l := []) (by kernel_rfl) allL_nil) (quant_farther.D k) quant_farther.mk quant_farther.re (by kernel_rfl) (by kernel_rfl) quant_farther.fit quant_farther.fitR (quant_farther.eq k)
end
end Go.Proofs.Ytlaogfkgkpgofaa
