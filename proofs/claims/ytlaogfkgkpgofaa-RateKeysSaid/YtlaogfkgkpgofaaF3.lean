import Derived.Test.YtlaogfkgkpgofaaF2
/-! Functions, told; their equations with the evaluator; that they are sound. Written by gen.py. -/
namespace Go.Proofs.Ytlaogfkgkpgofaa
open Go Go.Ev
noncomputable section
set_option linter.unusedVariables false
set_option linter.unusedSimpArgs false
set_option maxRecDepth 100000
/-! ### pyx/pyxref1.Words2: function 106 -/
noncomputable def pyxref1_Words2.f (k : Nat) (a0 : List Int) : Option ((Int × Int) × Bool) := (pyxref1_radix.f k).bind fun t1 => ((pyxref1_DivNat.f k a0 t1).bind fun t2 => ((pyxref1_radix.f k).bind fun t3 => ((pyxref1_CmpNat.f k t2.1 t3).bind fun t4 => (cond (decide (t4 ≥ 0)) (some ((0, 0), false)) ((pyxref1_short.f k t2.2).bind fun t5 => ((pyxref1_short.f k t2.1).bind fun t6 => (some ((t5, t6), true))))))))
noncomputable def pyxref1_Words2.un (s : St U) : Option (List Int) := match s.get 0 with | .row C.i64 x1 => some x1 | _ => none
noncomputable def pyxref1_Words2.mk (x : List Int) : St U := ⟨[(0, .row C.i64 x)], []⟩
noncomputable def pyxref1_Words2.fin (y : ((Int × Int) × Bool)) : St U := ⟨[(0, .tup [.agg [.flat (.int .u64 y.1.1), .flat (.int .u64 y.1.2)], .flat (.bool y.2)])], []⟩
noncomputable def pyxref1_Words2.D (k : Nat) : FDen U := { X := List Int, Y := ((Int × Int) × Bool), nt := 22, gh := [], un := pyxref1_Words2.un, f := fun x => pyxref1_Words2.f k (x), fin := pyxref1_Words2.fin, cl := true, clo := fun _ _ => rfl }
noncomputable def pyxref1_Words2.re (s : St U) : Option ((Int × Int) × Bool) := match s.get 0 with | .tup [.agg [.flat (.int .u64 x1), .flat (.int .u64 x2)], .flat (.bool x3)] => some ((x1, x2), x3) | _ => none
noncomputable def pyxref1_Words2.jl : List (Nat × JDen U) := []
noncomputable def pyxref1_Words2.fl (k : Nat) : List (Nat × FDen U) := [(138, pyxref1_radix.D k), (137, pyxref1_DivNat.D k), (118, pyxref1_CmpNat.D k), (139, pyxref1_short.D k)]
noncomputable def pyxref1_Words2.ll (k : Nat) : List (Nat × LDen U) := []
noncomputable def pyxref1_Words2.E (k : Nat) : Env U := { P := Try.prog, D := DD, fd := lk (pyxref1_Words2.fl k), sf := lk sl0, ld := lk (pyxref1_Words2.ll k), jd := lk pyxref1_Words2.jl, mode := lk [], elc := lk ec, mpc := lk mc, rts := Try.f106.resultTypes.toList, dyn := fun t => false, vecs := fun d => false, results := Try.f106.results.toList, gh := [], own := false, io := fun g i => false }
theorem pyxref1_Words2.ok (k : Nat) : EnvOk (pyxref1_Words2.E k) := envOk lawful (pyxref1_Words2.fl k) sl0 (pyxref1_Words2.ll k) pyxref1_Words2.jl _ _ _ _ _ _ _ _ _ _ (by
  intro p hp
  simp only [pyxref1_Words2.fl, List.mem_cons, List.not_mem_nil, or_false] at hp
  rcases hp with rfl | rfl | rfl | rfl
  · exact ⟨pyxref1_radix.sound k, enter_of Try.func138 (by kernel_rfl) (by kernel_rfl)⟩
  · exact ⟨pyxref1_DivNat.sound k, enter_of Try.func137 (by kernel_rfl) (by kernel_rfl)⟩
  · exact ⟨pyxref1_CmpNat.sound k, enter_of Try.func118 (by kernel_rfl) (by kernel_rfl)⟩
  · exact ⟨pyxref1_short.sound k, enter_of Try.func139 (by kernel_rfl) (by kernel_rfl)⟩) sl0_ok (by
  intro p hp
  simp [pyxref1_Words2.jl] at hp)
theorem pyxref1_Words2.eq (k : Nat) (x : List Int) : runF (pyxref1_Words2.E k) (codeOf Try.f106) (pyxref1_Words2.mk x) pyxref1_Words2.re = (pyxref1_Words2.D k).f x := by kernel_rfl
theorem pyxref1_Words2.fit (s : St U) (x : List Int) (h : pyxref1_Words2.un s = some x) : Fits s (pyxref1_Words2.mk x) := by
  unfold pyxref1_Words2.un at h
  split at h
  · cases h
    refine fits_ren [] ?_ ?_ ren_nil rfl
    · exact List.forall_mem_cons.2 ⟨FV.one (FV.same (by assumption) rfl), fun _ hp => (List.not_mem_nil hp).elim⟩
    · exact fun _ hp => (List.not_mem_nil hp).elim
  · cases h
theorem pyxref1_Words2.fitR (s : St U) (y : ((Int × Int) × Bool)) (h : pyxref1_Words2.re s = some y) : Fits s (pyxref1_Words2.fin y) := by
  unfold pyxref1_Words2.re at h
  split at h
  · cases h
    refine fits_ren [] ?_ ?_ ren_nil rfl
    · exact List.forall_mem_cons.2 ⟨FV.tup (by assumption) (FTs.cons (FVA.one (FV.same rfl rfl)) (FTs.cons (FVA.one (FV.same rfl rfl)) (FTs.nil))), fun _ hp => (List.not_mem_nil hp).elim⟩
    · exact fun _ hp => (List.not_mem_nil hp).elim
  · cases h
theorem pyxref1_Words2.sound (k : Nat) : Sound Try.prog DD 106 (pyxref1_Words2.D k) :=
  fun_sound (E := pyxref1_Words2.E k) (fn := Try.f106) (c := codeOf Try.f106) (pyxref1_Words2.ok k) mixed rfl Try.func106 (by kernel_rfl) (by kernel_rfl) (allL_of (l := []) (by kernel_rfl) allL_nil) (pyxref1_Words2.D k) pyxref1_Words2.mk pyxref1_Words2.re (by kernel_rfl) (by kernel_rfl) pyxref1_Words2.fit pyxref1_Words2.fitR (pyxref1_Words2.eq k)
/-! ### pyx/pyxref1.Make: function 58 -/
noncomputable def pyxref1_Make.f (k : Nat) (a0 : Bool) (a1 : List Int) (a2 : Int) : Option (Sapi_Dec × Int) := ((cond (decide ((List.length a1 : Int) > 30)) (some (a0, a1, a2, true, false, 0, 0, 0)) (cond (decide (a2 < 0)) (some (a0, a1, a2, true, false, 0, 0, 0)) (some (a0, a1, a2, decide (a2 > 9), false, 0, 0, 0)))) : Option (Bool × List Int × Int × Bool × Bool × Int × Int × Int)).bind fun y9 => (cond (y9.2.2.2.1) (some ((⟨false, (0, 0), 0⟩ : Sapi_Dec), 3)) ((pyxref1_Words2.f k y9.2.1).bind fun t10 => (cond (y9.1) (some ((⟨decide ((List.length y9.2.1 : Int) > 0), (t10.1.1, t10.1.2), y9.2.2.1⟩ : Sapi_Dec), 0)) (some ((⟨false, (t10.1.1, t10.1.2), y9.2.2.1⟩ : Sapi_Dec), 0)))))
noncomputable def pyxref1_Make.un (s : St U) : Option (Bool × List Int × Int) := match s.get 0, s.get 1, s.get 2 with | .flat (.bool x1), .row C.i64 x2, .flat (.int .i64 x3) => some (x1, x2, x3) | _, _, _ => none
noncomputable def pyxref1_Make.mk (x : (Bool × List Int × Int)) : St U := ⟨[(0, .flat (.bool x.1)), (1, .row C.i64 x.2.1), (2, .flat (.int .i64 x.2.2))], []⟩
noncomputable def pyxref1_Make.fin (y : (Sapi_Dec × Int)) : St U := ⟨[(0, .tup [.agg [.flat (.bool y.1.f_Neg), .flat (.int .u64 y.1.f_C.1), .flat (.int .u64 y.1.f_C.2), .flat (.int .i64 y.1.f_Scale)], .flat (.int .i64 y.2)])], []⟩
noncomputable def pyxref1_Make.D (k : Nat) : FDen U := { X := (Bool × List Int × Int), Y := (Sapi_Dec × Int), nt := 36, gh := [], un := pyxref1_Make.un, f := fun x => pyxref1_Make.f k (x.1) (x.2.1) (x.2.2), fin := pyxref1_Make.fin, cl := true, clo := fun _ _ => rfl }
noncomputable def pyxref1_Make.re (s : St U) : Option (Sapi_Dec × Int) := match s.get 0 with | .tup [.agg [.flat (.bool x1), .flat (.int .u64 x2), .flat (.int .u64 x3), .flat (.int .i64 x4)], .flat (.int .i64 x5)] => some ((⟨x1, (x2, x3), x4⟩ : Sapi_Dec), x5) | _ => none
noncomputable def pyxref1_Make.j1000.fin (y : (Bool × List Int × Int × Bool × Bool × Int × Int × Int)) : Out U := match y with | (x1, x2, x3, x8, x4, x5, x6, x7) => .norm ⟨[(6, .ptr 6 0), (0, .flat (.bool x1)), (1, .row C.i64 x2), (2, .flat (.int .i64 x3)), (20, .flat (.bool x8))], [(6, .lit [.flat (.bool x4), .flat (.int .u64 x5), .flat (.int .u64 x6), .flat (.int .i64 x7)])]⟩
noncomputable def pyxref1_Make.j1000.finK {ρ : Type} (y : (Bool × List Int × Int × Bool × Bool × Int × Int × Int)) (K : Out U → Option ρ) : Option ρ := match y with | (x1, x2, x3, x8, x4, x5, x6, x7) => K (.norm ⟨[(6, .ptr 6 0), (0, .flat (.bool x1)), (1, .row C.i64 x2), (2, .flat (.int .i64 x3)), (20, .flat (.bool x8))], [(6, .lit [.flat (.bool x4), .flat (.int .u64 x5), .flat (.int .u64 x6), .flat (.int .i64 x7)])]⟩)
theorem pyxref1_Make.j1000.finK_eq {ρ : Type} (y : (Bool × List Int × Int × Bool × Bool × Int × Int × Int)) (K : Out U → Option ρ) : pyxref1_Make.j1000.finK y K = K (pyxref1_Make.j1000.fin y) := by
  unfold pyxref1_Make.j1000.finK pyxref1_Make.j1000.fin
  first | rfl | (split <;> rfl)
noncomputable def pyxref1_Make.j1000.re : Out U → Option ((Bool × List Int × Int × Bool × Bool × Int × Int × Int)) | .norm s => ((row_i64 (s.get 1)).bind fun q0 => (match s.get 6, s.get 0, s.get 2, s.get 20, lk s.o 6 with | .ptr 6 0, .flat (.bool x1), .flat (.int .i64 x3), .flat (.bool x8), some (.lit [.flat (.bool x4), .flat (.int .u64 x5), .flat (.int .u64 x6), .flat (.int .i64 x7)]) => some (x1, q0, x3, x8, x4, x5, x6, x7) | _, _, _, _, _ => none)) | _ => none
noncomputable def pyxref1_Make.j1000.J : JDen U := { Y := (Bool × List Int × Int × Bool × Bool × Int × Int × Int), re := pyxref1_Make.j1000.re, fin := pyxref1_Make.j1000.fin, finK := pyxref1_Make.j1000.finK, finK_eq := pyxref1_Make.j1000.finK_eq }
theorem pyxref1_Make.j1000.fit (o : Out U) (y : (Bool × List Int × Int × Bool × Bool × Int × Int × Int)) (h : pyxref1_Make.j1000.re o = some y) : FitsO o (pyxref1_Make.j1000.fin y) := by
  unfold pyxref1_Make.j1000.re at h
  split at h
  · obtain ⟨q0, eq0, h1⟩ := Option.bind_eq_some_iff.1 h
    split at h1
    · cases h1
      refine fitsO_norm (fits_ren [] ?_ ?_ ren_nil rfl)
      · exact List.forall_mem_cons.2 ⟨FV.one (FV.ptr (by assumption)), List.forall_mem_cons.2 ⟨FV.one (FV.same (by assumption) rfl), List.forall_mem_cons.2 ⟨FV.one (row_i64_fit eq0), List.forall_mem_cons.2 ⟨FV.one (FV.same (by assumption) rfl), List.forall_mem_cons.2 ⟨FV.one (FV.same (by assumption) rfl), fun _ hp => (List.not_mem_nil hp).elim⟩⟩⟩⟩⟩
      · exact List.forall_mem_cons.2 ⟨(FO.same (show lk (St.o _) 6 = some _ from by assumption) rfl), fun _ hp => (List.not_mem_nil hp).elim⟩
    · cases h1
  · cases h
noncomputable def pyxref1_Make.jl : List (Nat × JDen U) := [(1000, pyxref1_Make.j1000.J)]
noncomputable def pyxref1_Make.fl (k : Nat) : List (Nat × FDen U) := [(106, pyxref1_Words2.D k)]
noncomputable def pyxref1_Make.ll (k : Nat) : List (Nat × LDen U) := []
noncomputable def pyxref1_Make.E (k : Nat) : Env U := { P := Try.prog, D := DD, fd := lk (pyxref1_Make.fl k), sf := lk sl0, ld := lk (pyxref1_Make.ll k), jd := lk pyxref1_Make.jl, mode := lk [], elc := lk ec, mpc := lk mc, rts := Try.f58.resultTypes.toList, dyn := fun t => false, vecs := fun d => false, results := Try.f58.results.toList, gh := [], own := false, io := fun g i => false }
theorem pyxref1_Make.ok (k : Nat) : EnvOk (pyxref1_Make.E k) := envOk lawful (pyxref1_Make.fl k) sl0 (pyxref1_Make.ll k) pyxref1_Make.jl _ _ _ _ _ _ _ _ _ _ (by
  intro p hp
  simp only [pyxref1_Make.fl, List.mem_cons, List.not_mem_nil, or_false] at hp
  rcases hp with rfl
  · exact ⟨pyxref1_Words2.sound k, enter_of Try.func106 (by kernel_rfl) (by kernel_rfl)⟩) sl0_ok (by
  intro p hp
  simp only [pyxref1_Make.jl, List.mem_cons, List.not_mem_nil, or_false] at hp
  rcases hp with rfl
  · exact pyxref1_Make.j1000.fit)
theorem pyxref1_Make.eq (k : Nat) (x : (Bool × List Int × Int)) : runF (pyxref1_Make.E k) (codeOf Try.f58) (pyxref1_Make.mk x) pyxref1_Make.re = (pyxref1_Make.D k).f x := by kernel_rfl
theorem pyxref1_Make.fit (s : St U) (x : (Bool × List Int × Int)) (h : pyxref1_Make.un s = some x) : Fits s (pyxref1_Make.mk x) := by
  unfold pyxref1_Make.un at h
  split at h
  · cases h
    refine fits_ren [] ?_ ?_ ren_nil rfl
    · exact List.forall_mem_cons.2 ⟨FV.one (FV.same (by assumption) rfl), List.forall_mem_cons.2 ⟨FV.one (FV.same (by assumption) rfl), List.forall_mem_cons.2 ⟨FV.one (FV.same (by assumption) rfl), fun _ hp => (List.not_mem_nil hp).elim⟩⟩⟩
    · exact fun _ hp => (List.not_mem_nil hp).elim
  · cases h
theorem pyxref1_Make.fitR (s : St U) (y : (Sapi_Dec × Int)) (h : pyxref1_Make.re s = some y) : Fits s (pyxref1_Make.fin y) := by
  unfold pyxref1_Make.re at h
  split at h
  · cases h
    refine fits_ren [] ?_ ?_ ren_nil rfl
    · exact List.forall_mem_cons.2 ⟨FV.tup (by assumption) (FTs.cons (FVA.one (FV.same rfl rfl)) (FTs.cons (FVA.one (FV.same rfl rfl)) (FTs.nil))), fun _ hp => (List.not_mem_nil hp).elim⟩
    · exact fun _ hp => (List.not_mem_nil hp).elim
  · cases h
theorem pyxref1_Make.sound (k : Nat) : Sound Try.prog DD 58 (pyxref1_Make.D k) :=
  fun_sound (E := pyxref1_Make.E k) (fn := Try.f58) (c := codeOf Try.f58) (pyxref1_Make.ok k) mixed rfl Try.func58 (by kernel_rfl) (by kernel_rfl) (allL_of (l := []) (by kernel_rfl) allL_nil) (pyxref1_Make.D k) pyxref1_Make.mk pyxref1_Make.re (by kernel_rfl) (by kernel_rfl) pyxref1_Make.fit pyxref1_Make.fitR (pyxref1_Make.eq k)
/-! ### pyx/pyxref1.Of: function 17 -/
noncomputable def pyxref1_Of.f (k : Nat) (a0 : Int) (a1 : Int) : Option Sapi_Dec := ((cond (decide (a0 < 0)) (some (a1, decide (a0 < 0), IntKind.wrap .u64 (0 - (IntKind.wrap .u64 (a0))), false, 0, 0, 0)) (some (a1, decide (a0 < 0), IntKind.wrap .u64 (a0), false, 0, 0, 0))) : Option (Int × Bool × Int × Bool × Int × Int × Int)).bind fun y8 => ((pyxref1_Word.f k y8.2.2.1).bind fun t9 => ((pyxref1_Within.f k y8.1 0 9).bind fun t10 => ((pyxref1_Make.f k y8.2.1 t9 t10).bind fun t11 => (some (⟨t11.1.f_Neg, (t11.1.f_C.1, t11.1.f_C.2), t11.1.f_Scale⟩ : Sapi_Dec)))))
noncomputable def pyxref1_Of.un (s : St U) : Option (Int × Int) := match s.get 0, s.get 1 with | .flat (.int .i64 x1), .flat (.int .i64 x2) => some (x1, x2) | _, _ => none
noncomputable def pyxref1_Of.mk (x : (Int × Int)) : St U := ⟨[(0, .flat (.int .i64 x.1)), (1, .flat (.int .i64 x.2))], []⟩
noncomputable def pyxref1_Of.fin (y : Sapi_Dec) : St U := ⟨[(0, .agg [.flat (.bool y.f_Neg), .flat (.int .u64 y.f_C.1), .flat (.int .u64 y.f_C.2), .flat (.int .i64 y.f_Scale)])], []⟩
noncomputable def pyxref1_Of.D (k : Nat) : FDen U := { X := (Int × Int), Y := Sapi_Dec, nt := 26, gh := [], un := pyxref1_Of.un, f := fun x => pyxref1_Of.f k (x.1) (x.2), fin := pyxref1_Of.fin, cl := true, clo := fun _ _ => rfl }
noncomputable def pyxref1_Of.re (s : St U) : Option Sapi_Dec := match s.get 0 with | .agg [.flat (.bool x1), .flat (.int .u64 x2), .flat (.int .u64 x3), .flat (.int .i64 x4)] => some (⟨x1, (x2, x3), x4⟩ : Sapi_Dec) | _ => none
noncomputable def pyxref1_Of.j4001.fin (y : (Int × Bool × Int × Bool × Int × Int × Int)) : Out U := match y with | (x1, x6, x7, x2, x3, x4, x5) => .norm ⟨[(4, .ptr 4 0), (1, .flat (.int .i64 x1)), (5, .flat (.bool x6)), (6, .flat (.int .u64 x7))], [(4, .lit [.flat (.bool x2), .flat (.int .u64 x3), .flat (.int .u64 x4), .flat (.int .i64 x5)])]⟩
noncomputable def pyxref1_Of.j4001.finK {ρ : Type} (y : (Int × Bool × Int × Bool × Int × Int × Int)) (K : Out U → Option ρ) : Option ρ := match y with | (x1, x6, x7, x2, x3, x4, x5) => K (.norm ⟨[(4, .ptr 4 0), (1, .flat (.int .i64 x1)), (5, .flat (.bool x6)), (6, .flat (.int .u64 x7))], [(4, .lit [.flat (.bool x2), .flat (.int .u64 x3), .flat (.int .u64 x4), .flat (.int .i64 x5)])]⟩)
theorem pyxref1_Of.j4001.finK_eq {ρ : Type} (y : (Int × Bool × Int × Bool × Int × Int × Int)) (K : Out U → Option ρ) : pyxref1_Of.j4001.finK y K = K (pyxref1_Of.j4001.fin y) := by
  unfold pyxref1_Of.j4001.finK pyxref1_Of.j4001.fin
  first | rfl | (split <;> rfl)
noncomputable def pyxref1_Of.j4001.re : Out U → Option ((Int × Bool × Int × Bool × Int × Int × Int)) | .norm s => (match s.get 4, s.get 1, s.get 5, s.get 6, lk s.o 4 with | .ptr 4 0, .flat (.int .i64 x1), .flat (.bool x6), .flat (.int .u64 x7), some (.lit [.flat (.bool x2), .flat (.int .u64 x3), .flat (.int .u64 x4), .flat (.int .i64 x5)]) => some (x1, x6, x7, x2, x3, x4, x5) | _, _, _, _, _ => none) | _ => none
noncomputable def pyxref1_Of.j4001.J : JDen U := { Y := (Int × Bool × Int × Bool × Int × Int × Int), re := pyxref1_Of.j4001.re, fin := pyxref1_Of.j4001.fin, finK := pyxref1_Of.j4001.finK, finK_eq := pyxref1_Of.j4001.finK_eq }
theorem pyxref1_Of.j4001.fit (o : Out U) (y : (Int × Bool × Int × Bool × Int × Int × Int)) (h : pyxref1_Of.j4001.re o = some y) : FitsO o (pyxref1_Of.j4001.fin y) := by
  unfold pyxref1_Of.j4001.re at h
  split at h
  · split at h
    · cases h
      refine fitsO_norm (fits_ren [] ?_ ?_ ren_nil rfl)
      · exact List.forall_mem_cons.2 ⟨FV.one (FV.ptr (by assumption)), List.forall_mem_cons.2 ⟨FV.one (FV.same (by assumption) rfl), List.forall_mem_cons.2 ⟨FV.one (FV.same (by assumption) rfl), List.forall_mem_cons.2 ⟨FV.one (FV.same (by assumption) rfl), fun _ hp => (List.not_mem_nil hp).elim⟩⟩⟩⟩
      · exact List.forall_mem_cons.2 ⟨(FO.same (show lk (St.o _) 4 = some _ from by assumption) rfl), fun _ hp => (List.not_mem_nil hp).elim⟩
    · cases h
  · cases h
noncomputable def pyxref1_Of.jl : List (Nat × JDen U) := [(4001, pyxref1_Of.j4001.J)]
noncomputable def pyxref1_Of.fl (k : Nat) : List (Nat × FDen U) := [(59, pyxref1_Word.D k), (60, pyxref1_Within.D k), (58, pyxref1_Make.D k)]
noncomputable def pyxref1_Of.ll (k : Nat) : List (Nat × LDen U) := []
noncomputable def pyxref1_Of.E (k : Nat) : Env U := { P := Try.prog, D := DD, fd := lk (pyxref1_Of.fl k), sf := lk sl0, ld := lk (pyxref1_Of.ll k), jd := lk pyxref1_Of.jl, mode := lk [], elc := lk ec, mpc := lk mc, rts := Try.f17.resultTypes.toList, dyn := fun t => false, vecs := fun d => false, results := Try.f17.results.toList, gh := [], own := false, io := fun g i => false }
theorem pyxref1_Of.ok (k : Nat) : EnvOk (pyxref1_Of.E k) := envOk lawful (pyxref1_Of.fl k) sl0 (pyxref1_Of.ll k) pyxref1_Of.jl _ _ _ _ _ _ _ _ _ _ (by
  intro p hp
  simp only [pyxref1_Of.fl, List.mem_cons, List.not_mem_nil, or_false] at hp
  rcases hp with rfl | rfl | rfl
  · exact ⟨pyxref1_Word.sound k, enter_of Try.func59 (by kernel_rfl) (by kernel_rfl)⟩
  · exact ⟨pyxref1_Within.sound k, enter_of Try.func60 (by kernel_rfl) (by kernel_rfl)⟩
  · exact ⟨pyxref1_Make.sound k, enter_of Try.func58 (by kernel_rfl) (by kernel_rfl)⟩) sl0_ok (by
  intro p hp
  simp only [pyxref1_Of.jl, List.mem_cons, List.not_mem_nil, or_false] at hp
  rcases hp with rfl
  · exact pyxref1_Of.j4001.fit)
theorem pyxref1_Of.eq (k : Nat) (x : (Int × Int)) : runF (pyxref1_Of.E k) (codeOf Try.f17) (pyxref1_Of.mk x) pyxref1_Of.re = (pyxref1_Of.D k).f x := by kernel_rfl
theorem pyxref1_Of.fit (s : St U) (x : (Int × Int)) (h : pyxref1_Of.un s = some x) : Fits s (pyxref1_Of.mk x) := by
  unfold pyxref1_Of.un at h
  split at h
  · cases h
    refine fits_ren [] ?_ ?_ ren_nil rfl
    · exact List.forall_mem_cons.2 ⟨FV.one (FV.same (by assumption) rfl), List.forall_mem_cons.2 ⟨FV.one (FV.same (by assumption) rfl), fun _ hp => (List.not_mem_nil hp).elim⟩⟩
    · exact fun _ hp => (List.not_mem_nil hp).elim
  · cases h
theorem pyxref1_Of.fitR (s : St U) (y : Sapi_Dec) (h : pyxref1_Of.re s = some y) : Fits s (pyxref1_Of.fin y) := by
  unfold pyxref1_Of.re at h
  split at h
  · cases h
    refine fits_ren [] ?_ ?_ ren_nil rfl
    · exact List.forall_mem_cons.2 ⟨FV.one (FV.same (by assumption) rfl), fun _ hp => (List.not_mem_nil hp).elim⟩
    · exact fun _ hp => (List.not_mem_nil hp).elim
  · cases h
theorem pyxref1_Of.sound (k : Nat) : Sound Try.prog DD 17 (pyxref1_Of.D k) :=
  fun_sound (E := pyxref1_Of.E k) (fn := Try.f17) (c := codeOf Try.f17) (pyxref1_Of.ok k) mixed rfl Try.func17 (by kernel_rfl) (by kernel_rfl) (allL_of (l := []) (by kernel_rfl) allL_nil) (pyxref1_Of.D k) pyxref1_Of.mk pyxref1_Of.re (by kernel_rfl) (by kernel_rfl) pyxref1_Of.fit pyxref1_Of.fitR (pyxref1_Of.eq k)
/-! ### pyx/dec.Of: function 96 -/
noncomputable def dec_Of.f (k : Nat) (a0 : Int) (a1 : Int) : Option Sapi_Dec := ((cond (decide (a0 < 0)) (some (a0, a1, IntKind.wrap .u64 (0 - (IntKind.wrap .u64 (a0))), false, 0, 0, 0)) (some (a0, a1, IntKind.wrap .u64 (a0), false, 0, 0, 0))) : Option (Int × Int × Int × Bool × Int × Int × Int)).bind fun y8 => ((limb_Of.f k y8.2.2.1).bind fun t9 => (some (⟨decide (y8.1 < 0), (t9.1, t9.2), (if (if 9 < y8.2.1 then 9 else y8.2.1) > 0 then (if 9 < y8.2.1 then 9 else y8.2.1) else 0)⟩ : Sapi_Dec)))
noncomputable def dec_Of.un (s : St U) : Option (Int × Int) := match s.get 0, s.get 1 with | .flat (.int .i64 x1), .flat (.int .i64 x2) => some (x1, x2) | _, _ => none
noncomputable def dec_Of.mk (x : (Int × Int)) : St U := ⟨[(0, .flat (.int .i64 x.1)), (1, .flat (.int .i64 x.2))], []⟩
noncomputable def dec_Of.fin (y : Sapi_Dec) : St U := ⟨[(0, .agg [.flat (.bool y.f_Neg), .flat (.int .u64 y.f_C.1), .flat (.int .u64 y.f_C.2), .flat (.int .i64 y.f_Scale)])], []⟩
noncomputable def dec_Of.D (k : Nat) : FDen U := { X := (Int × Int), Y := Sapi_Dec, nt := 20, gh := [], un := dec_Of.un, f := fun x => dec_Of.f k (x.1) (x.2), fin := dec_Of.fin, cl := true, clo := fun _ _ => rfl }
noncomputable def dec_Of.re (s : St U) : Option Sapi_Dec := match s.get 0 with | .agg [.flat (.bool x1), .flat (.int .u64 x2), .flat (.int .u64 x3), .flat (.int .i64 x4)] => some (⟨x1, (x2, x3), x4⟩ : Sapi_Dec) | _ => none
noncomputable def dec_Of.j3001.fin (y : (Int × Int × Int × Bool × Int × Int × Int)) : Out U := match y with | (x1, x2, x7, x3, x4, x5, x6) => .norm ⟨[(4, .ptr 4 0), (0, .flat (.int .i64 x1)), (1, .flat (.int .i64 x2)), (5, .flat (.int .u64 x7))], [(4, .lit [.flat (.bool x3), .flat (.int .u64 x4), .flat (.int .u64 x5), .flat (.int .i64 x6)])]⟩
noncomputable def dec_Of.j3001.finK {ρ : Type} (y : (Int × Int × Int × Bool × Int × Int × Int)) (K : Out U → Option ρ) : Option ρ := match y with | (x1, x2, x7, x3, x4, x5, x6) => K (.norm ⟨[(4, .ptr 4 0), (0, .flat (.int .i64 x1)), (1, .flat (.int .i64 x2)), (5, .flat (.int .u64 x7))], [(4, .lit [.flat (.bool x3), .flat (.int .u64 x4), .flat (.int .u64 x5), .flat (.int .i64 x6)])]⟩)
theorem dec_Of.j3001.finK_eq {ρ : Type} (y : (Int × Int × Int × Bool × Int × Int × Int)) (K : Out U → Option ρ) : dec_Of.j3001.finK y K = K (dec_Of.j3001.fin y) := by
  unfold dec_Of.j3001.finK dec_Of.j3001.fin
  first | rfl | (split <;> rfl)
noncomputable def dec_Of.j3001.re : Out U → Option ((Int × Int × Int × Bool × Int × Int × Int)) | .norm s => (match s.get 4, s.get 0, s.get 1, s.get 5, lk s.o 4 with | .ptr 4 0, .flat (.int .i64 x1), .flat (.int .i64 x2), .flat (.int .u64 x7), some (.lit [.flat (.bool x3), .flat (.int .u64 x4), .flat (.int .u64 x5), .flat (.int .i64 x6)]) => some (x1, x2, x7, x3, x4, x5, x6) | _, _, _, _, _ => none) | _ => none
noncomputable def dec_Of.j3001.J : JDen U := { Y := (Int × Int × Int × Bool × Int × Int × Int), re := dec_Of.j3001.re, fin := dec_Of.j3001.fin, finK := dec_Of.j3001.finK, finK_eq := dec_Of.j3001.finK_eq }
theorem dec_Of.j3001.fit (o : Out U) (y : (Int × Int × Int × Bool × Int × Int × Int)) (h : dec_Of.j3001.re o = some y) : FitsO o (dec_Of.j3001.fin y) := by
  unfold dec_Of.j3001.re at h
  split at h
  · split at h
    · cases h
      refine fitsO_norm (fits_ren [] ?_ ?_ ren_nil rfl)
      · exact List.forall_mem_cons.2 ⟨FV.one (FV.ptr (by assumption)), List.forall_mem_cons.2 ⟨FV.one (FV.same (by assumption) rfl), List.forall_mem_cons.2 ⟨FV.one (FV.same (by assumption) rfl), List.forall_mem_cons.2 ⟨FV.one (FV.same (by assumption) rfl), fun _ hp => (List.not_mem_nil hp).elim⟩⟩⟩⟩
      · exact List.forall_mem_cons.2 ⟨(FO.same (show lk (St.o _) 4 = some _ from by assumption) rfl), fun _ hp => (List.not_mem_nil hp).elim⟩
    · cases h
  · cases h
noncomputable def dec_Of.jl : List (Nat × JDen U) := [(3001, dec_Of.j3001.J)]
noncomputable def dec_Of.fl (k : Nat) : List (Nat × FDen U) := [(129, limb_Of.D k)]
noncomputable def dec_Of.ll (k : Nat) : List (Nat × LDen U) := []
noncomputable def dec_Of.E (k : Nat) : Env U := { P := Try.prog, D := DD, fd := lk (dec_Of.fl k), sf := lk sl0, ld := lk (dec_Of.ll k), jd := lk dec_Of.jl, mode := lk [], elc := lk ec, mpc := lk mc, rts := Try.f96.resultTypes.toList, dyn := fun t => false, vecs := fun d => false, results := Try.f96.results.toList, gh := [], own := false, io := fun g i => false }
theorem dec_Of.ok (k : Nat) : EnvOk (dec_Of.E k) := envOk lawful (dec_Of.fl k) sl0 (dec_Of.ll k) dec_Of.jl _ _ _ _ _ _ _ _ _ _ (by
  intro p hp
  simp only [dec_Of.fl, List.mem_cons, List.not_mem_nil, or_false] at hp
  rcases hp with rfl
  · exact ⟨limb_Of.sound k, enter_of Try.func129 (by kernel_rfl) (by kernel_rfl)⟩) sl0_ok (by
  intro p hp
  simp only [dec_Of.jl, List.mem_cons, List.not_mem_nil, or_false] at hp
  rcases hp with rfl
  · exact dec_Of.j3001.fit)
theorem dec_Of.eq (k : Nat) (x : (Int × Int)) : runF (dec_Of.E k) (codeOf Try.f96) (dec_Of.mk x) dec_Of.re = (dec_Of.D k).f x := by kernel_rfl
theorem dec_Of.fit (s : St U) (x : (Int × Int)) (h : dec_Of.un s = some x) : Fits s (dec_Of.mk x) := by
  unfold dec_Of.un at h
  split at h
  · cases h
    refine fits_ren [] ?_ ?_ ren_nil rfl
    · exact List.forall_mem_cons.2 ⟨FV.one (FV.same (by assumption) rfl), List.forall_mem_cons.2 ⟨FV.one (FV.same (by assumption) rfl), fun _ hp => (List.not_mem_nil hp).elim⟩⟩
    · exact fun _ hp => (List.not_mem_nil hp).elim
  · cases h
theorem dec_Of.fitR (s : St U) (y : Sapi_Dec) (h : dec_Of.re s = some y) : Fits s (dec_Of.fin y) := by
  unfold dec_Of.re at h
  split at h
  · cases h
    refine fits_ren [] ?_ ?_ ren_nil rfl
    · exact List.forall_mem_cons.2 ⟨FV.one (FV.same (by assumption) rfl), fun _ hp => (List.not_mem_nil hp).elim⟩
    · exact fun _ hp => (List.not_mem_nil hp).elim
  · cases h
theorem dec_Of.sound (k : Nat) : Sound Try.prog DD 96 (dec_Of.D k) :=
  fun_sound (E := dec_Of.E k) (fn := Try.f96) (c := codeOf Try.f96) (dec_Of.ok k) mixed rfl Try.func96 (by kernel_rfl) (by kernel_rfl) (allL_of (l := []) (by kernel_rfl) allL_nil) (dec_Of.D k) dec_Of.mk dec_Of.re (by kernel_rfl) (by kernel_rfl) dec_Of.fit dec_Of.fitR (dec_Of.eq k)
/-! ### (*pyx/rate.Table).Set: function 53 -/
noncomputable def rate_Table_Set.f (k : Nat) (a0 : Srate_Table) (a1 : Srate_Key) (a2 : Sapi_Dec) : Option (Int × Srate_Table) := ((cond (decide (a1.f_Period ≥ 0)) (cond (decide (a1.f_Period < 12)) (cond (decide (a1.f_Kind ≥ 0)) (some (decide (a1.f_Kind < 3), a0.f_l, a1.f_Period, a1.f_Kind, a2.f_Neg, a2.f_C.1, a2.f_C.2, a2.f_Scale)) (some (false, a0.f_l, a1.f_Period, a1.f_Kind, a2.f_Neg, a2.f_C.1, a2.f_C.2, a2.f_Scale))) (some (false, a0.f_l, a1.f_Period, a1.f_Kind, a2.f_Neg, a2.f_C.1, a2.f_C.2, a2.f_Scale))) (some (false, a0.f_l, a1.f_Period, a1.f_Kind, a2.f_Neg, a2.f_C.1, a2.f_C.2, a2.f_Scale))) : Option (Bool × List (Srate_Key × Sapi_Dec) × Int × Int × Bool × Int × Int × Int)).bind fun y9 => (((cond (!y9.1) (some (true, y9.2.1, y9.2.2.1, y9.2.2.2.1, y9.2.2.2.2.1, y9.2.2.2.2.2.1, y9.2.2.2.2.2.2.1, y9.2.2.2.2.2.2.2)) ((dec_Sign.f k (⟨y9.2.2.2.2.1, (y9.2.2.2.2.2.1, y9.2.2.2.2.2.2.1), y9.2.2.2.2.2.2.2⟩ : Sapi_Dec)).bind fun t18 => (cond (decide (t18 ≤ 0)) (some (true, y9.2.1, y9.2.2.1, y9.2.2.2.1, y9.2.2.2.2.1, y9.2.2.2.2.2.1, y9.2.2.2.2.2.2.1, y9.2.2.2.2.2.2.2)) (cond (decide (y9.2.2.2.2.2.2.2 > 6)) (some (true, y9.2.1, y9.2.2.1, y9.2.2.2.1, y9.2.2.2.2.1, y9.2.2.2.2.2.1, y9.2.2.2.2.2.2.1, y9.2.2.2.2.2.2.2)) ((dec_Of.f k 1000000 0).bind fun t19 => ((dec_Cmp.f k (⟨y9.2.2.2.2.1, (y9.2.2.2.2.2.1, y9.2.2.2.2.2.2.1), y9.2.2.2.2.2.2.2⟩ : Sapi_Dec) (⟨t19.f_Neg, (t19.f_C.1, t19.f_C.2), t19.f_Scale⟩ : Sapi_Dec)).bind fun t20 => (some (decide (t20 ≥ 0), y9.2.1, y9.2.2.1, y9.2.2.2.1, y9.2.2.2.2.1, y9.2.2.2.2.2.1, y9.2.2.2.2.2.2.1, y9.2.2.2.2.2.2.2)))))))) : Option (Bool × List (Srate_Key × Sapi_Dec) × Int × Int × Bool × Int × Int × Int)).bind fun y21 => (cond (y21.1) (some (1, (⟨y21.2.1⟩ : Srate_Table))) (some (0, (⟨mput (keq_Srate_Key (⟨y21.2.2.1, y21.2.2.2.1⟩ : Srate_Key)) (⟨y21.2.2.1, y21.2.2.2.1⟩ : Srate_Key) (⟨y21.2.2.2.2.1, (y21.2.2.2.2.2.1, y21.2.2.2.2.2.2.1), y21.2.2.2.2.2.2.2⟩ : Sapi_Dec) y21.2.1⟩ : Srate_Table)))))
noncomputable def rate_Table_Set.un (s : St U) : Option (Srate_Table × Srate_Key × Sapi_Dec) := match s.get 0, lk s.o 7000000000000, s.get 1, s.get 2, s.get 1000000000000000 with | .ptr 7000000000000 0, some (.lit [x2]), .agg [.flat (.int .i64 x3), .flat (.int .i64 x4)], .agg [.flat (.bool x5), .flat (.int .u64 x6), .flat (.int .u64 x7), .flat (.int .i64 x8)], .ptr 7000000000000 0 => (map_Srate_Key_Sapi_Dec_t s.o x2).bind fun ex1 => (some ((⟨ex1.2⟩ : Srate_Table), (⟨x3, x4⟩ : Srate_Key), (⟨x5, (x6, x7), x8⟩ : Sapi_Dec))) | _, _, _, _, _ => none
noncomputable def rate_Table_Set.mk (x : (Srate_Table × Srate_Key × Sapi_Dec)) : St U := ⟨[(0, .ptr 7000000000000 0), (1, .agg [.flat (.int .i64 x.2.1.f_Period), .flat (.int .i64 x.2.1.f_Kind)]), (2, .agg [.flat (.bool x.2.2.f_Neg), .flat (.int .u64 x.2.2.f_C.1), .flat (.int .u64 x.2.2.f_C.2), .flat (.int .i64 x.2.2.f_Scale)]), (1000000000000000, .ptr 7000000000000 0)], [(7000000000000, .lit [.mp 7000000000001]), (7000000000001, .map true true true C.Srate_Key C.Sapi_Dec x.1.f_l)]⟩
noncomputable def rate_Table_Set.fin (y : (Int × Srate_Table)) : St U := ⟨[(0, .flat (.int .i64 y.1)), (1000000000000000, .ptr 7000000000000 0)], [(7000000000000, .lit [.mp 7000000000001]), (7000000000001, .map true true true C.Srate_Key C.Sapi_Dec y.2.f_l)]⟩
noncomputable def rate_Table_Set.D (k : Nat) : FDen U := { X := (Srate_Table × Srate_Key × Sapi_Dec), Y := (Int × Srate_Table), nt := 54, gh := [0], un := rate_Table_Set.un, f := fun x => rate_Table_Set.f k (x.1) (x.2.1) (x.2.2), fin := rate_Table_Set.fin, cl := false, clo := fun h => by cases h }
noncomputable def rate_Table_Set.re (s : St U) : Option (Int × Srate_Table) := match s.get 0, s.get 1000000000000000, lk s.o 7000000000000 with | .flat (.int .i64 x1), .ptr 7000000000000 0, some (.lit [x3]) => (map_Srate_Key_Sapi_Dec_t s.o x3).bind fun ex2 => (some (x1, (⟨ex2.2⟩ : Srate_Table))) | _, _, _ => none
noncomputable def rate_Table_Set.j1000.fin (y : (Bool × List (Srate_Key × Sapi_Dec) × Int × Int × Bool × Int × Int × Int)) : Out U := match y with | (x8, x1, x2, x3, x4, x5, x6, x7) => .norm ⟨[(0, .ptr 7000000000000 0), (4, .ptr 4 0), (5, .ptr 5 0), (1000000000000000, .ptr 7000000000000 0), (7, .flat (.bool x8))], [(7000000000000, .lit [.mp 700102100000000]), (700102100000000, .map true true true C.Srate_Key C.Sapi_Dec x1), (4, .lit [.flat (.int .i64 x2), .flat (.int .i64 x3)]), (5, .lit [.flat (.bool x4), .flat (.int .u64 x5), .flat (.int .u64 x6), .flat (.int .i64 x7)])]⟩
noncomputable def rate_Table_Set.j1000.finK {ρ : Type} (y : (Bool × List (Srate_Key × Sapi_Dec) × Int × Int × Bool × Int × Int × Int)) (K : Out U → Option ρ) : Option ρ := match y with | (x8, x1, x2, x3, x4, x5, x6, x7) => K (.norm ⟨[(0, .ptr 7000000000000 0), (4, .ptr 4 0), (5, .ptr 5 0), (1000000000000000, .ptr 7000000000000 0), (7, .flat (.bool x8))], [(7000000000000, .lit [.mp 700102100000000]), (700102100000000, .map true true true C.Srate_Key C.Sapi_Dec x1), (4, .lit [.flat (.int .i64 x2), .flat (.int .i64 x3)]), (5, .lit [.flat (.bool x4), .flat (.int .u64 x5), .flat (.int .u64 x6), .flat (.int .i64 x7)])]⟩)
theorem rate_Table_Set.j1000.finK_eq {ρ : Type} (y : (Bool × List (Srate_Key × Sapi_Dec) × Int × Int × Bool × Int × Int × Int)) (K : Out U → Option ρ) : rate_Table_Set.j1000.finK y K = K (rate_Table_Set.j1000.fin y) := by
  unfold rate_Table_Set.j1000.finK rate_Table_Set.j1000.fin
  first | rfl | (split <;> rfl)
noncomputable def rate_Table_Set.j1000.re : Out U → Option ((Bool × List (Srate_Key × Sapi_Dec) × Int × Int × Bool × Int × Int × Int)) | .norm s => (match s.get 0, s.get 4, s.get 5, s.get 1000000000000000, s.get 7, lk s.o 7000000000000, lk s.o 4, lk s.o 5 with | .ptr 7000000000000 0, .ptr 4 0, .ptr 5 0, .ptr 7000000000000 0, .flat (.bool x8), some (.lit [u7000000000000_0]), some (.lit [.flat (.int .i64 x2), .flat (.int .i64 x3)]), some (.lit [.flat (.bool x4), .flat (.int .u64 x5), .flat (.int .u64 x6), .flat (.int .i64 x7)]) => (map_Srate_Key_Sapi_Dec_t s.o u7000000000000_0).bind fun w7000000000000_0 => (some (x8, w7000000000000_0.2, x2, x3, x4, x5, x6, x7)) | _, _, _, _, _, _, _, _ => none) | _ => none
noncomputable def rate_Table_Set.j1000.J : JDen U := { Y := (Bool × List (Srate_Key × Sapi_Dec) × Int × Int × Bool × Int × Int × Int), re := rate_Table_Set.j1000.re, fin := rate_Table_Set.j1000.fin, finK := rate_Table_Set.j1000.finK, finK_eq := rate_Table_Set.j1000.finK_eq }
theorem rate_Table_Set.j1000.fit (o : Out U) (y : (Bool × List (Srate_Key × Sapi_Dec) × Int × Int × Bool × Int × Int × Int)) (h : rate_Table_Set.j1000.re o = some y) : FitsO o (rate_Table_Set.j1000.fin y) := by
  unfold rate_Table_Set.j1000.re at h
  split at h
  · split at h
    · obtain ⟨w7000000000000_0, ew7000000000000_0, h1⟩ := Option.bind_eq_some_iff.1 h
      cases h1
      refine fitsO_norm (fits_ren [(700102100000000, w7000000000000_0.1)] ?_ ?_ ren_one rfl)
      · exact List.forall_mem_cons.2 ⟨FV.one (FV.ptr (by assumption)), List.forall_mem_cons.2 ⟨FV.one (FV.ptr (by assumption)), List.forall_mem_cons.2 ⟨FV.one (FV.ptr (by assumption)), List.forall_mem_cons.2 ⟨FV.one (FV.ptr (by assumption)), List.forall_mem_cons.2 ⟨FV.one (FV.same (by assumption) rfl), fun _ hp => (List.not_mem_nil hp).elim⟩⟩⟩⟩⟩
      · exact List.forall_mem_cons.2 ⟨(FO.cells (show lk (St.o _) 7000000000000 = some _ from by assumption) (FCs.cons ((map_Srate_Key_Sapi_Dec_t_fit ew7000000000000_0 rfl).1) (FCs.nil))), List.forall_mem_cons.2 ⟨(map_Srate_Key_Sapi_Dec_t_fit ew7000000000000_0 rfl).2, List.forall_mem_cons.2 ⟨(FO.same (show lk (St.o _) 4 = some _ from by assumption) rfl), List.forall_mem_cons.2 ⟨(FO.same (show lk (St.o _) 5 = some _ from by assumption) rfl), fun _ hp => (List.not_mem_nil hp).elim⟩⟩⟩⟩
    · cases h
  · cases h
noncomputable def rate_Table_Set.j2000.fin (y : (Bool × List (Srate_Key × Sapi_Dec) × Int × Int × Bool × Int × Int × Int)) : Out U := match y with | (x17, x10, x11, x12, x13, x14, x15, x16) => .norm ⟨[(0, .ptr 7000000000000 0), (4, .ptr 4 0), (5, .ptr 5 0), (1000000000000000, .ptr 7000000000000 0), (47, .flat (.bool x17))], [(7000000000000, .lit [.mp 700102200000000]), (700102200000000, .map true true true C.Srate_Key C.Sapi_Dec x10), (4, .lit [.flat (.int .i64 x11), .flat (.int .i64 x12)]), (5, .lit [.flat (.bool x13), .flat (.int .u64 x14), .flat (.int .u64 x15), .flat (.int .i64 x16)])]⟩
noncomputable def rate_Table_Set.j2000.finK {ρ : Type} (y : (Bool × List (Srate_Key × Sapi_Dec) × Int × Int × Bool × Int × Int × Int)) (K : Out U → Option ρ) : Option ρ := match y with | (x17, x10, x11, x12, x13, x14, x15, x16) => K (.norm ⟨[(0, .ptr 7000000000000 0), (4, .ptr 4 0), (5, .ptr 5 0), (1000000000000000, .ptr 7000000000000 0), (47, .flat (.bool x17))], [(7000000000000, .lit [.mp 700102200000000]), (700102200000000, .map true true true C.Srate_Key C.Sapi_Dec x10), (4, .lit [.flat (.int .i64 x11), .flat (.int .i64 x12)]), (5, .lit [.flat (.bool x13), .flat (.int .u64 x14), .flat (.int .u64 x15), .flat (.int .i64 x16)])]⟩)
theorem rate_Table_Set.j2000.finK_eq {ρ : Type} (y : (Bool × List (Srate_Key × Sapi_Dec) × Int × Int × Bool × Int × Int × Int)) (K : Out U → Option ρ) : rate_Table_Set.j2000.finK y K = K (rate_Table_Set.j2000.fin y) := by
  unfold rate_Table_Set.j2000.finK rate_Table_Set.j2000.fin
  first | rfl | (split <;> rfl)
noncomputable def rate_Table_Set.j2000.re : Out U → Option ((Bool × List (Srate_Key × Sapi_Dec) × Int × Int × Bool × Int × Int × Int)) | .norm s => (match s.get 0, s.get 4, s.get 5, s.get 1000000000000000, s.get 47, lk s.o 7000000000000, lk s.o 4, lk s.o 5 with | .ptr 7000000000000 0, .ptr 4 0, .ptr 5 0, .ptr 7000000000000 0, .flat (.bool x17), some (.lit [u7000000000000_0]), some (.lit [.flat (.int .i64 x11), .flat (.int .i64 x12)]), some (.lit [.flat (.bool x13), .flat (.int .u64 x14), .flat (.int .u64 x15), .flat (.int .i64 x16)]) => (map_Srate_Key_Sapi_Dec_t s.o u7000000000000_0).bind fun w7000000000000_0 => (some (x17, w7000000000000_0.2, x11, x12, x13, x14, x15, x16)) | _, _, _, _, _, _, _, _ => none) | _ => none
noncomputable def rate_Table_Set.j2000.J : JDen U := { Y := (Bool × List (Srate_Key × Sapi_Dec) × Int × Int × Bool × Int × Int × Int), re := rate_Table_Set.j2000.re, fin := rate_Table_Set.j2000.fin, finK := rate_Table_Set.j2000.finK, finK_eq := rate_Table_Set.j2000.finK_eq }
theorem rate_Table_Set.j2000.fit (o : Out U) (y : (Bool × List (Srate_Key × Sapi_Dec) × Int × Int × Bool × Int × Int × Int)) (h : rate_Table_Set.j2000.re o = some y) : FitsO o (rate_Table_Set.j2000.fin y) := by
  unfold rate_Table_Set.j2000.re at h
  split at h
  · split at h
    · obtain ⟨w7000000000000_0, ew7000000000000_0, h1⟩ := Option.bind_eq_some_iff.1 h
      cases h1
      refine fitsO_norm (fits_ren [(700102200000000, w7000000000000_0.1)] ?_ ?_ ren_one rfl)
      · exact List.forall_mem_cons.2 ⟨FV.one (FV.ptr (by assumption)), List.forall_mem_cons.2 ⟨FV.one (FV.ptr (by assumption)), List.forall_mem_cons.2 ⟨FV.one (FV.ptr (by assumption)), List.forall_mem_cons.2 ⟨FV.one (FV.ptr (by assumption)), List.forall_mem_cons.2 ⟨FV.one (FV.same (by assumption) rfl), fun _ hp => (List.not_mem_nil hp).elim⟩⟩⟩⟩⟩
      · exact List.forall_mem_cons.2 ⟨(FO.cells (show lk (St.o _) 7000000000000 = some _ from by assumption) (FCs.cons ((map_Srate_Key_Sapi_Dec_t_fit ew7000000000000_0 rfl).1) (FCs.nil))), List.forall_mem_cons.2 ⟨(map_Srate_Key_Sapi_Dec_t_fit ew7000000000000_0 rfl).2, List.forall_mem_cons.2 ⟨(FO.same (show lk (St.o _) 4 = some _ from by assumption) rfl), List.forall_mem_cons.2 ⟨(FO.same (show lk (St.o _) 5 = some _ from by assumption) rfl), fun _ hp => (List.not_mem_nil hp).elim⟩⟩⟩⟩
    · cases h
  · cases h
noncomputable def rate_Table_Set.jl : List (Nat × JDen U) := [(1000, rate_Table_Set.j1000.J), (2000, rate_Table_Set.j2000.J)]
noncomputable def rate_Table_Set.fl (k : Nat) : List (Nat × FDen U) := [(37, dec_Sign.D k), (96, dec_Of.D k), (48, dec_Cmp.D k)]
noncomputable def rate_Table_Set.ll (k : Nat) : List (Nat × LDen U) := []
noncomputable def rate_Table_Set.E (k : Nat) : Env U := { P := Try.prog, D := DD, fd := lk (rate_Table_Set.fl k), sf := lk sl0, ld := lk (rate_Table_Set.ll k), jd := lk rate_Table_Set.jl, mode := lk [], elc := lk ec, mpc := lk mc, rts := Try.f53.resultTypes.toList, dyn := fun t => false, vecs := fun d => false, results := Try.f53.results.toList, gh := [0], own := false, io := fun g i => false }
theorem rate_Table_Set.ok (k : Nat) : EnvOk (rate_Table_Set.E k) := envOk lawful (rate_Table_Set.fl k) sl0 (rate_Table_Set.ll k) rate_Table_Set.jl _ _ _ _ _ _ _ _ _ _ (by
  intro p hp
  simp only [rate_Table_Set.fl, List.mem_cons, List.not_mem_nil, or_false] at hp
  rcases hp with rfl | rfl | rfl
  · exact ⟨dec_Sign.sound k, enter_of Try.func37 (by kernel_rfl) (by kernel_rfl)⟩
  · exact ⟨dec_Of.sound k, enter_of Try.func96 (by kernel_rfl) (by kernel_rfl)⟩
  · exact ⟨dec_Cmp.sound k, enter_of Try.func48 (by kernel_rfl) (by kernel_rfl)⟩) sl0_ok (by
  intro p hp
  simp only [rate_Table_Set.jl, List.mem_cons, List.not_mem_nil, or_false] at hp
  rcases hp with rfl | rfl
  · exact rate_Table_Set.j1000.fit
  · exact rate_Table_Set.j2000.fit)
theorem rate_Table_Set.eq (k : Nat) (x : (Srate_Table × Srate_Key × Sapi_Dec)) : runF (rate_Table_Set.E k) (codeOf Try.f53) (rate_Table_Set.mk x) rate_Table_Set.re = (rate_Table_Set.D k).f x := by kernel_rfl
theorem rate_Table_Set.fit (s : St U) (x : (Srate_Table × Srate_Key × Sapi_Dec)) (h : rate_Table_Set.un s = some x) : Fits s (rate_Table_Set.mk x) := by
  unfold rate_Table_Set.un at h
  split at h
  · obtain ⟨ex1, hex1, hh1⟩ := Option.bind_eq_some_iff.1 h
    cases hh1
    refine fits_ren [(7000000000001, ex1.1)] ?_ ?_ ren_one rfl
    · exact List.forall_mem_cons.2 ⟨FV.one (FV.ptr (by assumption)), List.forall_mem_cons.2 ⟨FV.one (FV.same (by assumption) rfl), List.forall_mem_cons.2 ⟨FV.one (FV.same (by assumption) rfl), List.forall_mem_cons.2 ⟨FV.one (FV.ptr (by assumption)), fun _ hp => (List.not_mem_nil hp).elim⟩⟩⟩⟩
    · exact List.forall_mem_cons.2 ⟨FO.cells (show lk (St.o _) 7000000000000 = some _ from by assumption) (FCs.cons ((map_Srate_Key_Sapi_Dec_t_fit hex1 rfl).1) (FCs.nil)), List.forall_mem_cons.2 ⟨(map_Srate_Key_Sapi_Dec_t_fit hex1 rfl).2, fun _ hp => (List.not_mem_nil hp).elim⟩⟩
  · cases h
theorem rate_Table_Set.fitR (s : St U) (y : (Int × Srate_Table)) (h : rate_Table_Set.re s = some y) : Fits s (rate_Table_Set.fin y) := by
  unfold rate_Table_Set.re at h
  split at h
  · obtain ⟨ex2, hex2, hh1⟩ := Option.bind_eq_some_iff.1 h
    cases hh1
    refine fits_ren [(7000000000001, ex2.1)] ?_ ?_ ren_one rfl
    · exact List.forall_mem_cons.2 ⟨FV.one (FV.same (by assumption) rfl), List.forall_mem_cons.2 ⟨FV.one (FV.ptr (by assumption)), fun _ hp => (List.not_mem_nil hp).elim⟩⟩
    · exact List.forall_mem_cons.2 ⟨FO.cells (show lk (St.o _) 7000000000000 = some _ from by assumption) (FCs.cons ((map_Srate_Key_Sapi_Dec_t_fit hex2 rfl).1) (FCs.nil)), List.forall_mem_cons.2 ⟨(map_Srate_Key_Sapi_Dec_t_fit hex2 rfl).2, fun _ hp => (List.not_mem_nil hp).elim⟩⟩
  · cases h
theorem rate_Table_Set.sound (k : Nat) : Sound Try.prog DD 53 (rate_Table_Set.D k) :=
  fun_sound (E := rate_Table_Set.E k) (fn := Try.f53) (c := codeOf Try.f53) (rate_Table_Set.ok k) mixed rfl Try.func53 (by kernel_rfl) (by kernel_rfl) (allL_of (l := []) (by kernel_rfl) allL_nil) (rate_Table_Set.D k) rate_Table_Set.mk rate_Table_Set.re (by kernel_rfl) (by kernel_rfl) rate_Table_Set.fit rate_Table_Set.fitR (rate_Table_Set.eq k)
/-! ### pyx/pyxlaw16.known: function 52 -/
noncomputable def pyxlaw16_known.f (k : Nat)  : Option Bool := (rate_New.f k).bind fun t1 => ((rate_Table_Get.f k (⟨t1.f_l⟩ : Srate_Table) (⟨3, 1⟩ : Srate_Key)).bind fun t2 => ((pyxref1_Of.f k 125 2).bind fun t3 => ((rate_Table_Set.f k (⟨t2.2.2.f_l⟩ : Srate_Table) (⟨3, 1⟩ : Srate_Key) (⟨t3.f_Neg, (t3.f_C.1, t3.f_C.2), t3.f_Scale⟩ : Sapi_Dec)).bind fun t4 => ((rate_Table_Get.f k (⟨t4.2.f_l⟩ : Srate_Table) (⟨3, 1⟩ : Srate_Key)).bind fun t5 => (cond (t2.2.1 == 11) (cond (t4.1 == 0) (cond (t5.2.1 == 0) ((pyxref1_Of.f k 125 2).bind fun t6 => (some ((t5.1.f_Neg == t6.f_Neg) && ((t5.1.f_C.1 == t6.f_C.1) && ((t5.1.f_C.2 == t6.f_C.2) && (t5.1.f_Scale == t6.f_Scale)))))) (some false)) (some false)) (some false))))))
noncomputable def pyxlaw16_known.un (s : St U) : Option Unit := some ()
noncomputable def pyxlaw16_known.mk (x : Unit) : St U := ⟨[], []⟩
noncomputable def pyxlaw16_known.fin (y : Bool) : St U := ⟨[(0, .flat (.bool y))], []⟩
noncomputable def pyxlaw16_known.D (k : Nat) : FDen U := { X := Unit, Y := Bool, nt := 43, gh := [], un := pyxlaw16_known.un, f := fun x => pyxlaw16_known.f k , fin := pyxlaw16_known.fin, cl := true, clo := fun _ _ => rfl }
noncomputable def pyxlaw16_known.re (s : St U) : Option Bool := match s.get 0 with | .flat (.bool x1) => some x1 | _ => none
noncomputable def pyxlaw16_known.jl : List (Nat × JDen U) := []
noncomputable def pyxlaw16_known.fl (k : Nat) : List (Nat × FDen U) := [(51, rate_New.D k), (56, rate_Table_Get.D k), (17, pyxref1_Of.D k), (53, rate_Table_Set.D k)]
noncomputable def pyxlaw16_known.ll (k : Nat) : List (Nat × LDen U) := []
noncomputable def pyxlaw16_known.E (k : Nat) : Env U := { P := Try.prog, D := DD, fd := lk (pyxlaw16_known.fl k), sf := lk sl0, ld := lk (pyxlaw16_known.ll k), jd := lk pyxlaw16_known.jl, mode := lk [], elc := lk ec, mpc := lk mc, rts := Try.f52.resultTypes.toList, dyn := fun t => false, vecs := fun d => false, results := Try.f52.results.toList, gh := [], own := false, io := fun g i => false }
theorem pyxlaw16_known.ok (k : Nat) : EnvOk (pyxlaw16_known.E k) := envOk lawful (pyxlaw16_known.fl k) sl0 (pyxlaw16_known.ll k) pyxlaw16_known.jl _ _ _ _ _ _ _ _ _ _ (by
  intro p hp
  simp only [pyxlaw16_known.fl, List.mem_cons, List.not_mem_nil, or_false] at hp
  rcases hp with rfl | rfl | rfl | rfl
  · exact ⟨rate_New.sound k, enter_of Try.func51 (by kernel_rfl) (by kernel_rfl)⟩
  · exact ⟨rate_Table_Get.sound k, enter_of Try.func56 (by kernel_rfl) (by kernel_rfl)⟩
  · exact ⟨pyxref1_Of.sound k, enter_of Try.func17 (by kernel_rfl) (by kernel_rfl)⟩
  · exact ⟨rate_Table_Set.sound k, enter_of Try.func53 (by kernel_rfl) (by kernel_rfl)⟩) sl0_ok (by
  intro p hp
  simp [pyxlaw16_known.jl] at hp)
theorem pyxlaw16_known.eq (k : Nat) (x : Unit) : runF (pyxlaw16_known.E k) (codeOf Try.f52) (pyxlaw16_known.mk x) pyxlaw16_known.re = (pyxlaw16_known.D k).f x := by kernel_rfl
theorem pyxlaw16_known.fit (s : St U) (x : Unit) (h : pyxlaw16_known.un s = some x) : Fits s (pyxlaw16_known.mk x) := by
  unfold pyxlaw16_known.un at h
  cases h
  refine fits_ren [] ?_ ?_ ren_nil rfl
  · exact fun _ hp => (List.not_mem_nil hp).elim
  · exact fun _ hp => (List.not_mem_nil hp).elim
theorem pyxlaw16_known.fitR (s : St U) (y : Bool) (h : pyxlaw16_known.re s = some y) : Fits s (pyxlaw16_known.fin y) := by
  unfold pyxlaw16_known.re at h
  split at h
  · cases h
    refine fits_ren [] ?_ ?_ ren_nil rfl
    · exact List.forall_mem_cons.2 ⟨FV.one (FV.same (by assumption) rfl), fun _ hp => (List.not_mem_nil hp).elim⟩
    · exact fun _ hp => (List.not_mem_nil hp).elim
  · cases h
theorem pyxlaw16_known.sound (k : Nat) : Sound Try.prog DD 52 (pyxlaw16_known.D k) :=
  fun_sound (E := pyxlaw16_known.E k) (fn := Try.f52) (c := codeOf Try.f52) (pyxlaw16_known.ok k) mixed rfl Try.func52 (by kernel_rfl) (by kernel_rfl) (allL_of (l := []) (by kernel_rfl) allL_nil) (pyxlaw16_known.D k) pyxlaw16_known.mk pyxlaw16_known.re (by kernel_rfl) (by kernel_rfl) pyxlaw16_known.fit pyxlaw16_known.fitR (pyxlaw16_known.eq k)
/-! ### pyx/pyxhand.Pick: function 25 -/
noncomputable def pyxhand_Pick.f (k : Nat) (a0 : Int) (a1 : Int) : Option Int := cond (a1 == 0) none (cond (decide ((Int.tmod a0 a1) < 0)) (some (IntKind.wrap .i64 ((Int.tmod a0 a1) + a1))) (some (Int.tmod a0 a1)))
noncomputable def pyxhand_Pick.un (s : St U) : Option (Int × Int) := match s.get 0, s.get 1 with | .flat (.int .i64 x1), .flat (.int .i64 x2) => some (x1, x2) | _, _ => none
noncomputable def pyxhand_Pick.mk (x : (Int × Int)) : St U := ⟨[(0, .flat (.int .i64 x.1)), (1, .flat (.int .i64 x.2))], []⟩
noncomputable def pyxhand_Pick.fin (y : Int) : St U := ⟨[(0, .flat (.int .i64 y))], []⟩
noncomputable def pyxhand_Pick.D (k : Nat) : FDen U := { X := (Int × Int), Y := Int, nt := 14, gh := [], un := pyxhand_Pick.un, f := fun x => pyxhand_Pick.f k (x.1) (x.2), fin := pyxhand_Pick.fin, cl := true, clo := fun _ _ => rfl }
noncomputable def pyxhand_Pick.re (s : St U) : Option Int := match s.get 0 with | .flat (.int .i64 x1) => some x1 | _ => none
noncomputable def pyxhand_Pick.jl : List (Nat × JDen U) := []
noncomputable def pyxhand_Pick.fl (k : Nat) : List (Nat × FDen U) := []
noncomputable def pyxhand_Pick.ll (k : Nat) : List (Nat × LDen U) := []
noncomputable def pyxhand_Pick.E (k : Nat) : Env U := { P := Try.prog, D := DD, fd := lk (pyxhand_Pick.fl k), sf := lk sl0, ld := lk (pyxhand_Pick.ll k), jd := lk pyxhand_Pick.jl, mode := lk [], elc := lk ec, mpc := lk mc, rts := Try.f25.resultTypes.toList, dyn := fun t => false, vecs := fun d => false, results := Try.f25.results.toList, gh := [], own := false, io := fun g i => false }
theorem pyxhand_Pick.ok (k : Nat) : EnvOk (pyxhand_Pick.E k) := envOk lawful (pyxhand_Pick.fl k) sl0 (pyxhand_Pick.ll k) pyxhand_Pick.jl _ _ _ _ _ _ _ _ _ _ (by
  intro p hp
  simp [pyxhand_Pick.fl] at hp) sl0_ok (by
  intro p hp
  simp [pyxhand_Pick.jl] at hp)
theorem pyxhand_Pick.eq (k : Nat) (x : (Int × Int)) : runF (pyxhand_Pick.E k) (codeOf Try.f25) (pyxhand_Pick.mk x) pyxhand_Pick.re = (pyxhand_Pick.D k).f x := by kernel_rfl
theorem pyxhand_Pick.fit (s : St U) (x : (Int × Int)) (h : pyxhand_Pick.un s = some x) : Fits s (pyxhand_Pick.mk x) := by
  unfold pyxhand_Pick.un at h
  split at h
  · cases h
    refine fits_ren [] ?_ ?_ ren_nil rfl
    · exact List.forall_mem_cons.2 ⟨FV.one (FV.same (by assumption) rfl), List.forall_mem_cons.2 ⟨FV.one (FV.same (by assumption) rfl), fun _ hp => (List.not_mem_nil hp).elim⟩⟩
    · exact fun _ hp => (List.not_mem_nil hp).elim
  · cases h
theorem pyxhand_Pick.fitR (s : St U) (y : Int) (h : pyxhand_Pick.re s = some y) : Fits s (pyxhand_Pick.fin y) := by
  unfold pyxhand_Pick.re at h
  split at h
  · cases h
    refine fits_ren [] ?_ ?_ ren_nil rfl
    · exact List.forall_mem_cons.2 ⟨FV.one (FV.same (by assumption) rfl), fun _ hp => (List.not_mem_nil hp).elim⟩
    · exact fun _ hp => (List.not_mem_nil hp).elim
  · cases h
theorem pyxhand_Pick.sound (k : Nat) : Sound Try.prog DD 25 (pyxhand_Pick.D k) :=
  fun_sound (E := pyxhand_Pick.E k) (fn := Try.f25) (c := codeOf Try.f25) (pyxhand_Pick.ok k) mixed rfl Try.func25 (by kernel_rfl) (by kernel_rfl) (allL_of (l := []) (by kernel_rfl) allL_nil) (pyxhand_Pick.D k) pyxhand_Pick.mk pyxhand_Pick.re (by kernel_rfl) (by kernel_rfl) pyxhand_Pick.fit pyxhand_Pick.fitR (pyxhand_Pick.eq k)
/-! ### slices.Clip[[]pyx/rate.Key,pyx/rate.Key]: function 97 -/
noncomputable def slices_Clip_rate_Key.f (k : Nat) (a0 : List Srate_Key) : Option (List Srate_Key) := cond (decide ((List.length a0 : Int) = (List.length a0 : Int)) && inS 0 (List.length a0 : Int) (List.length a0)) (some (List.take (Int.toNat (List.length a0 : Int)) a0)) none
noncomputable def slices_Clip_rate_Key.un (s : St U) : Option (List Srate_Key) := match s.get 0 with | .row C.Srate_Key x1 => some x1 | _ => none
noncomputable def slices_Clip_rate_Key.mk (x : List Srate_Key) : St U := ⟨[(0, .row C.Srate_Key x)], []⟩
noncomputable def slices_Clip_rate_Key.fin (y : List Srate_Key) : St U := ⟨[(0, .row C.Srate_Key y)], []⟩
noncomputable def slices_Clip_rate_Key.D (k : Nat) : FDen U := { X := List Srate_Key, Y := List Srate_Key, nt := 9, gh := [], un := slices_Clip_rate_Key.un, f := fun x => slices_Clip_rate_Key.f k (x), fin := slices_Clip_rate_Key.fin, cl := true, clo := fun _ _ => rfl }
noncomputable def slices_Clip_rate_Key.re (s : St U) : Option (List Srate_Key) := match s.get 0 with | .row C.Srate_Key x1 => some x1 | _ => none
noncomputable def slices_Clip_rate_Key.jl : List (Nat × JDen U) := []
noncomputable def slices_Clip_rate_Key.fl (k : Nat) : List (Nat × FDen U) := []
noncomputable def slices_Clip_rate_Key.ll (k : Nat) : List (Nat × LDen U) := []
noncomputable def slices_Clip_rate_Key.E (k : Nat) : Env U := { P := Try.prog, D := DD, fd := lk (slices_Clip_rate_Key.fl k), sf := lk sl0, ld := lk (slices_Clip_rate_Key.ll k), jd := lk slices_Clip_rate_Key.jl, mode := lk [], elc := lk ec, mpc := lk mc, rts := Try.f97.resultTypes.toList, dyn := fun t => false, vecs := fun d => false, results := Try.f97.results.toList, gh := [], own := false, io := fun g i => false }
theorem slices_Clip_rate_Key.ok (k : Nat) : EnvOk (slices_Clip_rate_Key.E k) := envOk lawful (slices_Clip_rate_Key.fl k) sl0 (slices_Clip_rate_Key.ll k) slices_Clip_rate_Key.jl _ _ _ _ _ _ _ _ _ _ (by
  intro p hp
  simp [slices_Clip_rate_Key.fl] at hp) sl0_ok (by
  intro p hp
  simp [slices_Clip_rate_Key.jl] at hp)
theorem slices_Clip_rate_Key.eq (k : Nat) (x : List Srate_Key) : runF (slices_Clip_rate_Key.E k) (codeOf Try.f97) (slices_Clip_rate_Key.mk x) slices_Clip_rate_Key.re = (slices_Clip_rate_Key.D k).f x := by kernel_rfl
theorem slices_Clip_rate_Key.fit (s : St U) (x : List Srate_Key) (h : slices_Clip_rate_Key.un s = some x) : Fits s (slices_Clip_rate_Key.mk x) := by
  unfold slices_Clip_rate_Key.un at h
  split at h
  · cases h
    refine fits_ren [] ?_ ?_ ren_nil rfl
    · exact List.forall_mem_cons.2 ⟨FV.one (FV.same (by assumption) rfl), fun _ hp => (List.not_mem_nil hp).elim⟩
    · exact fun _ hp => (List.not_mem_nil hp).elim
  · cases h
theorem slices_Clip_rate_Key.fitR (s : St U) (y : List Srate_Key) (h : slices_Clip_rate_Key.re s = some y) : Fits s (slices_Clip_rate_Key.fin y) := by
  unfold slices_Clip_rate_Key.re at h
  split at h
  · cases h
    refine fits_ren [] ?_ ?_ ren_nil rfl
    · exact List.forall_mem_cons.2 ⟨FV.one (FV.same (by assumption) rfl), fun _ hp => (List.not_mem_nil hp).elim⟩
    · exact fun _ hp => (List.not_mem_nil hp).elim
  · cases h
theorem slices_Clip_rate_Key.sound (k : Nat) : Sound Try.prog DD 97 (slices_Clip_rate_Key.D k) :=
  fun_sound (E := slices_Clip_rate_Key.E k) (fn := Try.f97) (c := codeOf Try.f97) (slices_Clip_rate_Key.ok k) mixed rfl Try.func97 (by kernel_rfl) (by kernel_rfl) (allL_of (l := []) (by kernel_rfl) allL_nil) (slices_Clip_rate_Key.D k) slices_Clip_rate_Key.mk slices_Clip_rate_Key.re (by kernel_rfl) (by kernel_rfl) slices_Clip_rate_Key.fit slices_Clip_rate_Key.fitR (slices_Clip_rate_Key.eq k)
/-! ### (*pyx/rate.Table).Keys: function 54 -/
noncomputable def rate_Table_Keys.f (k : Nat) (a0 : Srate_Table) : Option (List Srate_Key × Srate_Table) := cond (okLen (List.length (List.map (fun p => p.1) a0.f_l)) 16) ((slices_Clip_rate_Key.f k (srt_Srate_Key (List.map (fun p => p.1) a0.f_l))).bind fun t1 => (some (t1, (⟨a0.f_l⟩ : Srate_Table)))) none
noncomputable def rate_Table_Keys.un (s : St U) : Option Srate_Table := match s.get 0, lk s.o 7000000000000, s.get 1000000000000000 with | .ptr 7000000000000 0, some (.lit [x2]), .ptr 7000000000000 0 => (map_Srate_Key_Sapi_Dec_t s.o x2).bind fun ex1 => (some (⟨ex1.2⟩ : Srate_Table)) | _, _, _ => none
noncomputable def rate_Table_Keys.mk (x : Srate_Table) : St U := ⟨[(0, .ptr 7000000000000 0), (1000000000000000, .ptr 7000000000000 0)], [(7000000000000, .lit [.mp 7000000000001]), (7000000000001, .map true true true C.Srate_Key C.Sapi_Dec x.f_l)]⟩
noncomputable def rate_Table_Keys.fin (y : (List Srate_Key × Srate_Table)) : St U := ⟨[(0, .row C.Srate_Key y.1), (1000000000000000, .ptr 7000000000000 0)], [(7000000000000, .lit [.mp 7000000000001]), (7000000000001, .map true true true C.Srate_Key C.Sapi_Dec y.2.f_l)]⟩
noncomputable def rate_Table_Keys.D (k : Nat) : FDen U := { X := Srate_Table, Y := (List Srate_Key × Srate_Table), nt := 12, gh := [0], un := rate_Table_Keys.un, f := fun x => rate_Table_Keys.f k (x), fin := rate_Table_Keys.fin, cl := false, clo := fun h => by cases h }
noncomputable def rate_Table_Keys.re (s : St U) : Option (List Srate_Key × Srate_Table) := match s.get 0, s.get 1000000000000000, lk s.o 7000000000000 with | .row C.Srate_Key x1, .ptr 7000000000000 0, some (.lit [x3]) => (map_Srate_Key_Sapi_Dec_t s.o x3).bind fun ex2 => (some (x1, (⟨ex2.2⟩ : Srate_Table))) | _, _, _ => none
noncomputable def rate_Table_Keys.jl : List (Nat × JDen U) := []
noncomputable def rate_Table_Keys.fl (k : Nat) : List (Nat × FDen U) := [(97, slices_Clip_rate_Key.D k)]
noncomputable def rate_Table_Keys.ll (k : Nat) : List (Nat × LDen U) := []
noncomputable def rate_Table_Keys.E (k : Nat) : Env U := { P := Try.prog, D := DD, fd := lk (rate_Table_Keys.fl k), sf := lk sl1, ld := lk (rate_Table_Keys.ll k), jd := lk rate_Table_Keys.jl, mode := lk [], elc := lk ec, mpc := lk mc, rts := Try.f54.resultTypes.toList, dyn := fun t => false, vecs := fun d => false, results := Try.f54.results.toList, gh := [0], own := false, io := fun g i => false }
theorem rate_Table_Keys.ok (k : Nat) : EnvOk (rate_Table_Keys.E k) := envOk lawful (rate_Table_Keys.fl k) sl1 (rate_Table_Keys.ll k) rate_Table_Keys.jl _ _ _ _ _ _ _ _ _ _ (by
  intro p hp
  simp only [rate_Table_Keys.fl, List.mem_cons, List.not_mem_nil, or_false] at hp
  rcases hp with rfl
  · exact ⟨slices_Clip_rate_Key.sound k, enter_of Try.func97 (by kernel_rfl) (by kernel_rfl)⟩) sl1_ok (by
  intro p hp
  simp [rate_Table_Keys.jl] at hp)
theorem rate_Table_Keys.eq (k : Nat) (x : Srate_Table) : runF (rate_Table_Keys.E k) (codeOf Try.f54) (rate_Table_Keys.mk x) rate_Table_Keys.re = (rate_Table_Keys.D k).f x := by kernel_rfl
theorem rate_Table_Keys.fit (s : St U) (x : Srate_Table) (h : rate_Table_Keys.un s = some x) : Fits s (rate_Table_Keys.mk x) := by
  unfold rate_Table_Keys.un at h
  split at h
  · obtain ⟨ex1, hex1, hh1⟩ := Option.bind_eq_some_iff.1 h
    cases hh1
    refine fits_ren [(7000000000001, ex1.1)] ?_ ?_ ren_one rfl
    · exact List.forall_mem_cons.2 ⟨FV.one (FV.ptr (by assumption)), List.forall_mem_cons.2 ⟨FV.one (FV.ptr (by assumption)), fun _ hp => (List.not_mem_nil hp).elim⟩⟩
    · exact List.forall_mem_cons.2 ⟨FO.cells (show lk (St.o _) 7000000000000 = some _ from by assumption) (FCs.cons ((map_Srate_Key_Sapi_Dec_t_fit hex1 rfl).1) (FCs.nil)), List.forall_mem_cons.2 ⟨(map_Srate_Key_Sapi_Dec_t_fit hex1 rfl).2, fun _ hp => (List.not_mem_nil hp).elim⟩⟩
  · cases h
theorem rate_Table_Keys.fitR (s : St U) (y : (List Srate_Key × Srate_Table)) (h : rate_Table_Keys.re s = some y) : Fits s (rate_Table_Keys.fin y) := by
  unfold rate_Table_Keys.re at h
  split at h
  · obtain ⟨ex2, hex2, hh1⟩ := Option.bind_eq_some_iff.1 h
    cases hh1
    refine fits_ren [(7000000000001, ex2.1)] ?_ ?_ ren_one rfl
    · exact List.forall_mem_cons.2 ⟨FV.one (FV.same (by assumption) rfl), List.forall_mem_cons.2 ⟨FV.one (FV.ptr (by assumption)), fun _ hp => (List.not_mem_nil hp).elim⟩⟩
    · exact List.forall_mem_cons.2 ⟨FO.cells (show lk (St.o _) 7000000000000 = some _ from by assumption) (FCs.cons ((map_Srate_Key_Sapi_Dec_t_fit hex2 rfl).1) (FCs.nil)), List.forall_mem_cons.2 ⟨(map_Srate_Key_Sapi_Dec_t_fit hex2 rfl).2, fun _ hp => (List.not_mem_nil hp).elim⟩⟩
  · cases h
theorem rate_Table_Keys.sound (k : Nat) : Sound Try.prog DD 54 (rate_Table_Keys.D k) :=
  fun_sound (E := rate_Table_Keys.E k) (fn := Try.f54) (c := codeOf Try.f54) (rate_Table_Keys.ok k) mixed rfl Try.func54 (by kernel_rfl) (by kernel_rfl) (allL_of (l := []) (by kernel_rfl) allL_nil) (rate_Table_Keys.D k) rate_Table_Keys.mk rate_Table_Keys.re (by kernel_rfl) (by kernel_rfl) rate_Table_Keys.fit rate_Table_Keys.fitR (rate_Table_Keys.eq k)
/-! ### pyx/pyxlaw16.RateKeys: function 14 -/
noncomputable def pyxlaw16_RateKeys.l7.once (k : Nat) (x : (Int × List Int × Int × Int × List (Srate_Key × Sapi_Dec) × List Bool)) : Option ((Int × List Int × Int × Int × List (Srate_Key × Sapi_Dec) × List Bool) ⊕ ((Int × List (Srate_Key × Sapi_Dec) × List Bool) ⊕ Bool)) := match x with | (x9, x10, x11, x12, x7, x8) => cond (decide (x12 < x11)) (cond (inb x12 (List.length x10)) ((pyxhand_Pick.f k (List.getD x10 (Int.toNat x12) 0) 12).bind fun t13 => ((pyxhand_Pick.f k (IntKind.wrap .i64 (Int.tdiv (List.getD x10 (Int.toNat x12) 0) 12)) 3).bind fun t14 => ((pyxhand_Pick.f k (List.getD x10 (Int.toNat x12) 0) 999).bind fun t15 => ((pyxref1_Of.f k (IntKind.wrap .i64 (1 + t15)) 2).bind fun t16 => ((rate_Table_Set.f k (⟨x7⟩ : Srate_Table) (⟨t13, t14⟩ : Srate_Key) (⟨t16.f_Neg, (t16.f_C.1, t16.f_C.2), t16.f_Scale⟩ : Sapi_Dec)).bind fun t17 => (cond (t17.1 != 0) (some (.inr (.inr false))) (cond (inb t13 12) (cond (inb t14 3) (cond (Nat.blt ((Int.toNat t13) * 3 + Int.toNat t14) 36) (((cond (!(List.getD (pack 36 false x8) ((Int.toNat t13) * 3 + Int.toNat t14) false)) (some (IntKind.wrap .i64 (x9 + 1), x10, x11, x12, t17.2.f_l, pack 36 false x8, t13, t14)) (some (x9, x10, x11, x12, t17.2.f_l, pack 36 false x8, t13, t14))) : Option (Int × List Int × Int × Int × List (Srate_Key × Sapi_Dec) × List Bool × Int × Int)).bind fun y26 => (cond (inb y26.2.2.2.2.2.2.1 12) (cond (inb y26.2.2.2.2.2.2.2 3) (cond (Nat.blt ((Int.toNat y26.2.2.2.2.2.2.1) * 3 + Int.toNat y26.2.2.2.2.2.2.2) 36) (some (.inl (y26.1, y26.2.1, y26.2.2.1, IntKind.wrap .i64 (y26.2.2.2.1 + 1), y26.2.2.2.2.1, putAll ((Int.toNat y26.2.2.2.2.2.2.1) * 3 + Int.toNat y26.2.2.2.2.2.2.2) true 0 (pack 36 false y26.2.2.2.2.2.1)))) none) none) none)) none) none) none))))))) none) (some (.inr (.inl (x9, x7, pack 36 false x8))))
noncomputable def pyxlaw16_RateKeys.l18.once (k : Nat) (x : (Int × List Srate_Key × List Srate_Key × Int × Int × List Bool)) : Option ((Int × List Srate_Key × List Srate_Key × Int × Int × List Bool) ⊕ ((Int × List Srate_Key) ⊕ Bool)) := match x with | (x34, x35, x36, x37, x38, x33) => cond (decide (x38 < x37)) (cond (inb x38 (List.length x36)) (((cond (decide (((List.getD x36 (Int.toNat x38) Srate_Key.zero).f_Period) < 0)) (some (x34, x35, x36, x37, x38, true, pack 36 false x33)) (cond (decide (((List.getD x36 (Int.toNat x38) Srate_Key.zero).f_Period) ≥ 12)) (some (x34, x35, x36, x37, x38, true, pack 36 false x33)) (cond (decide (((List.getD x36 (Int.toNat x38) Srate_Key.zero).f_Kind) < 0)) (some (x34, x35, x36, x37, x38, true, pack 36 false x33)) (cond (decide (((List.getD x36 (Int.toNat x38) Srate_Key.zero).f_Kind) > 2)) (some (x34, x35, x36, x37, x38, true, pack 36 false x33)) (cond (inb ((List.getD x36 (Int.toNat x38) Srate_Key.zero).f_Period) 12) (cond (inb ((List.getD x36 (Int.toNat x38) Srate_Key.zero).f_Kind) 3) (cond (Nat.blt ((Int.toNat ((List.getD x36 (Int.toNat x38) Srate_Key.zero).f_Period)) * 3 + Int.toNat ((List.getD x36 (Int.toNat x38) Srate_Key.zero).f_Kind)) 36) (cond (!(List.getD (pack 36 false x33) ((Int.toNat ((List.getD x36 (Int.toNat x38) Srate_Key.zero).f_Period)) * 3 + Int.toNat ((List.getD x36 (Int.toNat x38) Srate_Key.zero).f_Kind)) false)) (some (x34, x35, x36, x37, x38, true, pack 36 false x33)) (cond (decide (x38 > 0)) (cond (inb (IntKind.wrap .i64 (x38 - 1)) (List.length x35)) (cond (inb (IntKind.wrap .i64 (x38 - 1)) (List.length x35)) (some (x34, x35, x36, x37, x38, decide ((IntKind.wrap .i64 ((IntKind.wrap .i64 (3 * ((List.getD x35 (Int.toNat (IntKind.wrap .i64 (x38 - 1))) Srate_Key.zero).f_Period))) + ((List.getD x35 (Int.toNat (IntKind.wrap .i64 (x38 - 1))) Srate_Key.zero).f_Kind))) ≥ (IntKind.wrap .i64 ((IntKind.wrap .i64 (3 * ((List.getD x36 (Int.toNat x38) Srate_Key.zero).f_Period))) + ((List.getD x36 (Int.toNat x38) Srate_Key.zero).f_Kind)))), pack 36 false x33)) none) none) (some (x34, x35, x36, x37, x38, false, pack 36 false x33)))) none) none) none))))) : Option (Int × List Srate_Key × List Srate_Key × Int × Int × Bool × List Bool)).bind fun y46 => (cond (y46.2.2.2.2.2.1) (some (.inr (.inr false))) (some (.inl (y46.1, y46.2.1, y46.2.2.1, y46.2.2.2.1, IntKind.wrap .i64 (y46.2.2.2.2.1 + 1), pack 36 false y46.2.2.2.2.2.2))))) none) (some (.inr (.inl (x34, x35))))
noncomputable def pyxlaw16_RateKeys.f (k : Nat) (a0 : List Int) : Option Bool := (rate_New.f k).bind fun t1 => ((((pyxlaw16_known.f k).bind fun t2 => (cond (!t2) (some (a0, true, t1.f_l)) (some (a0, false, t1.f_l)))) : Option (List Int × Bool × List (Srate_Key × Sapi_Dec))).bind fun y6 => (cond (y6.2.1) (some false) ((iter (pyxlaw16_RateKeys.l7.once k) k (0, y6.1, (List.length y6.1 : Int), 0, y6.2.2, [false, false, false, false, false, false, false, false, false, false, false, false, false, false, false, false, false, false, false, false, false, false, false, false, false, false, false, false, false, false, false, false, false, false, false, false])).bind fun | .inl y31 => ((rate_Table_Keys.f k (⟨y31.2.1⟩ : Srate_Table)).bind fun t32 => ((iter (pyxlaw16_RateKeys.l18.once k) k (y31.1, t32.1, t32.1, (List.length t32.1 : Int), 0, pack 36 false y31.2.2)).bind fun | .inl y50 => (some ((List.length y50.2 : Int) == y50.1)) | .inr y51 => (some y51))) | .inr y52 => (some y52))))
noncomputable def pyxlaw16_RateKeys.un (s : St U) : Option (List Int) := match s.get 0 with | .row C.i64 x1 => some x1 | _ => none
noncomputable def pyxlaw16_RateKeys.mk (x : List Int) : St U := ⟨[(0, .row C.i64 x)], []⟩
noncomputable def pyxlaw16_RateKeys.fin (y : Bool) : St U := ⟨[(0, .flat (.bool y))], []⟩
noncomputable def pyxlaw16_RateKeys.D (k : Nat) : FDen U := { X := List Int, Y := Bool, nt := 125, gh := [], un := pyxlaw16_RateKeys.un, f := fun x => pyxlaw16_RateKeys.f k (x), fin := pyxlaw16_RateKeys.fin, cl := true, clo := fun _ _ => rfl }
noncomputable def pyxlaw16_RateKeys.re (s : St U) : Option Bool := match s.get 0 with | .flat (.bool x1) => some x1 | _ => none
noncomputable def pyxlaw16_RateKeys.l7.mk (x : (Int × List Int × Int × Int × List (Srate_Key × Sapi_Dec) × List Bool)) : St U := match x with | (x9, x10, x11, x12, x7, x8) => ⟨[(3, .ptr 130000000000003 0), (4, .ptr 4 0), (5, .flat (.int .i64 x9)), (19, .row C.i64 x10), (20, .flat (.int .i64 x11)), (21, .flat (.int .i64 x12))], [(130000000000003, .lit [.mp 13000002000700300]), (13000002000700300, .map true true true C.Srate_Key C.Sapi_Dec x7), (4, .lit ((Cd.arr 36 false Cd.bool).enc x8))]⟩
noncomputable def pyxlaw16_RateKeys.l7.un (s : St U) : Option (Int × List Int × Int × Int × List (Srate_Key × Sapi_Dec) × List Bool) := (row_i64 (s.get 19)).bind fun q0 => ((Cd.ofLit (Cd.arr 36 false Cd.bool) s.o 4).bind fun q1 => (match s.get 3, s.get 4, s.get 5, s.get 20, s.get 21, lk s.o 130000000000003 with | .ptr 130000000000003 0, .ptr 4 0, .flat (.int .i64 x9), .flat (.int .i64 x11), .flat (.int .i64 x12), some (.lit [u130000000000003_0]) => (map_Srate_Key_Sapi_Dec_t s.o u130000000000003_0).bind fun w130000000000003_0 => (some (x9, q0, x11, x12, w130000000000003_0.2, q1)) | _, _, _, _, _, _ => none))
noncomputable def pyxlaw16_RateKeys.l7.fin (y : (Int × List (Srate_Key × Sapi_Dec) × List Bool) ⊕ Bool) : Out U := match y with | .inl (x29, x27, x28) => .exit 0 ⟨[(3, .ptr 130000000000003 0), (4, .ptr 4 0), (5, .flat (.int .i64 x29))], [(130000000000003, .lit [.mp 13000002000700300]), (13000002000700300, .map true true true C.Srate_Key C.Sapi_Dec x27), (4, .lit ((Cd.arr 36 false Cd.bool).enc x28))]⟩ | .inr z => .ret (⟨[(0, .flat (.bool z))], []⟩)
noncomputable def pyxlaw16_RateKeys.l7.finK {ρ : Type} (y : (Int × List (Srate_Key × Sapi_Dec) × List Bool) ⊕ Bool) (K : Out U → Option ρ) : Option ρ := match y with | .inl (x29, x27, x28) => K (.exit 0 ⟨[(3, .ptr 130000000000003 0), (4, .ptr 4 0), (5, .flat (.int .i64 x29))], [(130000000000003, .lit [.mp 13000002000700300]), (13000002000700300, .map true true true C.Srate_Key C.Sapi_Dec x27), (4, .lit ((Cd.arr 36 false Cd.bool).enc x28))]⟩) | .inr z => K (.ret (⟨[(0, .flat (.bool z))], []⟩))
theorem pyxlaw16_RateKeys.l7.finK_eq {ρ : Type} (y : (Int × List (Srate_Key × Sapi_Dec) × List Bool) ⊕ Bool) (K : Out U → Option ρ) : pyxlaw16_RateKeys.l7.finK y K = K (pyxlaw16_RateKeys.l7.fin y) := by
  unfold pyxlaw16_RateKeys.l7.finK pyxlaw16_RateKeys.l7.fin
  first | rfl | (split <;> rfl)
noncomputable def pyxlaw16_RateKeys.l7.re : Out U → Option ((Int × List (Srate_Key × Sapi_Dec) × List Bool) ⊕ Bool) | .exit 0 s => ((Cd.ofLit (Cd.arr 36 false Cd.bool) s.o 4).bind fun q0 => (match s.get 3, s.get 4, s.get 5, lk s.o 130000000000003 with | .ptr 130000000000003 0, .ptr 4 0, .flat (.int .i64 x29), some (.lit [u130000000000003_0]) => (map_Srate_Key_Sapi_Dec_t s.o u130000000000003_0).bind fun w130000000000003_0 => (some (.inl (x29, w130000000000003_0.2, q0))) | _, _, _, _ => none)) | .ret s => (match s.get 0 with | .flat (.bool x1) => some (.inr x1) | _ => none) | _ => none
noncomputable def pyxlaw16_RateKeys.l7.L (k : Nat) : LDen U := { X := (Int × List Int × Int × Int × List (Srate_Key × Sapi_Dec) × List Bool), Y := (Int × List (Srate_Key × Sapi_Dec) × List Bool) ⊕ Bool, un := pyxlaw16_RateKeys.l7.un, f := iter (pyxlaw16_RateKeys.l7.once k) k, fin := pyxlaw16_RateKeys.l7.fin, finK := pyxlaw16_RateKeys.l7.finK, finK_eq := pyxlaw16_RateKeys.l7.finK_eq }
noncomputable def pyxlaw16_RateKeys.l18.mk (x : (Int × List Srate_Key × List Srate_Key × Int × Int × List Bool)) : St U := match x with | (x34, x35, x36, x37, x38, x33) => ⟨[(4, .ptr 4 0), (5, .flat (.int .i64 x34)), (9, .row C.Srate_Key x35), (58, .row C.Srate_Key x36), (59, .flat (.int .i64 x37)), (60, .flat (.int .i64 x38))], [(4, .lit ((Cd.arr 36 false Cd.bool).enc x33))]⟩
noncomputable def pyxlaw16_RateKeys.l18.un (s : St U) : Option (Int × List Srate_Key × List Srate_Key × Int × Int × List Bool) := (row_Srate_Key (s.get 9)).bind fun q0 => ((row_Srate_Key (s.get 58)).bind fun q1 => ((Cd.ofLit (Cd.arr 36 false Cd.bool) s.o 4).bind fun q2 => (match s.get 4, s.get 5, s.get 59, s.get 60 with | .ptr 4 0, .flat (.int .i64 x34), .flat (.int .i64 x37), .flat (.int .i64 x38) => some (x34, q0, q1, x37, x38, q2) | _, _, _, _ => none)))
noncomputable def pyxlaw16_RateKeys.l18.fin (y : (Int × List Srate_Key) ⊕ Bool) : Out U := match y with | .inl (x47, x48) => .exit 2 ⟨[(5, .flat (.int .i64 x47)), (9, .row C.Srate_Key x48)], []⟩ | .inr z => .ret (⟨[(0, .flat (.bool z))], []⟩)
noncomputable def pyxlaw16_RateKeys.l18.finK {ρ : Type} (y : (Int × List Srate_Key) ⊕ Bool) (K : Out U → Option ρ) : Option ρ := match y with | .inl (x47, x48) => K (.exit 2 ⟨[(5, .flat (.int .i64 x47)), (9, .row C.Srate_Key x48)], []⟩) | .inr z => K (.ret (⟨[(0, .flat (.bool z))], []⟩))
theorem pyxlaw16_RateKeys.l18.finK_eq {ρ : Type} (y : (Int × List Srate_Key) ⊕ Bool) (K : Out U → Option ρ) : pyxlaw16_RateKeys.l18.finK y K = K (pyxlaw16_RateKeys.l18.fin y) := by
  unfold pyxlaw16_RateKeys.l18.finK pyxlaw16_RateKeys.l18.fin
  first | rfl | (split <;> rfl)
noncomputable def pyxlaw16_RateKeys.l18.re : Out U → Option ((Int × List Srate_Key) ⊕ Bool) | .exit 2 s => ((row_Srate_Key (s.get 9)).bind fun q0 => (match s.get 5 with | .flat (.int .i64 x47) => some (.inl (x47, q0)) | _ => none)) | .ret s => (match s.get 0 with | .flat (.bool x1) => some (.inr x1) | _ => none) | _ => none
noncomputable def pyxlaw16_RateKeys.l18.L (k : Nat) : LDen U := { X := (Int × List Srate_Key × List Srate_Key × Int × Int × List Bool), Y := (Int × List Srate_Key) ⊕ Bool, un := pyxlaw16_RateKeys.l18.un, f := iter (pyxlaw16_RateKeys.l18.once k) k, fin := pyxlaw16_RateKeys.l18.fin, finK := pyxlaw16_RateKeys.l18.finK, finK_eq := pyxlaw16_RateKeys.l18.finK_eq }
noncomputable def pyxlaw16_RateKeys.j2000.fin (y : (List Int × Bool × List (Srate_Key × Sapi_Dec))) : Out U := match y with | (x3, x5, x4) => .norm ⟨[(3, .ptr 130000000000003 0), (0, .row C.i64 x3), (18, .flat (.bool x5))], [(130000000000003, .lit [.mp 13000102200000300]), (13000102200000300, .map true true true C.Srate_Key C.Sapi_Dec x4)]⟩
noncomputable def pyxlaw16_RateKeys.j2000.finK {ρ : Type} (y : (List Int × Bool × List (Srate_Key × Sapi_Dec))) (K : Out U → Option ρ) : Option ρ := match y with | (x3, x5, x4) => K (.norm ⟨[(3, .ptr 130000000000003 0), (0, .row C.i64 x3), (18, .flat (.bool x5))], [(130000000000003, .lit [.mp 13000102200000300]), (13000102200000300, .map true true true C.Srate_Key C.Sapi_Dec x4)]⟩)
theorem pyxlaw16_RateKeys.j2000.finK_eq {ρ : Type} (y : (List Int × Bool × List (Srate_Key × Sapi_Dec))) (K : Out U → Option ρ) : pyxlaw16_RateKeys.j2000.finK y K = K (pyxlaw16_RateKeys.j2000.fin y) := by
  unfold pyxlaw16_RateKeys.j2000.finK pyxlaw16_RateKeys.j2000.fin
  first | rfl | (split <;> rfl)
noncomputable def pyxlaw16_RateKeys.j2000.re : Out U → Option ((List Int × Bool × List (Srate_Key × Sapi_Dec))) | .norm s => ((row_i64 (s.get 0)).bind fun q0 => (match s.get 3, s.get 18, lk s.o 130000000000003 with | .ptr 130000000000003 0, .flat (.bool x5), some (.lit [u130000000000003_0]) => (map_Srate_Key_Sapi_Dec_t s.o u130000000000003_0).bind fun w130000000000003_0 => (some (q0, x5, w130000000000003_0.2)) | _, _, _ => none)) | _ => none
noncomputable def pyxlaw16_RateKeys.j2000.J : JDen U := { Y := (List Int × Bool × List (Srate_Key × Sapi_Dec)), re := pyxlaw16_RateKeys.j2000.re, fin := pyxlaw16_RateKeys.j2000.fin, finK := pyxlaw16_RateKeys.j2000.finK, finK_eq := pyxlaw16_RateKeys.j2000.finK_eq }
theorem pyxlaw16_RateKeys.j2000.fit (o : Out U) (y : (List Int × Bool × List (Srate_Key × Sapi_Dec))) (h : pyxlaw16_RateKeys.j2000.re o = some y) : FitsO o (pyxlaw16_RateKeys.j2000.fin y) := by
  unfold pyxlaw16_RateKeys.j2000.re at h
  split at h
  · obtain ⟨q0, eq0, h1⟩ := Option.bind_eq_some_iff.1 h
    split at h1
    · obtain ⟨w130000000000003_0, ew130000000000003_0, h2⟩ := Option.bind_eq_some_iff.1 h1
      cases h2
      refine fitsO_norm (fits_ren [(13000102200000300, w130000000000003_0.1)] ?_ ?_ ren_one rfl)
      · exact List.forall_mem_cons.2 ⟨FV.one (FV.ptr (by assumption)), List.forall_mem_cons.2 ⟨FV.one (row_i64_fit eq0), List.forall_mem_cons.2 ⟨FV.one (FV.same (by assumption) rfl), fun _ hp => (List.not_mem_nil hp).elim⟩⟩⟩
      · exact List.forall_mem_cons.2 ⟨(FO.cells (show lk (St.o _) 130000000000003 = some _ from by assumption) (FCs.cons ((map_Srate_Key_Sapi_Dec_t_fit ew130000000000003_0 rfl).1) (FCs.nil))), List.forall_mem_cons.2 ⟨(map_Srate_Key_Sapi_Dec_t_fit ew130000000000003_0 rfl).2, fun _ hp => (List.not_mem_nil hp).elim⟩⟩
    · cases h1
  · cases h
noncomputable def pyxlaw16_RateKeys.j13001.fin (y : (Int × List Int × Int × Int × List (Srate_Key × Sapi_Dec) × List Bool × Int × Int)) : Out U := match y with | (x20, x23, x24, x25, x18, x19, x21, x22) => .norm ⟨[(3, .ptr 130000000000003 0), (4, .ptr 4 0), (8, .ptr 8 0), (5, .flat (.int .i64 x20)), (19, .row C.i64 x23), (20, .flat (.int .i64 x24)), (21, .flat (.int .i64 x25))], [(130000000000003, .lit [.mp 13000103300100300]), (13000103300100300, .map true true true C.Srate_Key C.Sapi_Dec x18), (4, .lit ((Cd.arr 36 false Cd.bool).enc x19)), (8, .lit [.flat (.int .i64 x21), .flat (.int .i64 x22)])]⟩
noncomputable def pyxlaw16_RateKeys.j13001.finK {ρ : Type} (y : (Int × List Int × Int × Int × List (Srate_Key × Sapi_Dec) × List Bool × Int × Int)) (K : Out U → Option ρ) : Option ρ := match y with | (x20, x23, x24, x25, x18, x19, x21, x22) => K (.norm ⟨[(3, .ptr 130000000000003 0), (4, .ptr 4 0), (8, .ptr 8 0), (5, .flat (.int .i64 x20)), (19, .row C.i64 x23), (20, .flat (.int .i64 x24)), (21, .flat (.int .i64 x25))], [(130000000000003, .lit [.mp 13000103300100300]), (13000103300100300, .map true true true C.Srate_Key C.Sapi_Dec x18), (4, .lit ((Cd.arr 36 false Cd.bool).enc x19)), (8, .lit [.flat (.int .i64 x21), .flat (.int .i64 x22)])]⟩)
theorem pyxlaw16_RateKeys.j13001.finK_eq {ρ : Type} (y : (Int × List Int × Int × Int × List (Srate_Key × Sapi_Dec) × List Bool × Int × Int)) (K : Out U → Option ρ) : pyxlaw16_RateKeys.j13001.finK y K = K (pyxlaw16_RateKeys.j13001.fin y) := by
  unfold pyxlaw16_RateKeys.j13001.finK pyxlaw16_RateKeys.j13001.fin
  first | rfl | (split <;> rfl)
noncomputable def pyxlaw16_RateKeys.j13001.re : Out U → Option ((Int × List Int × Int × Int × List (Srate_Key × Sapi_Dec) × List Bool × Int × Int)) | .norm s => ((row_i64 (s.get 19)).bind fun q0 => ((Cd.ofLit (Cd.arr 36 false Cd.bool) s.o 4).bind fun q1 => (match s.get 3, s.get 4, s.get 8, s.get 5, s.get 20, s.get 21, lk s.o 130000000000003, lk s.o 8 with | .ptr 130000000000003 0, .ptr 4 0, .ptr 8 0, .flat (.int .i64 x20), .flat (.int .i64 x24), .flat (.int .i64 x25), some (.lit [u130000000000003_0]), some (.lit [.flat (.int .i64 x21), .flat (.int .i64 x22)]) => (map_Srate_Key_Sapi_Dec_t s.o u130000000000003_0).bind fun w130000000000003_0 => (some (x20, q0, x24, x25, w130000000000003_0.2, q1, x21, x22)) | _, _, _, _, _, _, _, _ => none))) | _ => none
noncomputable def pyxlaw16_RateKeys.j13001.J : JDen U := { Y := (Int × List Int × Int × Int × List (Srate_Key × Sapi_Dec) × List Bool × Int × Int), re := pyxlaw16_RateKeys.j13001.re, fin := pyxlaw16_RateKeys.j13001.fin, finK := pyxlaw16_RateKeys.j13001.finK, finK_eq := pyxlaw16_RateKeys.j13001.finK_eq }
theorem pyxlaw16_RateKeys.j13001.fit (o : Out U) (y : (Int × List Int × Int × Int × List (Srate_Key × Sapi_Dec) × List Bool × Int × Int)) (h : pyxlaw16_RateKeys.j13001.re o = some y) : FitsO o (pyxlaw16_RateKeys.j13001.fin y) := by
  unfold pyxlaw16_RateKeys.j13001.re at h
  split at h
  · obtain ⟨q0, eq0, h1⟩ := Option.bind_eq_some_iff.1 h
    obtain ⟨q1, eq1, h2⟩ := Option.bind_eq_some_iff.1 h1
    split at h2
    · obtain ⟨w130000000000003_0, ew130000000000003_0, h3⟩ := Option.bind_eq_some_iff.1 h2
      cases h3
      refine fitsO_norm (fits_ren [(13000103300100300, w130000000000003_0.1)] ?_ ?_ ren_one rfl)
      · exact List.forall_mem_cons.2 ⟨FV.one (FV.ptr (by assumption)), List.forall_mem_cons.2 ⟨FV.one (FV.ptr (by assumption)), List.forall_mem_cons.2 ⟨FV.one (FV.ptr (by assumption)), List.forall_mem_cons.2 ⟨FV.one (FV.same (by assumption) rfl), List.forall_mem_cons.2 ⟨FV.one (row_i64_fit eq0), List.forall_mem_cons.2 ⟨FV.one (FV.same (by assumption) rfl), List.forall_mem_cons.2 ⟨FV.one (FV.same (by assumption) rfl), fun _ hp => (List.not_mem_nil hp).elim⟩⟩⟩⟩⟩⟩⟩
      · exact List.forall_mem_cons.2 ⟨(FO.cells (show lk (St.o _) 130000000000003 = some _ from by assumption) (FCs.cons ((map_Srate_Key_Sapi_Dec_t_fit ew130000000000003_0 rfl).1) (FCs.nil))), List.forall_mem_cons.2 ⟨(map_Srate_Key_Sapi_Dec_t_fit ew130000000000003_0 rfl).2, List.forall_mem_cons.2 ⟨(FO.same (Cd.ofLit_ok eq1) rfl), List.forall_mem_cons.2 ⟨(FO.same (show lk (St.o _) 8 = some _ from by assumption) rfl), fun _ hp => (List.not_mem_nil hp).elim⟩⟩⟩⟩
    · cases h2
  · cases h
noncomputable def pyxlaw16_RateKeys.j20000.fin (y : (Int × List Srate_Key × List Srate_Key × Int × Int × Bool × List Bool)) : Out U := match y with | (x40, x41, x42, x43, x44, x45, x39) => .norm ⟨[(4, .ptr 4 0), (5, .flat (.int .i64 x40)), (9, .row C.Srate_Key x41), (58, .row C.Srate_Key x42), (59, .flat (.int .i64 x43)), (60, .flat (.int .i64 x44)), (119, .flat (.bool x45))], [(4, .lit ((Cd.arr 36 false Cd.bool).enc x39))]⟩
noncomputable def pyxlaw16_RateKeys.j20000.finK {ρ : Type} (y : (Int × List Srate_Key × List Srate_Key × Int × Int × Bool × List Bool)) (K : Out U → Option ρ) : Option ρ := match y with | (x40, x41, x42, x43, x44, x45, x39) => K (.norm ⟨[(4, .ptr 4 0), (5, .flat (.int .i64 x40)), (9, .row C.Srate_Key x41), (58, .row C.Srate_Key x42), (59, .flat (.int .i64 x43)), (60, .flat (.int .i64 x44)), (119, .flat (.bool x45))], [(4, .lit ((Cd.arr 36 false Cd.bool).enc x39))]⟩)
theorem pyxlaw16_RateKeys.j20000.finK_eq {ρ : Type} (y : (Int × List Srate_Key × List Srate_Key × Int × Int × Bool × List Bool)) (K : Out U → Option ρ) : pyxlaw16_RateKeys.j20000.finK y K = K (pyxlaw16_RateKeys.j20000.fin y) := by
  unfold pyxlaw16_RateKeys.j20000.finK pyxlaw16_RateKeys.j20000.fin
  first | rfl | (split <;> rfl)
noncomputable def pyxlaw16_RateKeys.j20000.re : Out U → Option ((Int × List Srate_Key × List Srate_Key × Int × Int × Bool × List Bool)) | .norm s => ((row_Srate_Key (s.get 9)).bind fun q0 => ((row_Srate_Key (s.get 58)).bind fun q1 => ((Cd.ofLit (Cd.arr 36 false Cd.bool) s.o 4).bind fun q2 => (match s.get 4, s.get 5, s.get 59, s.get 60, s.get 119 with | .ptr 4 0, .flat (.int .i64 x40), .flat (.int .i64 x43), .flat (.int .i64 x44), .flat (.bool x45) => some (x40, q0, q1, x43, x44, x45, q2) | _, _, _, _, _ => none)))) | _ => none
noncomputable def pyxlaw16_RateKeys.j20000.J : JDen U := { Y := (Int × List Srate_Key × List Srate_Key × Int × Int × Bool × List Bool), re := pyxlaw16_RateKeys.j20000.re, fin := pyxlaw16_RateKeys.j20000.fin, finK := pyxlaw16_RateKeys.j20000.finK, finK_eq := pyxlaw16_RateKeys.j20000.finK_eq }
theorem pyxlaw16_RateKeys.j20000.fit (o : Out U) (y : (Int × List Srate_Key × List Srate_Key × Int × Int × Bool × List Bool)) (h : pyxlaw16_RateKeys.j20000.re o = some y) : FitsO o (pyxlaw16_RateKeys.j20000.fin y) := by
  unfold pyxlaw16_RateKeys.j20000.re at h
  split at h
  · obtain ⟨q0, eq0, h1⟩ := Option.bind_eq_some_iff.1 h
    obtain ⟨q1, eq1, h2⟩ := Option.bind_eq_some_iff.1 h1
    obtain ⟨q2, eq2, h3⟩ := Option.bind_eq_some_iff.1 h2
    split at h3
    · cases h3
      refine fitsO_norm (fits_ren [] ?_ ?_ ren_nil rfl)
      · exact List.forall_mem_cons.2 ⟨FV.one (FV.ptr (by assumption)), List.forall_mem_cons.2 ⟨FV.one (FV.same (by assumption) rfl), List.forall_mem_cons.2 ⟨FV.one (row_Srate_Key_fit eq0), List.forall_mem_cons.2 ⟨FV.one (row_Srate_Key_fit eq1), List.forall_mem_cons.2 ⟨FV.one (FV.same (by assumption) rfl), List.forall_mem_cons.2 ⟨FV.one (FV.same (by assumption) rfl), List.forall_mem_cons.2 ⟨FV.one (FV.same (by assumption) rfl), fun _ hp => (List.not_mem_nil hp).elim⟩⟩⟩⟩⟩⟩⟩
      · exact List.forall_mem_cons.2 ⟨(FO.same (Cd.ofLit_ok eq2) rfl), fun _ hp => (List.not_mem_nil hp).elim⟩
    · cases h3
  · cases h
noncomputable def pyxlaw16_RateKeys.jl : List (Nat × JDen U) := [(2000, pyxlaw16_RateKeys.j2000.J), (13001, pyxlaw16_RateKeys.j13001.J), (20000, pyxlaw16_RateKeys.j20000.J)]
noncomputable def pyxlaw16_RateKeys.fl (k : Nat) : List (Nat × FDen U) := [(51, rate_New.D k), (52, pyxlaw16_known.D k), (25, pyxhand_Pick.D k), (17, pyxref1_Of.D k), (53, rate_Table_Set.D k), (54, rate_Table_Keys.D k)]
noncomputable def pyxlaw16_RateKeys.ll (k : Nat) : List (Nat × LDen U) := [(7, pyxlaw16_RateKeys.l7.L k), (18, pyxlaw16_RateKeys.l18.L k)]
noncomputable def pyxlaw16_RateKeys.E (k : Nat) : Env U := { P := Try.prog, D := DD, fd := lk (pyxlaw16_RateKeys.fl k), sf := lk sl0, ld := lk (pyxlaw16_RateKeys.ll k), jd := lk pyxlaw16_RateKeys.jl, mode := lk [], elc := lk ec, mpc := lk mc, rts := Try.f14.resultTypes.toList, dyn := fun t => Nat.beq t 115, vecs := fun d => false, results := Try.f14.results.toList, gh := [], own := false, io := fun g i => false }
theorem pyxlaw16_RateKeys.ok (k : Nat) : EnvOk (pyxlaw16_RateKeys.E k) := envOk lawful (pyxlaw16_RateKeys.fl k) sl0 (pyxlaw16_RateKeys.ll k) pyxlaw16_RateKeys.jl _ _ _ _ _ _ _ _ _ _ (by
  intro p hp
  simp only [pyxlaw16_RateKeys.fl, List.mem_cons, List.not_mem_nil, or_false] at hp
  rcases hp with rfl | rfl | rfl | rfl | rfl | rfl
  · exact ⟨rate_New.sound k, enter_of Try.func51 (by kernel_rfl) (by kernel_rfl)⟩
  · exact ⟨pyxlaw16_known.sound k, enter_of Try.func52 (by kernel_rfl) (by kernel_rfl)⟩
  · exact ⟨pyxhand_Pick.sound k, enter_of Try.func25 (by kernel_rfl) (by kernel_rfl)⟩
  · exact ⟨pyxref1_Of.sound k, enter_of Try.func17 (by kernel_rfl) (by kernel_rfl)⟩
  · exact ⟨rate_Table_Set.sound k, enter_of Try.func53 (by kernel_rfl) (by kernel_rfl)⟩
  · exact ⟨rate_Table_Keys.sound k, enter_of Try.func54 (by kernel_rfl) (by kernel_rfl)⟩) sl0_ok (by
  intro p hp
  simp only [pyxlaw16_RateKeys.jl, List.mem_cons, List.not_mem_nil, or_false] at hp
  rcases hp with rfl | rfl | rfl
  · exact pyxlaw16_RateKeys.j2000.fit
  · exact pyxlaw16_RateKeys.j13001.fit
  · exact pyxlaw16_RateKeys.j20000.fit)
theorem pyxlaw16_RateKeys.l7.eq (k : Nat) (x : (Int × List Int × Int × Int × List (Srate_Key × Sapi_Dec) × List Bool)) : evC (pyxlaw16_RateKeys.E k) (loopAt Try.f14 7) (pyxlaw16_RateKeys.l7.mk x) (headK pyxlaw16_RateKeys.l7.un pyxlaw16_RateKeys.l7.re) = pyxlaw16_RateKeys.l7.once k x := by kernel_rfl
theorem pyxlaw16_RateKeys.l7.fit (s : St U) (x : (Int × List Int × Int × Int × List (Srate_Key × Sapi_Dec) × List Bool)) (h : pyxlaw16_RateKeys.l7.un s = some x) : Fits s (pyxlaw16_RateKeys.l7.mk x) := by
  unfold pyxlaw16_RateKeys.l7.un at h
  obtain ⟨q0, eq0, h1⟩ := Option.bind_eq_some_iff.1 h
  obtain ⟨q1, eq1, h2⟩ := Option.bind_eq_some_iff.1 h1
  split at h2
  · obtain ⟨w130000000000003_0, ew130000000000003_0, h3⟩ := Option.bind_eq_some_iff.1 h2
    cases h3
    refine fits_ren [(13000002000700300, w130000000000003_0.1)] ?_ ?_ ren_one rfl
    · exact List.forall_mem_cons.2 ⟨FV.one (FV.ptr (by assumption)), List.forall_mem_cons.2 ⟨FV.one (FV.ptr (by assumption)), List.forall_mem_cons.2 ⟨FV.one (FV.same (by assumption) rfl), List.forall_mem_cons.2 ⟨FV.one (row_i64_fit eq0), List.forall_mem_cons.2 ⟨FV.one (FV.same (by assumption) rfl), List.forall_mem_cons.2 ⟨FV.one (FV.same (by assumption) rfl), fun _ hp => (List.not_mem_nil hp).elim⟩⟩⟩⟩⟩⟩
    · exact List.forall_mem_cons.2 ⟨(FO.cells (show lk (St.o _) 130000000000003 = some _ from by assumption) (FCs.cons ((map_Srate_Key_Sapi_Dec_t_fit ew130000000000003_0 rfl).1) (FCs.nil))), List.forall_mem_cons.2 ⟨(map_Srate_Key_Sapi_Dec_t_fit ew130000000000003_0 rfl).2, List.forall_mem_cons.2 ⟨(FO.same (Cd.ofLit_ok eq1) rfl), fun _ hp => (List.not_mem_nil hp).elim⟩⟩⟩
  · cases h2
theorem pyxlaw16_RateKeys.l7.fitO (o : Out U) (y : (Int × List (Srate_Key × Sapi_Dec) × List Bool) ⊕ Bool) (h : pyxlaw16_RateKeys.l7.re o = some y) : FitsO o (pyxlaw16_RateKeys.l7.fin y) := by
  unfold pyxlaw16_RateKeys.l7.re at h
  split at h
  · obtain ⟨q0, eq0, h1⟩ := Option.bind_eq_some_iff.1 h
    split at h1
    · obtain ⟨w130000000000003_0, ew130000000000003_0, h2⟩ := Option.bind_eq_some_iff.1 h1
      cases h2
      refine fitsO_exit (fits_ren [(13000002000700300, w130000000000003_0.1)] ?_ ?_ ren_one rfl)
      · exact List.forall_mem_cons.2 ⟨FV.one (FV.ptr (by assumption)), List.forall_mem_cons.2 ⟨FV.one (FV.ptr (by assumption)), List.forall_mem_cons.2 ⟨FV.one (FV.same (by assumption) rfl), fun _ hp => (List.not_mem_nil hp).elim⟩⟩⟩
      · exact List.forall_mem_cons.2 ⟨(FO.cells (show lk (St.o _) 130000000000003 = some _ from by assumption) (FCs.cons ((map_Srate_Key_Sapi_Dec_t_fit ew130000000000003_0 rfl).1) (FCs.nil))), List.forall_mem_cons.2 ⟨(map_Srate_Key_Sapi_Dec_t_fit ew130000000000003_0 rfl).2, List.forall_mem_cons.2 ⟨(FO.same (Cd.ofLit_ok eq0) rfl), fun _ hp => (List.not_mem_nil hp).elim⟩⟩⟩
    · cases h1
  · split at h
    · cases h
      refine fitsO_ret (fits_ren [] ?_ ?_ ren_nil rfl)
      · exact List.forall_mem_cons.2 ⟨FV.one (FV.same (by assumption) rfl), fun _ hp => (List.not_mem_nil hp).elim⟩
      · exact fun _ hp => (List.not_mem_nil hp).elim
    · cases h
  · cases h
theorem pyxlaw16_RateKeys.l7.sound (k : Nat) : LSound (pyxlaw16_RateKeys.E k) Try.f14.ntmps Try.f14 (loopAt Try.f14 7) (pyxlaw16_RateKeys.l7.L k) :=
  loop_sound (pyxlaw16_RateKeys.ok k) mixed rfl (by kernel_rfl) (allL_of (l := []) (by kernel_rfl) allL_nil) pyxlaw16_RateKeys.l7.un pyxlaw16_RateKeys.l7.mk pyxlaw16_RateKeys.l7.fin pyxlaw16_RateKeys.l7.re (pyxlaw16_RateKeys.l7.once k) k pyxlaw16_RateKeys.l7.fit pyxlaw16_RateKeys.l7.fitO (pyxlaw16_RateKeys.l7.eq k) pyxlaw16_RateKeys.l7.finK pyxlaw16_RateKeys.l7.finK_eq
theorem pyxlaw16_RateKeys.l18.eq (k : Nat) (x : (Int × List Srate_Key × List Srate_Key × Int × Int × List Bool)) : evC (pyxlaw16_RateKeys.E k) (loopAt Try.f14 18) (pyxlaw16_RateKeys.l18.mk x) (headK pyxlaw16_RateKeys.l18.un pyxlaw16_RateKeys.l18.re) = pyxlaw16_RateKeys.l18.once k x := by kernel_rfl
theorem pyxlaw16_RateKeys.l18.fit (s : St U) (x : (Int × List Srate_Key × List Srate_Key × Int × Int × List Bool)) (h : pyxlaw16_RateKeys.l18.un s = some x) : Fits s (pyxlaw16_RateKeys.l18.mk x) := by
  unfold pyxlaw16_RateKeys.l18.un at h
  obtain ⟨q0, eq0, h1⟩ := Option.bind_eq_some_iff.1 h
  obtain ⟨q1, eq1, h2⟩ := Option.bind_eq_some_iff.1 h1
  obtain ⟨q2, eq2, h3⟩ := Option.bind_eq_some_iff.1 h2
  split at h3
  · cases h3
    refine fits_ren [] ?_ ?_ ren_nil rfl
    · exact List.forall_mem_cons.2 ⟨FV.one (FV.ptr (by assumption)), List.forall_mem_cons.2 ⟨FV.one (FV.same (by assumption) rfl), List.forall_mem_cons.2 ⟨FV.one (row_Srate_Key_fit eq0), List.forall_mem_cons.2 ⟨FV.one (row_Srate_Key_fit eq1), List.forall_mem_cons.2 ⟨FV.one (FV.same (by assumption) rfl), List.forall_mem_cons.2 ⟨FV.one (FV.same (by assumption) rfl), fun _ hp => (List.not_mem_nil hp).elim⟩⟩⟩⟩⟩⟩
    · exact List.forall_mem_cons.2 ⟨(FO.same (Cd.ofLit_ok eq2) rfl), fun _ hp => (List.not_mem_nil hp).elim⟩
  · cases h3
theorem pyxlaw16_RateKeys.l18.fitO (o : Out U) (y : (Int × List Srate_Key) ⊕ Bool) (h : pyxlaw16_RateKeys.l18.re o = some y) : FitsO o (pyxlaw16_RateKeys.l18.fin y) := by
  unfold pyxlaw16_RateKeys.l18.re at h
  split at h
  · obtain ⟨q0, eq0, h1⟩ := Option.bind_eq_some_iff.1 h
    split at h1
    · cases h1
      refine fitsO_exit (fits_ren [] ?_ ?_ ren_nil rfl)
      · exact List.forall_mem_cons.2 ⟨FV.one (FV.same (by assumption) rfl), List.forall_mem_cons.2 ⟨FV.one (row_Srate_Key_fit eq0), fun _ hp => (List.not_mem_nil hp).elim⟩⟩
      · exact fun _ hp => (List.not_mem_nil hp).elim
    · cases h1
  · split at h
    · cases h
      refine fitsO_ret (fits_ren [] ?_ ?_ ren_nil rfl)
      · exact List.forall_mem_cons.2 ⟨FV.one (FV.same (by assumption) rfl), fun _ hp => (List.not_mem_nil hp).elim⟩
      · exact fun _ hp => (List.not_mem_nil hp).elim
    · cases h
  · cases h
theorem pyxlaw16_RateKeys.l18.sound (k : Nat) : LSound (pyxlaw16_RateKeys.E k) Try.f14.ntmps Try.f14 (loopAt Try.f14 18) (pyxlaw16_RateKeys.l18.L k) :=
  loop_sound (pyxlaw16_RateKeys.ok k) mixed rfl (by kernel_rfl) (allL_of (l := []) (by kernel_rfl) allL_nil) pyxlaw16_RateKeys.l18.un pyxlaw16_RateKeys.l18.mk pyxlaw16_RateKeys.l18.fin pyxlaw16_RateKeys.l18.re (pyxlaw16_RateKeys.l18.once k) k pyxlaw16_RateKeys.l18.fit pyxlaw16_RateKeys.l18.fitO (pyxlaw16_RateKeys.l18.eq k) pyxlaw16_RateKeys.l18.finK pyxlaw16_RateKeys.l18.finK_eq
theorem pyxlaw16_RateKeys.eq (k : Nat) (x : List Int) : runF (pyxlaw16_RateKeys.E k) (codeOf Try.f14) (pyxlaw16_RateKeys.mk x) pyxlaw16_RateKeys.re = (pyxlaw16_RateKeys.D k).f x := by kernel_rfl
theorem pyxlaw16_RateKeys.fit (s : St U) (x : List Int) (h : pyxlaw16_RateKeys.un s = some x) : Fits s (pyxlaw16_RateKeys.mk x) := by
  unfold pyxlaw16_RateKeys.un at h
  split at h
  · cases h
    refine fits_ren [] ?_ ?_ ren_nil rfl
    · exact List.forall_mem_cons.2 ⟨FV.one (FV.same (by assumption) rfl), fun _ hp => (List.not_mem_nil hp).elim⟩
    · exact fun _ hp => (List.not_mem_nil hp).elim
  · cases h
theorem pyxlaw16_RateKeys.fitR (s : St U) (y : Bool) (h : pyxlaw16_RateKeys.re s = some y) : Fits s (pyxlaw16_RateKeys.fin y) := by
  unfold pyxlaw16_RateKeys.re at h
  split at h
  · cases h
    refine fits_ren [] ?_ ?_ ren_nil rfl
    · exact List.forall_mem_cons.2 ⟨FV.one (FV.same (by assumption) rfl), fun _ hp => (List.not_mem_nil hp).elim⟩
    · exact fun _ hp => (List.not_mem_nil hp).elim
  · cases h
theorem pyxlaw16_RateKeys.sound (k : Nat) : Sound Try.prog DD 14 (pyxlaw16_RateKeys.D k) :=
  fun_sound (E := pyxlaw16_RateKeys.E k) (fn := Try.f14) (c := codeOf Try.f14) (pyxlaw16_RateKeys.ok k) mixed rfl Try.func14 (by kernel_rfl) (by kernel_rfl) (allL_of (l := [loopAt Try.f14 7, loopAt Try.f14 18]) (by kernel_rfl) (allL_cons (key := 7) (by kernel_rfl) rfl (pyxlaw16_RateKeys.l7.sound k) (allL_cons (key := 18) (by kernel_rfl) rfl (pyxlaw16_RateKeys.l18.sound k) allL_nil))) (pyxlaw16_RateKeys.D k) pyxlaw16_RateKeys.mk pyxlaw16_RateKeys.re (by kernel_rfl) (by kernel_rfl) pyxlaw16_RateKeys.fit pyxlaw16_RateKeys.fitR (pyxlaw16_RateKeys.eq k)
end
end Go.Proofs.Ytlaogfkgkpgofaa
