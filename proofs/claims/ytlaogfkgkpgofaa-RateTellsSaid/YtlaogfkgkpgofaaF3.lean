import Derived.Test.YtlaogfkgkpgofaaF2
/-! Functions, told; their equations with the evaluator; that they are sound. Written by gen.py. -/
namespace Go.Proofs.Ytlaogfkgkpgofaa
open Go Go.Ev
noncomputable section
set_option linter.unusedVariables false
set_option linter.unusedSimpArgs false
set_option maxRecDepth 100000
/-! ### pyx/pyxref1.Words2: function 106 -/
noncomputable def pyxref1_Words2.f (k : Nat) (a0 : List Int) : Option ((Int × Int) × Bool) := (pyxref1_radix.f k).bind fun t1 => ((pyxref1_DivNat.f k a0 t1).bind fun t2 => ((pyxref1_radix.f k).bind fun t3 => ((pyxref1_CmpNat.f k t2.1 t3).bind fun t4 => (cond (decide (t4 ≥ 0)) (some ((0, 0), false)) ((pyxref1_short.f k t2.2).bind fun t5 => ((pyxref1_short.f k t2.1).bind fun t6 => (some ((t5, t6), true))))))))
noncomputable def pyxref1_Words2.un (s : St U) : Option (List Int) := match s.get 0 with | .row C.i64 x1 => some x1 | _ => none
noncomputable def pyxref1_Words2.mk (x : List Int) : St U := ⟨[(0, .row C.i64 x)], []⟩
noncomputable def pyxref1_Words2.fin (y : ((Int × Int) × Bool)) : St U := ⟨[(0, .tup [.agg [.flat (.int .u64 y.1.1), .flat (.int .u64 y.1.2)], .flat (.bool y.2)])], []⟩
noncomputable def pyxref1_Words2.D (k : Nat) : FDen U := { X := List Int, Y := ((Int × Int) × Bool), nt := 22, gh := [], un := pyxref1_Words2.un, f := fun x => pyxref1_Words2.f k (x), fin := pyxref1_Words2.fin, cl := true, clo := fun _ _ => rfl }
noncomputable def pyxref1_Words2.re (s : St U) : Option ((Int × Int) × Bool) := match s.get 0 with | .tup [.agg [.flat (.int .u64 x1), .flat (.int .u64 x2)], .flat (.bool x3)] => some ((x1, x2), x3) | _ => none
noncomputable def pyxref1_Words2.jl : List (Nat × JDen U) := []
noncomputable def pyxref1_Words2.fl (k : Nat) : List (Nat × FDen U) := [(138, pyxref1_radix.D k), (137, pyxref1_DivNat.D k), (118, pyxref1_CmpNat.D k), (139, pyxref1_short.D k)]
noncomputable def pyxref1_Words2.ll (k : Nat) : List (Nat × LDen U) := []
noncomputable def pyxref1_Words2.E (k : Nat) : Env U := { P := Try.prog, D := DD, fd := lk (pyxref1_Words2.fl k), sf := lk sl0, ld := lk (pyxref1_Words2.ll k), jd := lk pyxref1_Words2.jl, mode := lk [], elc := lk ec, mpc := lk mc, rts := Try.f106.resultTypes.toList, dyn := fun t => false, vecs := fun d => false, results := Try.f106.results.toList, gh := [], own := false, io := fun g i => false }
theorem pyxref1_Words2.ok (k : Nat) : EnvOk (pyxref1_Words2.E k) := envOk lawful (pyxref1_Words2.fl k) sl0 (pyxref1_Words2.ll k) pyxref1_Words2.jl _ _ _ _ _ _ _ _ _ _ (by
  intro p hp
  simp only [pyxref1_Words2.fl, List.mem_cons, List.not_mem_nil, or_false] at hp
  rcases hp with rfl | rfl | rfl | rfl
  · exact ⟨pyxref1_radix.sound k, enter_of Try.func138 (by kernel_rfl) (by kernel_rfl)⟩
  · exact ⟨pyxref1_DivNat.sound k, enter_of Try.func137 (by kernel_rfl) (by kernel_rfl)⟩
  · exact ⟨pyxref1_CmpNat.sound k, enter_of Try.func118 (by kernel_rfl) (by kernel_rfl)⟩
  · exact ⟨pyxref1_short.sound k, enter_of Try.func139 (by kernel_rfl) (by kernel_rfl)⟩) sl0_ok (by
  intro p hp
  simp [pyxref1_Words2.jl] at hp)
theorem pyxref1_Words2.eq (k : Nat) (x : List Int) : runF (pyxref1_Words2.E k) (codeOf Try.f106) (pyxref1_Words2.mk x) pyxref1_Words2.re = (pyxref1_Words2.D k).f x := by kernel_rfl
theorem pyxref1_Words2.fit (s : St U) (x : List Int) (h : pyxref1_Words2.un s = some x) : Fits s (pyxref1_Words2.mk x) := by
  unfold pyxref1_Words2.un at h
  split at h
  · cases h
    refine fits_ren [] ?_ ?_ ren_nil rfl
    · exact List.forall_mem_cons.2 ⟨FV.one (FV.same (by assumption) rfl), fun _ hp => (List.not_mem_nil hp).elim⟩
    · exact fun _ hp => (List.not_mem_nil hp).elim
  · cases h
theorem pyxref1_Words2.fitR (s : St U) (y : ((Int × Int) × Bool)) (h : pyxref1_Words2.re s = some y) : Fits s (pyxref1_Words2.fin y) := by
  unfold pyxref1_Words2.re at h
  split at h
  · cases h
    refine fits_ren [] ?_ ?_ ren_nil rfl
    · exact List.forall_mem_cons.2 ⟨FV.tup (by assumption) (FTs.cons (FVA.one (FV.same rfl rfl)) (FTs.cons (FVA.one (FV.same rfl rfl)) (FTs.nil))), fun _ hp => (List.not_mem_nil hp).elim⟩
    · exact fun _ hp => (List.not_mem_nil hp).elim
  · cases h
theorem pyxref1_Words2.sound (k : Nat) : Sound Try.prog DD 106 (pyxref1_Words2.D k) :=
  fun_sound (E := pyxref1_Words2.E k) (fn := Try.f106) (c := codeOf Try.f106) (pyxref1_Words2.ok k) mixed rfl Try.func106 (by kernel_rfl) (by kernel_rfl) (allL_of (l := []) (by kernel_rfl) allL_nil) (pyxref1_Words2.D k) pyxref1_Words2.mk pyxref1_Words2.re (by kernel_rfl) (by kernel_rfl) pyxref1_Words2.fit pyxref1_Words2.fitR (pyxref1_Words2.eq k)
/-! ### pyx/pyxref1.Make: function 58 -/
noncomputable def pyxref1_Make.f (k : Nat) (a0 : Bool) (a1 : List Int) (a2 : Int) : Option (Sapi_Dec × Int) := ((cond (decide ((List.length a1 : Int) > 30)) (some (a0, a1, a2, true, false, 0, 0, 0)) (cond (decide (a2 < 0)) (some (a0, a1, a2, true, false, 0, 0, 0)) (some (a0, a1, a2, decide (a2 > 9), false, 0, 0, 0)))) : Option (Bool × List Int × Int × Bool × Bool × Int × Int × Int)).bind fun y9 => (cond (y9.2.2.2.1) (some ((⟨false, (0, 0), 0⟩ : Sapi_Dec), 3)) ((pyxref1_Words2.f k y9.2.1).bind fun t10 => (cond (y9.1) (some ((⟨decide ((List.length y9.2.1 : Int) > 0), (t10.1.1, t10.1.2), y9.2.2.1⟩ : Sapi_Dec), 0)) (some ((⟨false, (t10.1.1, t10.1.2), y9.2.2.1⟩ : Sapi_Dec), 0)))))
noncomputable def pyxref1_Make.un (s : St U) : Option (Bool × List Int × Int) := match s.get 0, s.get 1, s.get 2 with | .flat (.bool x1), .row C.i64 x2, .flat (.int .i64 x3) => some (x1, x2, x3) | _, _, _ => none
noncomputable def pyxref1_Make.mk (x : (Bool × List Int × Int)) : St U := ⟨[(0, .flat (.bool x.1)), (1, .row C.i64 x.2.1), (2, .flat (.int .i64 x.2.2))], []⟩
noncomputable def pyxref1_Make.fin (y : (Sapi_Dec × Int)) : St U := ⟨[(0, .tup [.agg [.flat (.bool y.1.f_Neg), .flat (.int .u64 y.1.f_C.1), .flat (.int .u64 y.1.f_C.2), .flat (.int .i64 y.1.f_Scale)], .flat (.int .i64 y.2)])], []⟩
noncomputable def pyxref1_Make.D (k : Nat) : FDen U := { X := (Bool × List Int × Int), Y := (Sapi_Dec × Int), nt := 36, gh := [], un := pyxref1_Make.un, f := fun x => pyxref1_Make.f k (x.1) (x.2.1) (x.2.2), fin := pyxref1_Make.fin, cl := true, clo := fun _ _ => rfl }
noncomputable def pyxref1_Make.re (s : St U) : Option (Sapi_Dec × Int) := match s.get 0 with | .tup [.agg [.flat (.bool x1), .flat (.int .u64 x2), .flat (.int .u64 x3), .flat (.int .i64 x4)], .flat (.int .i64 x5)] => some ((⟨x1, (x2, x3), x4⟩ : Sapi_Dec), x5) | _ => none
noncomputable def pyxref1_Make.j1000.fin (y : (Bool × List Int × Int × Bool × Bool × Int × Int × Int)) : Out U := match y with | (x1, x2, x3, x8, x4, x5, x6, x7) => .norm ⟨[(6, .ptr 6 0), (0, .flat (.bool x1)), (1, .row C.i64 x2), (2, .flat (.int .i64 x3)), (20, .flat (.bool x8))], [(6, .lit [.flat (.bool x4), .flat (.int .u64 x5), .flat (.int .u64 x6), .flat (.int .i64 x7)])]⟩
noncomputable def pyxref1_Make.j1000.finK {ρ : Type} (y : (Bool × List Int × Int × Bool × Bool × Int × Int × Int)) (K : Out U → Option ρ) : Option ρ := match y with | (x1, x2, x3, x8, x4, x5, x6, x7) => K (.norm ⟨[(6, .ptr 6 0), (0, .flat (.bool x1)), (1, .row C.i64 x2), (2, .flat (.int .i64 x3)), (20, .flat (.bool x8))], [(6, .lit [.flat (.bool x4), .flat (.int .u64 x5), .flat (.int .u64 x6), .flat (.int .i64 x7)])]⟩)
theorem pyxref1_Make.j1000.finK_eq {ρ : Type} (y : (Bool × List Int × Int × Bool × Bool × Int × Int × Int)) (K : Out U → Option ρ) : pyxref1_Make.j1000.finK y K = K (pyxref1_Make.j1000.fin y) := by
  unfold pyxref1_Make.j1000.finK pyxref1_Make.j1000.fin
  first | rfl | (split <;> rfl)
noncomputable def pyxref1_Make.j1000.re : Out U → Option ((Bool × List Int × Int × Bool × Bool × Int × Int × Int)) | .norm s => ((row_i64 (s.get 1)).bind fun q0 => (match s.get 6, s.get 0, s.get 2, s.get 20, lk s.o 6 with | .ptr 6 0, .flat (.bool x1), .flat (.int .i64 x3), .flat (.bool x8), some (.lit [.flat (.bool x4), .flat (.int .u64 x5), .flat (.int .u64 x6), .flat (.int .i64 x7)]) => some (x1, q0, x3, x8, x4, x5, x6, x7) | _, _, _, _, _ => none)) | _ => none
noncomputable def pyxref1_Make.j1000.J : JDen U := { Y := (Bool × List Int × Int × Bool × Bool × Int × Int × Int), re := pyxref1_Make.j1000.re, fin := pyxref1_Make.j1000.fin, finK := pyxref1_Make.j1000.finK, finK_eq := pyxref1_Make.j1000.finK_eq }
theorem pyxref1_Make.j1000.fit (o : Out U) (y : (Bool × List Int × Int × Bool × Bool × Int × Int × Int)) (h : pyxref1_Make.j1000.re o = some y) : FitsO o (pyxref1_Make.j1000.fin y) := by
  unfold pyxref1_Make.j1000.re at h
  split at h
  · obtain ⟨q0, eq0, h1⟩ := Option.bind_eq_some_iff.1 h
    split at h1
    · cases h1
      refine fitsO_norm (fits_ren [] ?_ ?_ ren_nil rfl)
      · exact List.forall_mem_cons.2 ⟨FV.one (FV.ptr (by assumption)), List.forall_mem_cons.2 ⟨FV.one (FV.same (by assumption) rfl), List.forall_mem_cons.2 ⟨FV.one (row_i64_fit eq0), List.forall_mem_cons.2 ⟨FV.one (FV.same (by assumption) rfl), List.forall_mem_cons.2 ⟨FV.one (FV.same (by assumption) rfl), fun _ hp => (List.not_mem_nil hp).elim⟩⟩⟩⟩⟩
      · exact List.forall_mem_cons.2 ⟨(FO.same (show lk (St.o _) 6 = some _ from by assumption) rfl), fun _ hp => (List.not_mem_nil hp).elim⟩
    · cases h1
  · cases h
noncomputable def pyxref1_Make.jl : List (Nat × JDen U) := [(1000, pyxref1_Make.j1000.J)]
noncomputable def pyxref1_Make.fl (k : Nat) : List (Nat × FDen U) := [(106, pyxref1_Words2.D k)]
noncomputable def pyxref1_Make.ll (k : Nat) : List (Nat × LDen U) := []
noncomputable def pyxref1_Make.E (k : Nat) : Env U := { P := Try.prog, D := DD, fd := lk (pyxref1_Make.fl k), sf := lk sl0, ld := lk (pyxref1_Make.ll k), jd := lk pyxref1_Make.jl, mode := lk [], elc := lk ec, mpc := lk mc, rts := Try.f58.resultTypes.toList, dyn := fun t => false, vecs := fun d => false, results := Try.f58.results.toList, gh := [], own := false, io := fun g i => false }
theorem pyxref1_Make.ok (k : Nat) : EnvOk (pyxref1_Make.E k) := envOk lawful (pyxref1_Make.fl k) sl0 (pyxref1_Make.ll k) pyxref1_Make.jl _ _ _ _ _ _ _ _ _ _ (by
  intro p hp
  simp only [pyxref1_Make.fl, List.mem_cons, List.not_mem_nil, or_false] at hp
  rcases hp with rfl
  · exact ⟨pyxref1_Words2.sound k, enter_of Try.func106 (by kernel_rfl) (by kernel_rfl)⟩) sl0_ok (by
  intro p hp
  simp only [pyxref1_Make.jl, List.mem_cons, List.not_mem_nil, or_false] at hp
  rcases hp with rfl
  · exact pyxref1_Make.j1000.fit)
theorem pyxref1_Make.eq (k : Nat) (x : (Bool × List Int × Int)) : runF (pyxref1_Make.E k) (codeOf Try.f58) (pyxref1_Make.mk x) pyxref1_Make.re = (pyxref1_Make.D k).f x := by kernel_rfl
theorem pyxref1_Make.fit (s : St U) (x : (Bool × List Int × Int)) (h : pyxref1_Make.un s = some x) : Fits s (pyxref1_Make.mk x) := by
  unfold pyxref1_Make.un at h
  split at h
  · cases h
    refine fits_ren [] ?_ ?_ ren_nil rfl
    · exact List.forall_mem_cons.2 ⟨FV.one (FV.same (by assumption) rfl), List.forall_mem_cons.2 ⟨FV.one (FV.same (by assumption) rfl), List.forall_mem_cons.2 ⟨FV.one (FV.same (by assumption) rfl), fun _ hp => (List.not_mem_nil hp).elim⟩⟩⟩
    · exact fun _ hp => (List.not_mem_nil hp).elim
  · cases h
theorem pyxref1_Make.fitR (s : St U) (y : (Sapi_Dec × Int)) (h : pyxref1_Make.re s = some y) : Fits s (pyxref1_Make.fin y) := by
  unfold pyxref1_Make.re at h
  split at h
  · cases h
    refine fits_ren [] ?_ ?_ ren_nil rfl
    · exact List.forall_mem_cons.2 ⟨FV.tup (by assumption) (FTs.cons (FVA.one (FV.same rfl rfl)) (FTs.cons (FVA.one (FV.same rfl rfl)) (FTs.nil))), fun _ hp => (List.not_mem_nil hp).elim⟩
    · exact fun _ hp => (List.not_mem_nil hp).elim
  · cases h
theorem pyxref1_Make.sound (k : Nat) : Sound Try.prog DD 58 (pyxref1_Make.D k) :=
  fun_sound (E := pyxref1_Make.E k) (fn := Try.f58) (c := codeOf Try.f58) (pyxref1_Make.ok k) mixed rfl Try.func58 (by kernel_rfl) (by kernel_rfl) (allL_of (l := []) (by kernel_rfl) allL_nil) (pyxref1_Make.D k) pyxref1_Make.mk pyxref1_Make.re (by kernel_rfl) (by kernel_rfl) pyxref1_Make.fit pyxref1_Make.fitR (pyxref1_Make.eq k)
/-! ### pyx/pyxref1.Of: function 17 -/
noncomputable def pyxref1_Of.f (k : Nat) (a0 : Int) (a1 : Int) : Option Sapi_Dec := ((cond (decide (a0 < 0)) (some (a1, decide (a0 < 0), IntKind.wrap .u64 (0 - (IntKind.wrap .u64 (a0))), false, 0, 0, 0)) (some (a1, decide (a0 < 0), IntKind.wrap .u64 (a0), false, 0, 0, 0))) : Option (Int × Bool × Int × Bool × Int × Int × Int)).bind fun y8 => ((pyxref1_Word.f k y8.2.2.1).bind fun t9 => ((pyxref1_Within.f k y8.1 0 9).bind fun t10 => ((pyxref1_Make.f k y8.2.1 t9 t10).bind fun t11 => (some (⟨t11.1.f_Neg, (t11.1.f_C.1, t11.1.f_C.2), t11.1.f_Scale⟩ : Sapi_Dec)))))
noncomputable def pyxref1_Of.un (s : St U) : Option (Int × Int) := match s.get 0, s.get 1 with | .flat (.int .i64 x1), .flat (.int .i64 x2) => some (x1, x2) | _, _ => none
noncomputable def pyxref1_Of.mk (x : (Int × Int)) : St U := ⟨[(0, .flat (.int .i64 x.1)), (1, .flat (.int .i64 x.2))], []⟩
noncomputable def pyxref1_Of.fin (y : Sapi_Dec) : St U := ⟨[(0, .agg [.flat (.bool y.f_Neg), .flat (.int .u64 y.f_C.1), .flat (.int .u64 y.f_C.2), .flat (.int .i64 y.f_Scale)])], []⟩
noncomputable def pyxref1_Of.D (k : Nat) : FDen U := { X := (Int × Int), Y := Sapi_Dec, nt := 26, gh := [], un := pyxref1_Of.un, f := fun x => pyxref1_Of.f k (x.1) (x.2), fin := pyxref1_Of.fin, cl := true, clo := fun _ _ => rfl }
noncomputable def pyxref1_Of.re (s : St U) : Option Sapi_Dec := match s.get 0 with | .agg [.flat (.bool x1), .flat (.int .u64 x2), .flat (.int .u64 x3), .flat (.int .i64 x4)] => some (⟨x1, (x2, x3), x4⟩ : Sapi_Dec) | _ => none
noncomputable def pyxref1_Of.j4001.fin (y : (Int × Bool × Int × Bool × Int × Int × Int)) : Out U := match y with | (x1, x6, x7, x2, x3, x4, x5) => .norm ⟨[(4, .ptr 4 0), (1, .flat (.int .i64 x1)), (5, .flat (.bool x6)), (6, .flat (.int .u64 x7))], [(4, .lit [.flat (.bool x2), .flat (.int .u64 x3), .flat (.int .u64 x4), .flat (.int .i64 x5)])]⟩
noncomputable def pyxref1_Of.j4001.finK {ρ : Type} (y : (Int × Bool × Int × Bool × Int × Int × Int)) (K : Out U → Option ρ) : Option ρ := match y with | (x1, x6, x7, x2, x3, x4, x5) => K (.norm ⟨[(4, .ptr 4 0), (1, .flat (.int .i64 x1)), (5, .flat (.bool x6)), (6, .flat (.int .u64 x7))], [(4, .lit [.flat (.bool x2), .flat (.int .u64 x3), .flat (.int .u64 x4), .flat (.int .i64 x5)])]⟩)
theorem pyxref1_Of.j4001.finK_eq {ρ : Type} (y : (Int × Bool × Int × Bool × Int × Int × Int)) (K : Out U → Option ρ) : pyxref1_Of.j4001.finK y K = K (pyxref1_Of.j4001.fin y) := by
  unfold pyxref1_Of.j4001.finK pyxref1_Of.j4001.fin
  first | rfl | (split <;> rfl)
noncomputable def pyxref1_Of.j4001.re : Out U → Option ((Int × Bool × Int × Bool × Int × Int × Int)) | .norm s => (match s.get 4, s.get 1, s.get 5, s.get 6, lk s.o 4 with | .ptr 4 0, .flat (.int .i64 x1), .flat (.bool x6), .flat (.int .u64 x7), some (.lit [.flat (.bool x2), .flat (.int .u64 x3), .flat (.int .u64 x4), .flat (.int .i64 x5)]) => some (x1, x6, x7, x2, x3, x4, x5) | _, _, _, _, _ => none) | _ => none
noncomputable def pyxref1_Of.j4001.J : JDen U := { Y := (Int × Bool × Int × Bool × Int × Int × Int), re := pyxref1_Of.j4001.re, fin := pyxref1_Of.j4001.fin, finK := pyxref1_Of.j4001.finK, finK_eq := pyxref1_Of.j4001.finK_eq }
theorem pyxref1_Of.j4001.fit (o : Out U) (y : (Int × Bool × Int × Bool × Int × Int × Int)) (h : pyxref1_Of.j4001.re o = some y) : FitsO o (pyxref1_Of.j4001.fin y) := by
  unfold pyxref1_Of.j4001.re at h
  split at h
  · split at h
    · cases h
      refine fitsO_norm (fits_ren [] ?_ ?_ ren_nil rfl)
      · exact List.forall_mem_cons.2 ⟨FV.one (FV.ptr (by assumption)), List.forall_mem_cons.2 ⟨FV.one (FV.same (by assumption) rfl), List.forall_mem_cons.2 ⟨FV.one (FV.same (by assumption) rfl), List.forall_mem_cons.2 ⟨FV.one (FV.same (by assumption) rfl), fun _ hp => (List.not_mem_nil hp).elim⟩⟩⟩⟩
      · exact List.forall_mem_cons.2 ⟨(FO.same (show lk (St.o _) 4 = some _ from by assumption) rfl), fun _ hp => (List.not_mem_nil hp).elim⟩
    · cases h
  · cases h
noncomputable def pyxref1_Of.jl : List (Nat × JDen U) := [(4001, pyxref1_Of.j4001.J)]
noncomputable def pyxref1_Of.fl (k : Nat) : List (Nat × FDen U) := [(59, pyxref1_Word.D k), (60, pyxref1_Within.D k), (58, pyxref1_Make.D k)]
noncomputable def pyxref1_Of.ll (k : Nat) : List (Nat × LDen U) := []
noncomputable def pyxref1_Of.E (k : Nat) : Env U := { P := Try.prog, D := DD, fd := lk (pyxref1_Of.fl k), sf := lk sl0, ld := lk (pyxref1_Of.ll k), jd := lk pyxref1_Of.jl, mode := lk [], elc := lk ec, mpc := lk mc, rts := Try.f17.resultTypes.toList, dyn := fun t => false, vecs := fun d => false, results := Try.f17.results.toList, gh := [], own := false, io := fun g i => false }
theorem pyxref1_Of.ok (k : Nat) : EnvOk (pyxref1_Of.E k) := envOk lawful (pyxref1_Of.fl k) sl0 (pyxref1_Of.ll k) pyxref1_Of.jl _ _ _ _ _ _ _ _ _ _ (by
  intro p hp
  simp only [pyxref1_Of.fl, List.mem_cons, List.not_mem_nil, or_false] at hp
  rcases hp with rfl | rfl | rfl
  · exact ⟨pyxref1_Word.sound k, enter_of Try.func59 (by kernel_rfl) (by kernel_rfl)⟩
  · exact ⟨pyxref1_Within.sound k, enter_of Try.func60 (by kernel_rfl) (by kernel_rfl)⟩
  · exact ⟨pyxref1_Make.sound k, enter_of Try.func58 (by kernel_rfl) (by kernel_rfl)⟩) sl0_ok (by
  intro p hp
  simp only [pyxref1_Of.jl, List.mem_cons, List.not_mem_nil, or_false] at hp
  rcases hp with rfl
  · exact pyxref1_Of.j4001.fit)
theorem pyxref1_Of.eq (k : Nat) (x : (Int × Int)) : runF (pyxref1_Of.E k) (codeOf Try.f17) (pyxref1_Of.mk x) pyxref1_Of.re = (pyxref1_Of.D k).f x := by kernel_rfl
theorem pyxref1_Of.fit (s : St U) (x : (Int × Int)) (h : pyxref1_Of.un s = some x) : Fits s (pyxref1_Of.mk x) := by
  unfold pyxref1_Of.un at h
  split at h
  · cases h
    refine fits_ren [] ?_ ?_ ren_nil rfl
    · exact List.forall_mem_cons.2 ⟨FV.one (FV.same (by assumption) rfl), List.forall_mem_cons.2 ⟨FV.one (FV.same (by assumption) rfl), fun _ hp => (List.not_mem_nil hp).elim⟩⟩
    · exact fun _ hp => (List.not_mem_nil hp).elim
  · cases h
theorem pyxref1_Of.fitR (s : St U) (y : Sapi_Dec) (h : pyxref1_Of.re s = some y) : Fits s (pyxref1_Of.fin y) := by
  unfold pyxref1_Of.re at h
  split at h
  · cases h
    refine fits_ren [] ?_ ?_ ren_nil rfl
    · exact List.forall_mem_cons.2 ⟨FV.one (FV.same (by assumption) rfl), fun _ hp => (List.not_mem_nil hp).elim⟩
    · exact fun _ hp => (List.not_mem_nil hp).elim
  · cases h
theorem pyxref1_Of.sound (k : Nat) : Sound Try.prog DD 17 (pyxref1_Of.D k) :=
  fun_sound (E := pyxref1_Of.E k) (fn := Try.f17) (c := codeOf Try.f17) (pyxref1_Of.ok k) mixed rfl Try.func17 (by kernel_rfl) (by kernel_rfl) (allL_of (l := []) (by kernel_rfl) allL_nil) (pyxref1_Of.D k) pyxref1_Of.mk pyxref1_Of.re (by kernel_rfl) (by kernel_rfl) pyxref1_Of.fit pyxref1_Of.fitR (pyxref1_Of.eq k)
/-! ### pyx/dec.Of: function 96 -/
noncomputable def dec_Of.f (k : Nat) (a0 : Int) (a1 : Int) : Option Sapi_Dec := ((cond (decide (a0 < 0)) (some (a0, a1, IntKind.wrap .u64 (0 - (IntKind.wrap .u64 (a0))), false, 0, 0, 0)) (some (a0, a1, IntKind.wrap .u64 (a0), false, 0, 0, 0))) : Option (Int × Int × Int × Bool × Int × Int × Int)).bind fun y8 => ((limb_Of.f k y8.2.2.1).bind fun t9 => (some (⟨decide (y8.1 < 0), (t9.1, t9.2), (if (if 9 < y8.2.1 then 9 else y8.2.1) > 0 then (if 9 < y8.2.1 then 9 else y8.2.1) else 0)⟩ : Sapi_Dec)))
noncomputable def dec_Of.un (s : St U) : Option (Int × Int) := match s.get 0, s.get 1 with | .flat (.int .i64 x1), .flat (.int .i64 x2) => some (x1, x2) | _, _ => none
noncomputable def dec_Of.mk (x : (Int × Int)) : St U := ⟨[(0, .flat (.int .i64 x.1)), (1, .flat (.int .i64 x.2))], []⟩
noncomputable def dec_Of.fin (y : Sapi_Dec) : St U := ⟨[(0, .agg [.flat (.bool y.f_Neg), .flat (.int .u64 y.f_C.1), .flat (.int .u64 y.f_C.2), .flat (.int .i64 y.f_Scale)])], []⟩
noncomputable def dec_Of.D (k : Nat) : FDen U := { X := (Int × Int), Y := Sapi_Dec, nt := 20, gh := [], un := dec_Of.un, f := fun x => dec_Of.f k (x.1) (x.2), fin := dec_Of.fin, cl := true, clo := fun _ _ => rfl }
noncomputable def dec_Of.re (s : St U) : Option Sapi_Dec := match s.get 0 with | .agg [.flat (.bool x1), .flat (.int .u64 x2), .flat (.int .u64 x3), .flat (.int .i64 x4)] => some (⟨x1, (x2, x3), x4⟩ : Sapi_Dec) | _ => none
noncomputable def dec_Of.j3001.fin (y : (Int × Int × Int × Bool × Int × Int × Int)) : Out U := match y with | (x1, x2, x7, x3, x4, x5, x6) => .norm ⟨[(4, .ptr 4 0), (0, .flat (.int .i64 x1)), (1, .flat (.int .i64 x2)), (5, .flat (.int .u64 x7))], [(4, .lit [.flat (.bool x3), .flat (.int .u64 x4), .flat (.int .u64 x5), .flat (.int .i64 x6)])]⟩
noncomputable def dec_Of.j3001.finK {ρ : Type} (y : (Int × Int × Int × Bool × Int × Int × Int)) (K : Out U → Option ρ) : Option ρ := match y with | (x1, x2, x7, x3, x4, x5, x6) => K (.norm ⟨[(4, .ptr 4 0), (0, .flat (.int .i64 x1)), (1, .flat (.int .i64 x2)), (5, .flat (.int .u64 x7))], [(4, .lit [.flat (.bool x3), .flat (.int .u64 x4), .flat (.int .u64 x5), .flat (.int .i64 x6)])]⟩)
theorem dec_Of.j3001.finK_eq {ρ : Type} (y : (Int × Int × Int × Bool × Int × Int × Int)) (K : Out U → Option ρ) : dec_Of.j3001.finK y K = K (dec_Of.j3001.fin y) := by
  unfold dec_Of.j3001.finK dec_Of.j3001.fin
  first | rfl | (split <;> rfl)
noncomputable def dec_Of.j3001.re : Out U → Option ((Int × Int × Int × Bool × Int × Int × Int)) | .norm s => (match s.get 4, s.get 0, s.get 1, s.get 5, lk s.o 4 with | .ptr 4 0, .flat (.int .i64 x1), .flat (.int .i64 x2), .flat (.int .u64 x7), some (.lit [.flat (.bool x3), .flat (.int .u64 x4), .flat (.int .u64 x5), .flat (.int .i64 x6)]) => some (x1, x2, x7, x3, x4, x5, x6) | _, _, _, _, _ => none) | _ => none
noncomputable def dec_Of.j3001.J : JDen U := { Y := (Int × Int × Int × Bool × Int × Int × Int), re := dec_Of.j3001.re, fin := dec_Of.j3001.fin, finK := dec_Of.j3001.finK, finK_eq := dec_Of.j3001.finK_eq }
theorem dec_Of.j3001.fit (o : Out U) (y : (Int × Int × Int × Bool × Int × Int × Int)) (h : dec_Of.j3001.re o = some y) : FitsO o (dec_Of.j3001.fin y) := by
  unfold dec_Of.j3001.re at h
  split at h
  · split at h
    · cases h
      refine fitsO_norm (fits_ren [] ?_ ?_ ren_nil rfl)
      · exact List.forall_mem_cons.2 ⟨FV.one (FV.ptr (by assumption)), List.forall_mem_cons.2 ⟨FV.one (FV.same (by assumption) rfl), List.forall_mem_cons.2 ⟨FV.one (FV.same (by assumption) rfl), List.forall_mem_cons.2 ⟨FV.one (FV.same (by assumption) rfl), fun _ hp => (List.not_mem_nil hp).elim⟩⟩⟩⟩
      · exact List.forall_mem_cons.2 ⟨(FO.same (show lk (St.o _) 4 = some _ from by assumption) rfl), fun _ hp => (List.not_mem_nil hp).elim⟩
    · cases h
  · cases h
noncomputable def dec_Of.jl : List (Nat × JDen U) := [(3001, dec_Of.j3001.J)]
noncomputable def dec_Of.fl (k : Nat) : List (Nat × FDen U) := [(129, limb_Of.D k)]
noncomputable def dec_Of.ll (k : Nat) : List (Nat × LDen U) := []
noncomputable def dec_Of.E (k : Nat) : Env U := { P := Try.prog, D := DD, fd := lk (dec_Of.fl k), sf := lk sl0, ld := lk (dec_Of.ll k), jd := lk dec_Of.jl, mode := lk [], elc := lk ec, mpc := lk mc, rts := Try.f96.resultTypes.toList, dyn := fun t => false, vecs := fun d => false, results := Try.f96.results.toList, gh := [], own := false, io := fun g i => false }
theorem dec_Of.ok (k : Nat) : EnvOk (dec_Of.E k) := envOk lawful (dec_Of.fl k) sl0 (dec_Of.ll k) dec_Of.jl _ _ _ _ _ _ _ _ _ _ (by
  intro p hp
  simp only [dec_Of.fl, List.mem_cons, List.not_mem_nil, or_false] at hp
  rcases hp with rfl
  · exact ⟨limb_Of.sound k, enter_of Try.func129 (by kernel_rfl) (by kernel_rfl)⟩) sl0_ok (by
  intro p hp
  simp only [dec_Of.jl, List.mem_cons, List.not_mem_nil, or_false] at hp
  rcases hp with rfl
  · exact dec_Of.j3001.fit)
theorem dec_Of.eq (k : Nat) (x : (Int × Int)) : runF (dec_Of.E k) (codeOf Try.f96) (dec_Of.mk x) dec_Of.re = (dec_Of.D k).f x := by kernel_rfl
theorem dec_Of.fit (s : St U) (x : (Int × Int)) (h : dec_Of.un s = some x) : Fits s (dec_Of.mk x) := by
  unfold dec_Of.un at h
  split at h
  · cases h
    refine fits_ren [] ?_ ?_ ren_nil rfl
    · exact List.forall_mem_cons.2 ⟨FV.one (FV.same (by assumption) rfl), List.forall_mem_cons.2 ⟨FV.one (FV.same (by assumption) rfl), fun _ hp => (List.not_mem_nil hp).elim⟩⟩
    · exact fun _ hp => (List.not_mem_nil hp).elim
  · cases h
theorem dec_Of.fitR (s : St U) (y : Sapi_Dec) (h : dec_Of.re s = some y) : Fits s (dec_Of.fin y) := by
  unfold dec_Of.re at h
  split at h
  · cases h
    refine fits_ren [] ?_ ?_ ren_nil rfl
    · exact List.forall_mem_cons.2 ⟨FV.one (FV.same (by assumption) rfl), fun _ hp => (List.not_mem_nil hp).elim⟩
    · exact fun _ hp => (List.not_mem_nil hp).elim
  · cases h
theorem dec_Of.sound (k : Nat) : Sound Try.prog DD 96 (dec_Of.D k) :=
  fun_sound (E := dec_Of.E k) (fn := Try.f96) (c := codeOf Try.f96) (dec_Of.ok k) mixed rfl Try.func96 (by kernel_rfl) (by kernel_rfl) (allL_of (l := []) (by kernel_rfl) allL_nil) (dec_Of.D k) dec_Of.mk dec_Of.re (by kernel_rfl) (by kernel_rfl) dec_Of.fit dec_Of.fitR (dec_Of.eq k)
/-! ### (*pyx/rate.Table).Set: function 53 -/
noncomputable def rate_Table_Set.f (k : Nat) (a0 : Srate_Table) (a1 : Srate_Key) (a2 : Sapi_Dec) : Option (Int × Srate_Table) := ((cond (decide (a1.f_Period ≥ 0)) (cond (decide (a1.f_Period < 12)) (cond (decide (a1.f_Kind ≥ 0)) (some (decide (a1.f_Kind < 3), a0.f_l, a1.f_Period, a1.f_Kind, a2.f_Neg, a2.f_C.1, a2.f_C.2, a2.f_Scale)) (some (false, a0.f_l, a1.f_Period, a1.f_Kind, a2.f_Neg, a2.f_C.1, a2.f_C.2, a2.f_Scale))) (some (false, a0.f_l, a1.f_Period, a1.f_Kind, a2.f_Neg, a2.f_C.1, a2.f_C.2, a2.f_Scale))) (some (false, a0.f_l, a1.f_Period, a1.f_Kind, a2.f_Neg, a2.f_C.1, a2.f_C.2, a2.f_Scale))) : Option (Bool × List (Srate_Key × Sapi_Dec) × Int × Int × Bool × Int × Int × Int)).bind fun y9 => (((cond (!y9.1) (some (true, y9.2.1, y9.2.2.1, y9.2.2.2.1, y9.2.2.2.2.1, y9.2.2.2.2.2.1, y9.2.2.2.2.2.2.1, y9.2.2.2.2.2.2.2)) ((dec_Sign.f k (⟨y9.2.2.2.2.1, (y9.2.2.2.2.2.1, y9.2.2.2.2.2.2.1), y9.2.2.2.2.2.2.2⟩ : Sapi_Dec)).bind fun t18 => (cond (decide (t18 ≤ 0)) (some (true, y9.2.1, y9.2.2.1, y9.2.2.2.1, y9.2.2.2.2.1, y9.2.2.2.2.2.1, y9.2.2.2.2.2.2.1, y9.2.2.2.2.2.2.2)) (cond (decide (y9.2.2.2.2.2.2.2 > 6)) (some (true, y9.2.1, y9.2.2.1, y9.2.2.2.1, y9.2.2.2.2.1, y9.2.2.2.2.2.1, y9.2.2.2.2.2.2.1, y9.2.2.2.2.2.2.2)) ((dec_Of.f k 1000000 0).bind fun t19 => ((dec_Cmp.f k (⟨y9.2.2.2.2.1, (y9.2.2.2.2.2.1, y9.2.2.2.2.2.2.1), y9.2.2.2.2.2.2.2⟩ : Sapi_Dec) (⟨t19.f_Neg, (t19.f_C.1, t19.f_C.2), t19.f_Scale⟩ : Sapi_Dec)).bind fun t20 => (some (decide (t20 ≥ 0), y9.2.1, y9.2.2.1, y9.2.2.2.1, y9.2.2.2.2.1, y9.2.2.2.2.2.1, y9.2.2.2.2.2.2.1, y9.2.2.2.2.2.2.2)))))))) : Option (Bool × List (Srate_Key × Sapi_Dec) × Int × Int × Bool × Int × Int × Int)).bind fun y21 => (cond (y21.1) (some (1, (⟨y21.2.1⟩ : Srate_Table))) (some (0, (⟨mput (keq_Srate_Key (⟨y21.2.2.1, y21.2.2.2.1⟩ : Srate_Key)) (⟨y21.2.2.1, y21.2.2.2.1⟩ : Srate_Key) (⟨y21.2.2.2.2.1, (y21.2.2.2.2.2.1, y21.2.2.2.2.2.2.1), y21.2.2.2.2.2.2.2⟩ : Sapi_Dec) y21.2.1⟩ : Srate_Table)))))
noncomputable def rate_Table_Set.un (s : St U) : Option (Srate_Table × Srate_Key × Sapi_Dec) := match s.get 0, lk s.o 7000000000000, s.get 1, s.get 2, s.get 1000000000000000 with | .ptr 7000000000000 0, some (.lit [x2]), .agg [.flat (.int .i64 x3), .flat (.int .i64 x4)], .agg [.flat (.bool x5), .flat (.int .u64 x6), .flat (.int .u64 x7), .flat (.int .i64 x8)], .ptr 7000000000000 0 => (map_Srate_Key_Sapi_Dec_t s.o x2).bind fun ex1 => (some ((⟨ex1.2⟩ : Srate_Table), (⟨x3, x4⟩ : Srate_Key), (⟨x5, (x6, x7), x8⟩ : Sapi_Dec))) | _, _, _, _, _ => none
noncomputable def rate_Table_Set.mk (x : (Srate_Table × Srate_Key × Sapi_Dec)) : St U := ⟨[(0, .ptr 7000000000000 0), (1, .agg [.flat (.int .i64 x.2.1.f_Period), .flat (.int .i64 x.2.1.f_Kind)]), (2, .agg [.flat (.bool x.2.2.f_Neg), .flat (.int .u64 x.2.2.f_C.1), .flat (.int .u64 x.2.2.f_C.2), .flat (.int .i64 x.2.2.f_Scale)]), (1000000000000000, .ptr 7000000000000 0)], [(7000000000000, .lit [.mp 7000000000001]), (7000000000001, .map true true true C.Srate_Key C.Sapi_Dec x.1.f_l)]⟩
noncomputable def rate_Table_Set.fin (y : (Int × Srate_Table)) : St U := ⟨[(0, .flat (.int .i64 y.1)), (1000000000000000, .ptr 7000000000000 0)], [(7000000000000, .lit [.mp 7000000000001]), (7000000000001, .map true true true C.Srate_Key C.Sapi_Dec y.2.f_l)]⟩
noncomputable def rate_Table_Set.D (k : Nat) : FDen U := { X := (Srate_Table × Srate_Key × Sapi_Dec), Y := (Int × Srate_Table), nt := 54, gh := [0], un := rate_Table_Set.un, f := fun x => rate_Table_Set.f k (x.1) (x.2.1) (x.2.2), fin := rate_Table_Set.fin, cl := false, clo := fun h => by cases h }
noncomputable def rate_Table_Set.re (s : St U) : Option (Int × Srate_Table) := match s.get 0, s.get 1000000000000000, lk s.o 7000000000000 with | .flat (.int .i64 x1), .ptr 7000000000000 0, some (.lit [x3]) => (map_Srate_Key_Sapi_Dec_t s.o x3).bind fun ex2 => (some (x1, (⟨ex2.2⟩ : Srate_Table))) | _, _, _ => none
noncomputable def rate_Table_Set.j1000.fin (y : (Bool × List (Srate_Key × Sapi_Dec) × Int × Int × Bool × Int × Int × Int)) : Out U := match y with | (x8, x1, x2, x3, x4, x5, x6, x7) => .norm ⟨[(0, .ptr 7000000000000 0), (4, .ptr 4 0), (5, .ptr 5 0), (1000000000000000, .ptr 7000000000000 0), (7, .flat (.bool x8))], [(7000000000000, .lit [.mp 700102100000000]), (700102100000000, .map true true true C.Srate_Key C.Sapi_Dec x1), (4, .lit [.flat (.int .i64 x2), .flat (.int .i64 x3)]), (5, .lit [.flat (.bool x4), .flat (.int .u64 x5), .flat (.int .u64 x6), .flat (.int .i64 x7)])]⟩
noncomputable def rate_Table_Set.j1000.finK {ρ : Type} (y : (Bool × List (Srate_Key × Sapi_Dec) × Int × Int × Bool × Int × Int × Int)) (K : Out U → Option ρ) : Option ρ := match y with | (x8, x1, x2, x3, x4, x5, x6, x7) => K (.norm ⟨[(0, .ptr 7000000000000 0), (4, .ptr 4 0), (5, .ptr 5 0), (1000000000000000, .ptr 7000000000000 0), (7, .flat (.bool x8))], [(7000000000000, .lit [.mp 700102100000000]), (700102100000000, .map true true true C.Srate_Key C.Sapi_Dec x1), (4, .lit [.flat (.int .i64 x2), .flat (.int .i64 x3)]), (5, .lit [.flat (.bool x4), .flat (.int .u64 x5), .flat (.int .u64 x6), .flat (.int .i64 x7)])]⟩)
theorem rate_Table_Set.j1000.finK_eq {ρ : Type} (y : (Bool × List (Srate_Key × Sapi_Dec) × Int × Int × Bool × Int × Int × Int)) (K : Out U → Option ρ) : rate_Table_Set.j1000.finK y K = K (rate_Table_Set.j1000.fin y) := by
  unfold rate_Table_Set.j1000.finK rate_Table_Set.j1000.fin
  first | rfl | (split <;> rfl)
noncomputable def rate_Table_Set.j1000.re : Out U → Option ((Bool × List (Srate_Key × Sapi_Dec) × Int × Int × Bool × Int × Int × Int)) | .norm s => (match s.get 0, s.get 4, s.get 5, s.get 1000000000000000, s.get 7, lk s.o 7000000000000, lk s.o 4, lk s.o 5 with | .ptr 7000000000000 0, .ptr 4 0, .ptr 5 0, .ptr 7000000000000 0, .flat (.bool x8), some (.lit [u7000000000000_0]), some (.lit [.flat (.int .i64 x2), .flat (.int .i64 x3)]), some (.lit [.flat (.bool x4), .flat (.int .u64 x5), .flat (.int .u64 x6), .flat (.int .i64 x7)]) => (map_Srate_Key_Sapi_Dec_t s.o u7000000000000_0).bind fun w7000000000000_0 => (some (x8, w7000000000000_0.2, x2, x3, x4, x5, x6, x7)) | _, _, _, _, _, _, _, _ => none) | _ => none
noncomputable def rate_Table_Set.j1000.J : JDen U := { Y := (Bool × List (Srate_Key × Sapi_Dec) × Int × Int × Bool × Int × Int × Int), re := rate_Table_Set.j1000.re, fin := rate_Table_Set.j1000.fin, finK := rate_Table_Set.j1000.finK, finK_eq := rate_Table_Set.j1000.finK_eq }
theorem rate_Table_Set.j1000.fit (o : Out U) (y : (Bool × List (Srate_Key × Sapi_Dec) × Int × Int × Bool × Int × Int × Int)) (h : rate_Table_Set.j1000.re o = some y) : FitsO o (rate_Table_Set.j1000.fin y) := by
  unfold rate_Table_Set.j1000.re at h
  split at h
  · split at h
    · obtain ⟨w7000000000000_0, ew7000000000000_0, h1⟩ := Option.bind_eq_some_iff.1 h
      cases h1
      refine fitsO_norm (fits_ren [(700102100000000, w7000000000000_0.1)] ?_ ?_ ren_one rfl)
      · exact List.forall_mem_cons.2 ⟨FV.one (FV.ptr (by assumption)), List.forall_mem_cons.2 ⟨FV.one (FV.ptr (by assumption)), List.forall_mem_cons.2 ⟨FV.one (FV.ptr (by assumption)), List.forall_mem_cons.2 ⟨FV.one (FV.ptr (by assumption)), List.forall_mem_cons.2 ⟨FV.one (FV.same (by assumption) rfl), fun _ hp => (List.not_mem_nil hp).elim⟩⟩⟩⟩⟩
      · exact List.forall_mem_cons.2 ⟨(FO.cells (show lk (St.o _) 7000000000000 = some _ from by assumption) (FCs.cons ((map_Srate_Key_Sapi_Dec_t_fit ew7000000000000_0 rfl).1) (FCs.nil))), List.forall_mem_cons.2 ⟨(map_Srate_Key_Sapi_Dec_t_fit ew7000000000000_0 rfl).2, List.forall_mem_cons.2 ⟨(FO.same (show lk (St.o _) 4 = some _ from by assumption) rfl), List.forall_mem_cons.2 ⟨(FO.same (show lk (St.o _) 5 = some _ from by assumption) rfl), fun _ hp => (List.not_mem_nil hp).elim⟩⟩⟩⟩
    · cases h
  · cases h
noncomputable def rate_Table_Set.j2000.fin (y : (Bool × List (Srate_Key × Sapi_Dec) × Int × Int × Bool × Int × Int × Int)) : Out U := match y with | (x17, x10, x11, x12, x13, x14, x15, x16) => .norm ⟨[(0, .ptr 7000000000000 0), (4, .ptr 4 0), (5, .ptr 5 0), (1000000000000000, .ptr 7000000000000 0), (47, .flat (.bool x17))], [(7000000000000, .lit [.mp 700102200000000]), (700102200000000, .map true true true C.Srate_Key C.Sapi_Dec x10), (4, .lit [.flat (.int .i64 x11), .flat (.int .i64 x12)]), (5, .lit [.flat (.bool x13), .flat (.int .u64 x14), .flat (.int .u64 x15), .flat (.int .i64 x16)])]⟩
noncomputable def rate_Table_Set.j2000.finK {ρ : Type} (y : (Bool × List (Srate_Key × Sapi_Dec) × Int × Int × Bool × Int × Int × Int)) (K : Out U → Option ρ) : Option ρ := match y with | (x17, x10, x11, x12, x13, x14, x15, x16) => K (.norm ⟨[(0, .ptr 7000000000000 0), (4, .ptr 4 0), (5, .ptr 5 0), (1000000000000000, .ptr 7000000000000 0), (47, .flat (.bool x17))], [(7000000000000, .lit [.mp 700102200000000]), (700102200000000, .map true true true C.Srate_Key C.Sapi_Dec x10), (4, .lit [.flat (.int .i64 x11), .flat (.int .i64 x12)]), (5, .lit [.flat (.bool x13), .flat (.int .u64 x14), .flat (.int .u64 x15), .flat (.int .i64 x16)])]⟩)
theorem rate_Table_Set.j2000.finK_eq {ρ : Type} (y : (Bool × List (Srate_Key × Sapi_Dec) × Int × Int × Bool × Int × Int × Int)) (K : Out U → Option ρ) : rate_Table_Set.j2000.finK y K = K (rate_Table_Set.j2000.fin y) := by
  unfold rate_Table_Set.j2000.finK rate_Table_Set.j2000.fin
  first | rfl | (split <;> rfl)
noncomputable def rate_Table_Set.j2000.re : Out U → Option ((Bool × List (Srate_Key × Sapi_Dec) × Int × Int × Bool × Int × Int × Int)) | .norm s => (match s.get 0, s.get 4, s.get 5, s.get 1000000000000000, s.get 47, lk s.o 7000000000000, lk s.o 4, lk s.o 5 with | .ptr 7000000000000 0, .ptr 4 0, .ptr 5 0, .ptr 7000000000000 0, .flat (.bool x17), some (.lit [u7000000000000_0]), some (.lit [.flat (.int .i64 x11), .flat (.int .i64 x12)]), some (.lit [.flat (.bool x13), .flat (.int .u64 x14), .flat (.int .u64 x15), .flat (.int .i64 x16)]) => (map_Srate_Key_Sapi_Dec_t s.o u7000000000000_0).bind fun w7000000000000_0 => (some (x17, w7000000000000_0.2, x11, x12, x13, x14, x15, x16)) | _, _, _, _, _, _, _, _ => none) | _ => none
noncomputable def rate_Table_Set.j2000.J : JDen U := { Y := (Bool × List (Srate_Key × Sapi_Dec) × Int × Int × Bool × Int × Int × Int), re := rate_Table_Set.j2000.re, fin := rate_Table_Set.j2000.fin, finK := rate_Table_Set.j2000.finK, finK_eq := rate_Table_Set.j2000.finK_eq }
theorem rate_Table_Set.j2000.fit (o : Out U) (y : (Bool × List (Srate_Key × Sapi_Dec) × Int × Int × Bool × Int × Int × Int)) (h : rate_Table_Set.j2000.re o = some y) : FitsO o (rate_Table_Set.j2000.fin y) := by
  unfold rate_Table_Set.j2000.re at h
  split at h
  · split at h
    · obtain ⟨w7000000000000_0, ew7000000000000_0, h1⟩ := Option.bind_eq_some_iff.1 h
      cases h1
      refine fitsO_norm (fits_ren [(700102200000000, w7000000000000_0.1)] ?_ ?_ ren_one rfl)
      · exact List.forall_mem_cons.2 ⟨FV.one (FV.ptr (by assumption)), List.forall_mem_cons.2 ⟨FV.one (FV.ptr (by assumption)), List.forall_mem_cons.2 ⟨FV.one (FV.ptr (by assumption)), List.forall_mem_cons.2 ⟨FV.one (FV.ptr (by assumption)), List.forall_mem_cons.2 ⟨FV.one (FV.same (by assumption) rfl), fun _ hp => (List.not_mem_nil hp).elim⟩⟩⟩⟩⟩
      · exact List.forall_mem_cons.2 ⟨(FO.cells (show lk (St.o _) 7000000000000 = some _ from by assumption) (FCs.cons ((map_Srate_Key_Sapi_Dec_t_fit ew7000000000000_0 rfl).1) (FCs.nil))), List.forall_mem_cons.2 ⟨(map_Srate_Key_Sapi_Dec_t_fit ew7000000000000_0 rfl).2, List.forall_mem_cons.2 ⟨(FO.same (show lk (St.o _) 4 = some _ from by assumption) rfl), List.forall_mem_cons.2 ⟨(FO.same (show lk (St.o _) 5 = some _ from by assumption) rfl), fun _ hp => (List.not_mem_nil hp).elim⟩⟩⟩⟩
    · cases h
  · cases h
noncomputable def rate_Table_Set.jl : List (Nat × JDen U) := [(1000, rate_Table_Set.j1000.J), (2000, rate_Table_Set.j2000.J)]
noncomputable def rate_Table_Set.fl (k : Nat) : List (Nat × FDen U) := [(37, dec_Sign.D k), (96, dec_Of.D k), (48, dec_Cmp.D k)]
noncomputable def rate_Table_Set.ll (k : Nat) : List (Nat × LDen U) := []
noncomputable def rate_Table_Set.E (k : Nat) : Env U := { P := Try.prog, D := DD, fd := lk (rate_Table_Set.fl k), sf := lk sl0, ld := lk (rate_Table_Set.ll k), jd := lk rate_Table_Set.jl, mode := lk [], elc := lk ec, mpc := lk mc, rts := Try.f53.resultTypes.toList, dyn := fun t => false, vecs := fun d => false, results := Try.f53.results.toList, gh := [0], own := false, io := fun g i => false }
theorem rate_Table_Set.ok (k : Nat) : EnvOk (rate_Table_Set.E k) := envOk lawful (rate_Table_Set.fl k) sl0 (rate_Table_Set.ll k) rate_Table_Set.jl _ _ _ _ _ _ _ _ _ _ (by
  intro p hp
  simp only [rate_Table_Set.fl, List.mem_cons, List.not_mem_nil, or_false] at hp
  rcases hp with rfl | rfl | rfl
  · exact ⟨dec_Sign.sound k, enter_of Try.func37 (by kernel_rfl) (by kernel_rfl)⟩
  · exact ⟨dec_Of.sound k, enter_of Try.func96 (by kernel_rfl) (by kernel_rfl)⟩
  · exact ⟨dec_Cmp.sound k, enter_of Try.func48 (by kernel_rfl) (by kernel_rfl)⟩) sl0_ok (by
  intro p hp
  simp only [rate_Table_Set.jl, List.mem_cons, List.not_mem_nil, or_false] at hp
  rcases hp with rfl | rfl
  · exact rate_Table_Set.j1000.fit
  · exact rate_Table_Set.j2000.fit)
theorem rate_Table_Set.eq (k : Nat) (x : (Srate_Table × Srate_Key × Sapi_Dec)) : runF (rate_Table_Set.E k) (codeOf Try.f53) (rate_Table_Set.mk x) rate_Table_Set.re = (rate_Table_Set.D k).f x := by kernel_rfl
theorem rate_Table_Set.fit (s : St U) (x : (Srate_Table × Srate_Key × Sapi_Dec)) (h : rate_Table_Set.un s = some x) : Fits s (rate_Table_Set.mk x) := by
  unfold rate_Table_Set.un at h
  split at h
  · obtain ⟨ex1, hex1, hh1⟩ := Option.bind_eq_some_iff.1 h
    cases hh1
    refine fits_ren [(7000000000001, ex1.1)] ?_ ?_ ren_one rfl
    · exact List.forall_mem_cons.2 ⟨FV.one (FV.ptr (by assumption)), List.forall_mem_cons.2 ⟨FV.one (FV.same (by assumption) rfl), List.forall_mem_cons.2 ⟨FV.one (FV.same (by assumption) rfl), List.forall_mem_cons.2 ⟨FV.one (FV.ptr (by assumption)), fun _ hp => (List.not_mem_nil hp).elim⟩⟩⟩⟩
    · exact List.forall_mem_cons.2 ⟨FO.cells (show lk (St.o _) 7000000000000 = some _ from by assumption) (FCs.cons ((map_Srate_Key_Sapi_Dec_t_fit hex1 rfl).1) (FCs.nil)), List.forall_mem_cons.2 ⟨(map_Srate_Key_Sapi_Dec_t_fit hex1 rfl).2, fun _ hp => (List.not_mem_nil hp).elim⟩⟩
  · cases h
theorem rate_Table_Set.fitR (s : St U) (y : (Int × Srate_Table)) (h : rate_Table_Set.re s = some y) : Fits s (rate_Table_Set.fin y) := by
  unfold rate_Table_Set.re at h
  split at h
  · obtain ⟨ex2, hex2, hh1⟩ := Option.bind_eq_some_iff.1 h
    cases hh1
    refine fits_ren [(7000000000001, ex2.1)] ?_ ?_ ren_one rfl
    · exact List.forall_mem_cons.2 ⟨FV.one (FV.same (by assumption) rfl), List.forall_mem_cons.2 ⟨FV.one (FV.ptr (by assumption)), fun _ hp => (List.not_mem_nil hp).elim⟩⟩
    · exact List.forall_mem_cons.2 ⟨FO.cells (show lk (St.o _) 7000000000000 = some _ from by assumption) (FCs.cons ((map_Srate_Key_Sapi_Dec_t_fit hex2 rfl).1) (FCs.nil)), List.forall_mem_cons.2 ⟨(map_Srate_Key_Sapi_Dec_t_fit hex2 rfl).2, fun _ hp => (List.not_mem_nil hp).elim⟩⟩
  · cases h
theorem rate_Table_Set.sound (k : Nat) : Sound Try.prog DD 53 (rate_Table_Set.D k) :=
  fun_sound (E := rate_Table_Set.E k) (fn := Try.f53) (c := codeOf Try.f53) (rate_Table_Set.ok k) mixed rfl Try.func53 (by kernel_rfl) (by kernel_rfl) (allL_of (l := []) (by kernel_rfl) allL_nil) (rate_Table_Set.D k) rate_Table_Set.mk rate_Table_Set.re (by kernel_rfl) (by kernel_rfl) rate_Table_Set.fit rate_Table_Set.fitR (rate_Table_Set.eq k)
/-! ### pyx/pyxlaw16.known: function 52 -/
noncomputable def pyxlaw16_known.f (k : Nat)  : Option Bool := (rate_New.f k).bind fun t1 => ((rate_Table_Get.f k (⟨t1.f_l⟩ : Srate_Table) (⟨3, 1⟩ : Srate_Key)).bind fun t2 => ((pyxref1_Of.f k 125 2).bind fun t3 => ((rate_Table_Set.f k (⟨t2.2.2.f_l⟩ : Srate_Table) (⟨3, 1⟩ : Srate_Key) (⟨t3.f_Neg, (t3.f_C.1, t3.f_C.2), t3.f_Scale⟩ : Sapi_Dec)).bind fun t4 => ((rate_Table_Get.f k (⟨t4.2.f_l⟩ : Srate_Table) (⟨3, 1⟩ : Srate_Key)).bind fun t5 => (cond (t2.2.1 == 11) (cond (t4.1 == 0) (cond (t5.2.1 == 0) ((pyxref1_Of.f k 125 2).bind fun t6 => (some ((t5.1.f_Neg == t6.f_Neg) && ((t5.1.f_C.1 == t6.f_C.1) && ((t5.1.f_C.2 == t6.f_C.2) && (t5.1.f_Scale == t6.f_Scale)))))) (some false)) (some false)) (some false))))))
noncomputable def pyxlaw16_known.un (s : St U) : Option Unit := some ()
noncomputable def pyxlaw16_known.mk (x : Unit) : St U := ⟨[], []⟩
noncomputable def pyxlaw16_known.fin (y : Bool) : St U := ⟨[(0, .flat (.bool y))], []⟩
noncomputable def pyxlaw16_known.D (k : Nat) : FDen U := { X := Unit, Y := Bool, nt := 43, gh := [], un := pyxlaw16_known.un, f := fun x => pyxlaw16_known.f k , fin := pyxlaw16_known.fin, cl := true, clo := fun _ _ => rfl }
noncomputable def pyxlaw16_known.re (s : St U) : Option Bool := match s.get 0 with | .flat (.bool x1) => some x1 | _ => none
noncomputable def pyxlaw16_known.jl : List (Nat × JDen U) := []
noncomputable def pyxlaw16_known.fl (k : Nat) : List (Nat × FDen U) := [(51, rate_New.D k), (56, rate_Table_Get.D k), (17, pyxref1_Of.D k), (53, rate_Table_Set.D k)]
noncomputable def pyxlaw16_known.ll (k : Nat) : List (Nat × LDen U) := []
noncomputable def pyxlaw16_known.E (k : Nat) : Env U := { P := Try.prog, D := DD, fd := lk (pyxlaw16_known.fl k), sf := lk sl0, ld := lk (pyxlaw16_known.ll k), jd := lk pyxlaw16_known.jl, mode := lk [], elc := lk ec, mpc := lk mc, rts := Try.f52.resultTypes.toList, dyn := fun t => false, vecs := fun d => false, results := Try.f52.results.toList, gh := [], own := false, io := fun g i => false }
theorem pyxlaw16_known.ok (k : Nat) : EnvOk (pyxlaw16_known.E k) := envOk lawful (pyxlaw16_known.fl k) sl0 (pyxlaw16_known.ll k) pyxlaw16_known.jl _ _ _ _ _ _ _ _ _ _ (by
  intro p hp
  simp only [pyxlaw16_known.fl, List.mem_cons, List.not_mem_nil, or_false] at hp
  rcases hp with rfl | rfl | rfl | rfl
  · exact ⟨rate_New.sound k, enter_of Try.func51 (by kernel_rfl) (by kernel_rfl)⟩
  · exact ⟨rate_Table_Get.sound k, enter_of Try.func56 (by kernel_rfl) (by kernel_rfl)⟩
  · exact ⟨pyxref1_Of.sound k, enter_of Try.func17 (by kernel_rfl) (by kernel_rfl)⟩
  · exact ⟨rate_Table_Set.sound k, enter_of Try.func53 (by kernel_rfl) (by kernel_rfl)⟩) sl0_ok (by
  intro p hp
  simp [pyxlaw16_known.jl] at hp)
theorem pyxlaw16_known.eq (k : Nat) (x : Unit) : runF (pyxlaw16_known.E k) (codeOf Try.f52) (pyxlaw16_known.mk x) pyxlaw16_known.re = (pyxlaw16_known.D k).f x := by kernel_rfl
theorem pyxlaw16_known.fit (s : St U) (x : Unit) (h : pyxlaw16_known.un s = some x) : Fits s (pyxlaw16_known.mk x) := by
  unfold pyxlaw16_known.un at h
  cases h
  refine fits_ren [] ?_ ?_ ren_nil rfl
  · exact fun _ hp => (List.not_mem_nil hp).elim
  · exact fun _ hp => (List.not_mem_nil hp).elim
theorem pyxlaw16_known.fitR (s : St U) (y : Bool) (h : pyxlaw16_known.re s = some y) : Fits s (pyxlaw16_known.fin y) := by
  unfold pyxlaw16_known.re at h
  split at h
  · cases h
    refine fits_ren [] ?_ ?_ ren_nil rfl
    · exact List.forall_mem_cons.2 ⟨FV.one (FV.same (by assumption) rfl), fun _ hp => (List.not_mem_nil hp).elim⟩
    · exact fun _ hp => (List.not_mem_nil hp).elim
  · cases h
theorem pyxlaw16_known.sound (k : Nat) : Sound Try.prog DD 52 (pyxlaw16_known.D k) :=
  fun_sound (E := pyxlaw16_known.E k) (fn := Try.f52) (c := codeOf Try.f52) (pyxlaw16_known.ok k) mixed rfl Try.func52 (by kernel_rfl) (by kernel_rfl) (allL_of (l := []) (by kernel_rfl) allL_nil) (pyxlaw16_known.D k) pyxlaw16_known.mk pyxlaw16_known.re (by kernel_rfl) (by kernel_rfl) pyxlaw16_known.fit pyxlaw16_known.fitR (pyxlaw16_known.eq k)
/-! ### pyx/pyxhand.Pick: function 25 -/
noncomputable def pyxhand_Pick.f (k : Nat) (a0 : Int) (a1 : Int) : Option Int := cond (a1 == 0) none (cond (decide ((Int.tmod a0 a1) < 0)) (some (IntKind.wrap .i64 ((Int.tmod a0 a1) + a1))) (some (Int.tmod a0 a1)))
noncomputable def pyxhand_Pick.un (s : St U) : Option (Int × Int) := match s.get 0, s.get 1 with | .flat (.int .i64 x1), .flat (.int .i64 x2) => some (x1, x2) | _, _ => none
noncomputable def pyxhand_Pick.mk (x : (Int × Int)) : St U := ⟨[(0, .flat (.int .i64 x.1)), (1, .flat (.int .i64 x.2))], []⟩
noncomputable def pyxhand_Pick.fin (y : Int) : St U := ⟨[(0, .flat (.int .i64 y))], []⟩
noncomputable def pyxhand_Pick.D (k : Nat) : FDen U := { X := (Int × Int), Y := Int, nt := 14, gh := [], un := pyxhand_Pick.un, f := fun x => pyxhand_Pick.f k (x.1) (x.2), fin := pyxhand_Pick.fin, cl := true, clo := fun _ _ => rfl }
noncomputable def pyxhand_Pick.re (s : St U) : Option Int := match s.get 0 with | .flat (.int .i64 x1) => some x1 | _ => none
noncomputable def pyxhand_Pick.jl : List (Nat × JDen U) := []
noncomputable def pyxhand_Pick.fl (k : Nat) : List (Nat × FDen U) := []
noncomputable def pyxhand_Pick.ll (k : Nat) : List (Nat × LDen U) := []
noncomputable def pyxhand_Pick.E (k : Nat) : Env U := { P := Try.prog, D := DD, fd := lk (pyxhand_Pick.fl k), sf := lk sl0, ld := lk (pyxhand_Pick.ll k), jd := lk pyxhand_Pick.jl, mode := lk [], elc := lk ec, mpc := lk mc, rts := Try.f25.resultTypes.toList, dyn := fun t => false, vecs := fun d => false, results := Try.f25.results.toList, gh := [], own := false, io := fun g i => false }
theorem pyxhand_Pick.ok (k : Nat) : EnvOk (pyxhand_Pick.E k) := envOk lawful (pyxhand_Pick.fl k) sl0 (pyxhand_Pick.ll k) pyxhand_Pick.jl _ _ _ _ _ _ _ _ _ _ (by
  intro p hp
  simp [pyxhand_Pick.fl] at hp) sl0_ok (by
  intro p hp
  simp [pyxhand_Pick.jl] at hp)
theorem pyxhand_Pick.eq (k : Nat) (x : (Int × Int)) : runF (pyxhand_Pick.E k) (codeOf Try.f25) (pyxhand_Pick.mk x) pyxhand_Pick.re = (pyxhand_Pick.D k).f x := by kernel_rfl
theorem pyxhand_Pick.fit (s : St U) (x : (Int × Int)) (h : pyxhand_Pick.un s = some x) : Fits s (pyxhand_Pick.mk x) := by
  unfold pyxhand_Pick.un at h
  split at h
  · cases h
    refine fits_ren [] ?_ ?_ ren_nil rfl
    · exact List.forall_mem_cons.2 ⟨FV.one (FV.same (by assumption) rfl), List.forall_mem_cons.2 ⟨FV.one (FV.same (by assumption) rfl), fun _ hp => (List.not_mem_nil hp).elim⟩⟩
    · exact fun _ hp => (List.not_mem_nil hp).elim
  · cases h
theorem pyxhand_Pick.fitR (s : St U) (y : Int) (h : pyxhand_Pick.re s = some y) : Fits s (pyxhand_Pick.fin y) := by
  unfold pyxhand_Pick.re at h
  split at h
  · cases h
    refine fits_ren [] ?_ ?_ ren_nil rfl
    · exact List.forall_mem_cons.2 ⟨FV.one (FV.same (by assumption) rfl), fun _ hp => (List.not_mem_nil hp).elim⟩
    · exact fun _ hp => (List.not_mem_nil hp).elim
  · cases h
theorem pyxhand_Pick.sound (k : Nat) : Sound Try.prog DD 25 (pyxhand_Pick.D k) :=
  fun_sound (E := pyxhand_Pick.E k) (fn := Try.f25) (c := codeOf Try.f25) (pyxhand_Pick.ok k) mixed rfl Try.func25 (by kernel_rfl) (by kernel_rfl) (allL_of (l := []) (by kernel_rfl) allL_nil) (pyxhand_Pick.D k) pyxhand_Pick.mk pyxhand_Pick.re (by kernel_rfl) (by kernel_rfl) pyxhand_Pick.fit pyxhand_Pick.fitR (pyxhand_Pick.eq k)
/-! ### pyx/pyxhand.Dec: function 21 -/
noncomputable def pyxhand_Dec.f (k : Nat) (a0 : Int) (a1 : Int) (a2 : Int) : Option Sapi_Dec := (pyxhand_Pick.f k a2 11).bind fun t1 => (cond (t1 == 0) ((pyxhand_Pick.f k a0 12).bind fun t2 => (some (⟨(Int.tmod a2 2) == 0, (IntKind.wrap .u64 (a0), IntKind.wrap .u64 (a1)), IntKind.wrap .i64 (t2 - 1)⟩ : Sapi_Dec))) (cond (t1 == 1) ((pyxhand_Pick.f k a1 54210108624).bind fun t3 => ((pyxhand_Pick.f k (IntKind.wrap .i64 (Int.tdiv a2 11)) 10).bind fun t4 => (some (⟨(Int.tmod a0 2) == 0, (IntKind.wrap .u64 (a0), IntKind.wrap .u64 (t3)), t4⟩ : Sapi_Dec)))) (cond (t1 == 2) ((pyxhand_Pick.f k a0 7).bind fun t5 => ((pyxhand_Pick.f k a1 10).bind fun t6 => ((pyxref1_Of.f k (IntKind.wrap .i64 (t5 - 3)) t6).bind fun t7 => (some (⟨t7.f_Neg, (t7.f_C.1, t7.f_C.2), t7.f_Scale⟩ : Sapi_Dec))))) (cond (t1 == 3) ((pyxhand_Pick.f k a1 10).bind fun t8 => ((pyxref1_Of.f k a0 t8).bind fun t9 => (some (⟨t9.f_Neg, (t9.f_C.1, t9.f_C.2), t9.f_Scale⟩ : Sapi_Dec)))) ((pyxhand_Pick.f k a0 2000000).bind fun t10 => ((pyxhand_Pick.f k a1 10).bind fun t11 => ((pyxref1_Of.f k (IntKind.wrap .i64 (t10 - 1000000)) t11).bind fun t12 => (some (⟨t12.f_Neg, (t12.f_C.1, t12.f_C.2), t12.f_Scale⟩ : Sapi_Dec)))))))))
noncomputable def pyxhand_Dec.un (s : St U) : Option (Int × Int × Int) := match s.get 0, s.get 1, s.get 2 with | .flat (.int .i64 x1), .flat (.int .i64 x2), .flat (.int .i64 x3) => some (x1, x2, x3) | _, _, _ => none
noncomputable def pyxhand_Dec.mk (x : (Int × Int × Int)) : St U := ⟨[(0, .flat (.int .i64 x.1)), (1, .flat (.int .i64 x.2.1)), (2, .flat (.int .i64 x.2.2))], []⟩
noncomputable def pyxhand_Dec.fin (y : Sapi_Dec) : St U := ⟨[(0, .agg [.flat (.bool y.f_Neg), .flat (.int .u64 y.f_C.1), .flat (.int .u64 y.f_C.2), .flat (.int .i64 y.f_Scale)])], []⟩
noncomputable def pyxhand_Dec.D (k : Nat) : FDen U := { X := (Int × Int × Int), Y := Sapi_Dec, nt := 58, gh := [], un := pyxhand_Dec.un, f := fun x => pyxhand_Dec.f k (x.1) (x.2.1) (x.2.2), fin := pyxhand_Dec.fin, cl := true, clo := fun _ _ => rfl }
noncomputable def pyxhand_Dec.re (s : St U) : Option Sapi_Dec := match s.get 0 with | .agg [.flat (.bool x1), .flat (.int .u64 x2), .flat (.int .u64 x3), .flat (.int .i64 x4)] => some (⟨x1, (x2, x3), x4⟩ : Sapi_Dec) | _ => none
noncomputable def pyxhand_Dec.jl : List (Nat × JDen U) := []
noncomputable def pyxhand_Dec.fl (k : Nat) : List (Nat × FDen U) := [(25, pyxhand_Pick.D k), (17, pyxref1_Of.D k)]
noncomputable def pyxhand_Dec.ll (k : Nat) : List (Nat × LDen U) := []
noncomputable def pyxhand_Dec.E (k : Nat) : Env U := { P := Try.prog, D := DD, fd := lk (pyxhand_Dec.fl k), sf := lk sl0, ld := lk (pyxhand_Dec.ll k), jd := lk pyxhand_Dec.jl, mode := lk [], elc := lk ec, mpc := lk mc, rts := Try.f21.resultTypes.toList, dyn := fun t => false, vecs := fun d => false, results := Try.f21.results.toList, gh := [], own := false, io := fun g i => false }
theorem pyxhand_Dec.ok (k : Nat) : EnvOk (pyxhand_Dec.E k) := envOk lawful (pyxhand_Dec.fl k) sl0 (pyxhand_Dec.ll k) pyxhand_Dec.jl _ _ _ _ _ _ _ _ _ _ (by
  intro p hp
  simp only [pyxhand_Dec.fl, List.mem_cons, List.not_mem_nil, or_false] at hp
  rcases hp with rfl | rfl
  · exact ⟨pyxhand_Pick.sound k, enter_of Try.func25 (by kernel_rfl) (by kernel_rfl)⟩
  · exact ⟨pyxref1_Of.sound k, enter_of Try.func17 (by kernel_rfl) (by kernel_rfl)⟩) sl0_ok (by
  intro p hp
  simp [pyxhand_Dec.jl] at hp)
theorem pyxhand_Dec.eq (k : Nat) (x : (Int × Int × Int)) : runF (pyxhand_Dec.E k) (codeOf Try.f21) (pyxhand_Dec.mk x) pyxhand_Dec.re = (pyxhand_Dec.D k).f x := by kernel_rfl
theorem pyxhand_Dec.fit (s : St U) (x : (Int × Int × Int)) (h : pyxhand_Dec.un s = some x) : Fits s (pyxhand_Dec.mk x) := by
  unfold pyxhand_Dec.un at h
  split at h
  · cases h
    refine fits_ren [] ?_ ?_ ren_nil rfl
    · exact List.forall_mem_cons.2 ⟨FV.one (FV.same (by assumption) rfl), List.forall_mem_cons.2 ⟨FV.one (FV.same (by assumption) rfl), List.forall_mem_cons.2 ⟨FV.one (FV.same (by assumption) rfl), fun _ hp => (List.not_mem_nil hp).elim⟩⟩⟩
    · exact fun _ hp => (List.not_mem_nil hp).elim
  · cases h
theorem pyxhand_Dec.fitR (s : St U) (y : Sapi_Dec) (h : pyxhand_Dec.re s = some y) : Fits s (pyxhand_Dec.fin y) := by
  unfold pyxhand_Dec.re at h
  split at h
  · cases h
    refine fits_ren [] ?_ ?_ ren_nil rfl
    · exact List.forall_mem_cons.2 ⟨FV.one (FV.same (by assumption) rfl), fun _ hp => (List.not_mem_nil hp).elim⟩
    · exact fun _ hp => (List.not_mem_nil hp).elim
  · cases h
theorem pyxhand_Dec.sound (k : Nat) : Sound Try.prog DD 21 (pyxhand_Dec.D k) :=
  fun_sound (E := pyxhand_Dec.E k) (fn := Try.f21) (c := codeOf Try.f21) (pyxhand_Dec.ok k) mixed rfl Try.func21 (by kernel_rfl) (by kernel_rfl) (allL_of (l := []) (by kernel_rfl) allL_nil) (pyxhand_Dec.D k) pyxhand_Dec.mk pyxhand_Dec.re (by kernel_rfl) (by kernel_rfl) pyxhand_Dec.fit pyxhand_Dec.fitR (pyxhand_Dec.eq k)
/-! ### pyx/pyxref11.is: function 103 -/
noncomputable def pyxref11_is.f (k : Nat) (a0 : Int) : Option Bool := cond (decide (a0 ≥ 0)) (some (decide (a0 < 12))) (some false)
noncomputable def pyxref11_is.un (s : St U) : Option Int := match s.get 0 with | .flat (.int .i64 x1) => some x1 | _ => none
noncomputable def pyxref11_is.mk (x : Int) : St U := ⟨[(0, .flat (.int .i64 x))], []⟩
noncomputable def pyxref11_is.fin (y : Bool) : St U := ⟨[(0, .flat (.bool y))], []⟩
noncomputable def pyxref11_is.D (k : Nat) : FDen U := { X := Int, Y := Bool, nt := 9, gh := [], un := pyxref11_is.un, f := fun x => pyxref11_is.f k (x), fin := pyxref11_is.fin, cl := true, clo := fun _ _ => rfl }
noncomputable def pyxref11_is.re (s : St U) : Option Bool := match s.get 0 with | .flat (.bool x1) => some x1 | _ => none
noncomputable def pyxref11_is.jl : List (Nat × JDen U) := []
noncomputable def pyxref11_is.fl (k : Nat) : List (Nat × FDen U) := []
noncomputable def pyxref11_is.ll (k : Nat) : List (Nat × LDen U) := []
noncomputable def pyxref11_is.E (k : Nat) : Env U := { P := Try.prog, D := DD, fd := lk (pyxref11_is.fl k), sf := lk sl0, ld := lk (pyxref11_is.ll k), jd := lk pyxref11_is.jl, mode := lk [], elc := lk ec, mpc := lk mc, rts := Try.f103.resultTypes.toList, dyn := fun t => false, vecs := fun d => false, results := Try.f103.results.toList, gh := [], own := false, io := fun g i => false }
theorem pyxref11_is.ok (k : Nat) : EnvOk (pyxref11_is.E k) := envOk lawful (pyxref11_is.fl k) sl0 (pyxref11_is.ll k) pyxref11_is.jl _ _ _ _ _ _ _ _ _ _ (by
  intro p hp
  simp [pyxref11_is.fl] at hp) sl0_ok (by
  intro p hp
  simp [pyxref11_is.jl] at hp)
theorem pyxref11_is.eq (k : Nat) (x : Int) : runF (pyxref11_is.E k) (codeOf Try.f103) (pyxref11_is.mk x) pyxref11_is.re = (pyxref11_is.D k).f x := by kernel_rfl
theorem pyxref11_is.fit (s : St U) (x : Int) (h : pyxref11_is.un s = some x) : Fits s (pyxref11_is.mk x) := by
  unfold pyxref11_is.un at h
  split at h
  · cases h
    refine fits_ren [] ?_ ?_ ren_nil rfl
    · exact List.forall_mem_cons.2 ⟨FV.one (FV.same (by assumption) rfl), fun _ hp => (List.not_mem_nil hp).elim⟩
    · exact fun _ hp => (List.not_mem_nil hp).elim
  · cases h
theorem pyxref11_is.fitR (s : St U) (y : Bool) (h : pyxref11_is.re s = some y) : Fits s (pyxref11_is.fin y) := by
  unfold pyxref11_is.re at h
  split at h
  · cases h
    refine fits_ren [] ?_ ?_ ren_nil rfl
    · exact List.forall_mem_cons.2 ⟨FV.one (FV.same (by assumption) rfl), fun _ hp => (List.not_mem_nil hp).elim⟩
    · exact fun _ hp => (List.not_mem_nil hp).elim
  · cases h
theorem pyxref11_is.sound (k : Nat) : Sound Try.prog DD 103 (pyxref11_is.D k) :=
  fun_sound (E := pyxref11_is.E k) (fn := Try.f103) (c := codeOf Try.f103) (pyxref11_is.ok k) mixed rfl Try.func103 (by kernel_rfl) (by kernel_rfl) (allL_of (l := []) (by kernel_rfl) allL_nil) (pyxref11_is.D k) pyxref11_is.mk pyxref11_is.re (by kernel_rfl) (by kernel_rfl) pyxref11_is.fit pyxref11_is.fitR (pyxref11_is.eq k)
/-! ### pyx/pyxref1.Sign: function 68 -/
noncomputable def pyxref1_Sign.f (k : Nat) (a0 : Sapi_Dec) : Option Int := (((pyxref1_RightDec.f k (⟨a0.f_Neg, (a0.f_C.1, a0.f_C.2), a0.f_Scale⟩ : Sapi_Dec)).bind fun t1 => (cond (!t1) (some (true, a0.f_Neg, a0.f_C.1, a0.f_C.2, a0.f_Scale)) (some ((a0.f_C.1 == 0) && (a0.f_C.2 == 0), a0.f_Neg, a0.f_C.1, a0.f_C.2, a0.f_Scale)))) : Option (Bool × Bool × Int × Int × Int)).bind fun y7 => (cond (y7.1) (some 0) (cond (y7.2.1) (some (-1)) (some 1)))
noncomputable def pyxref1_Sign.un (s : St U) : Option Sapi_Dec := match s.get 0 with | .agg [.flat (.bool x1), .flat (.int .u64 x2), .flat (.int .u64 x3), .flat (.int .i64 x4)] => some (⟨x1, (x2, x3), x4⟩ : Sapi_Dec) | _ => none
noncomputable def pyxref1_Sign.mk (x : Sapi_Dec) : St U := ⟨[(0, .agg [.flat (.bool x.f_Neg), .flat (.int .u64 x.f_C.1), .flat (.int .u64 x.f_C.2), .flat (.int .i64 x.f_Scale)])], []⟩
noncomputable def pyxref1_Sign.fin (y : Int) : St U := ⟨[(0, .flat (.int .i64 y))], []⟩
noncomputable def pyxref1_Sign.D (k : Nat) : FDen U := { X := Sapi_Dec, Y := Int, nt := 16, gh := [], un := pyxref1_Sign.un, f := fun x => pyxref1_Sign.f k (x), fin := pyxref1_Sign.fin, cl := true, clo := fun _ _ => rfl }
noncomputable def pyxref1_Sign.re (s : St U) : Option Int := match s.get 0 with | .flat (.int .i64 x1) => some x1 | _ => none
noncomputable def pyxref1_Sign.j1000.fin (y : (Bool × Bool × Int × Int × Int)) : Out U := match y with | (x6, x2, x3, x4, x5) => .norm ⟨[(1, .ptr 1 0), (3, .flat (.bool x6))], [(1, .lit [.flat (.bool x2), .flat (.int .u64 x3), .flat (.int .u64 x4), .flat (.int .i64 x5)])]⟩
noncomputable def pyxref1_Sign.j1000.finK {ρ : Type} (y : (Bool × Bool × Int × Int × Int)) (K : Out U → Option ρ) : Option ρ := match y with | (x6, x2, x3, x4, x5) => K (.norm ⟨[(1, .ptr 1 0), (3, .flat (.bool x6))], [(1, .lit [.flat (.bool x2), .flat (.int .u64 x3), .flat (.int .u64 x4), .flat (.int .i64 x5)])]⟩)
theorem pyxref1_Sign.j1000.finK_eq {ρ : Type} (y : (Bool × Bool × Int × Int × Int)) (K : Out U → Option ρ) : pyxref1_Sign.j1000.finK y K = K (pyxref1_Sign.j1000.fin y) := by
  unfold pyxref1_Sign.j1000.finK pyxref1_Sign.j1000.fin
  first | rfl | (split <;> rfl)
noncomputable def pyxref1_Sign.j1000.re : Out U → Option ((Bool × Bool × Int × Int × Int)) | .norm s => (match s.get 1, s.get 3, lk s.o 1 with | .ptr 1 0, .flat (.bool x6), some (.lit [.flat (.bool x2), .flat (.int .u64 x3), .flat (.int .u64 x4), .flat (.int .i64 x5)]) => some (x6, x2, x3, x4, x5) | _, _, _ => none) | _ => none
noncomputable def pyxref1_Sign.j1000.J : JDen U := { Y := (Bool × Bool × Int × Int × Int), re := pyxref1_Sign.j1000.re, fin := pyxref1_Sign.j1000.fin, finK := pyxref1_Sign.j1000.finK, finK_eq := pyxref1_Sign.j1000.finK_eq }
theorem pyxref1_Sign.j1000.fit (o : Out U) (y : (Bool × Bool × Int × Int × Int)) (h : pyxref1_Sign.j1000.re o = some y) : FitsO o (pyxref1_Sign.j1000.fin y) := by
  unfold pyxref1_Sign.j1000.re at h
  split at h
  · split at h
    · cases h
      refine fitsO_norm (fits_ren [] ?_ ?_ ren_nil rfl)
      · exact List.forall_mem_cons.2 ⟨FV.one (FV.ptr (by assumption)), List.forall_mem_cons.2 ⟨FV.one (FV.same (by assumption) rfl), fun _ hp => (List.not_mem_nil hp).elim⟩⟩
      · exact List.forall_mem_cons.2 ⟨(FO.same (show lk (St.o _) 1 = some _ from by assumption) rfl), fun _ hp => (List.not_mem_nil hp).elim⟩
    · cases h
  · cases h
noncomputable def pyxref1_Sign.jl : List (Nat × JDen U) := [(1000, pyxref1_Sign.j1000.J)]
noncomputable def pyxref1_Sign.fl (k : Nat) : List (Nat × FDen U) := [(104, pyxref1_RightDec.D k)]
noncomputable def pyxref1_Sign.ll (k : Nat) : List (Nat × LDen U) := []
noncomputable def pyxref1_Sign.E (k : Nat) : Env U := { P := Try.prog, D := DD, fd := lk (pyxref1_Sign.fl k), sf := lk sl0, ld := lk (pyxref1_Sign.ll k), jd := lk pyxref1_Sign.jl, mode := lk [], elc := lk ec, mpc := lk mc, rts := Try.f68.resultTypes.toList, dyn := fun t => false, vecs := fun d => false, results := Try.f68.results.toList, gh := [], own := false, io := fun g i => false }
theorem pyxref1_Sign.ok (k : Nat) : EnvOk (pyxref1_Sign.E k) := envOk lawful (pyxref1_Sign.fl k) sl0 (pyxref1_Sign.ll k) pyxref1_Sign.jl _ _ _ _ _ _ _ _ _ _ (by
  intro p hp
  simp only [pyxref1_Sign.fl, List.mem_cons, List.not_mem_nil, or_false] at hp
  rcases hp with rfl
  · exact ⟨pyxref1_RightDec.sound k, enter_of Try.func104 (by kernel_rfl) (by kernel_rfl)⟩) sl0_ok (by
  intro p hp
  simp only [pyxref1_Sign.jl, List.mem_cons, List.not_mem_nil, or_false] at hp
  rcases hp with rfl
  · exact pyxref1_Sign.j1000.fit)
theorem pyxref1_Sign.eq (k : Nat) (x : Sapi_Dec) : runF (pyxref1_Sign.E k) (codeOf Try.f68) (pyxref1_Sign.mk x) pyxref1_Sign.re = (pyxref1_Sign.D k).f x := by kernel_rfl
theorem pyxref1_Sign.fit (s : St U) (x : Sapi_Dec) (h : pyxref1_Sign.un s = some x) : Fits s (pyxref1_Sign.mk x) := by
  unfold pyxref1_Sign.un at h
  split at h
  · cases h
    refine fits_ren [] ?_ ?_ ren_nil rfl
    · exact List.forall_mem_cons.2 ⟨FV.one (FV.same (by assumption) rfl), fun _ hp => (List.not_mem_nil hp).elim⟩
    · exact fun _ hp => (List.not_mem_nil hp).elim
  · cases h
theorem pyxref1_Sign.fitR (s : St U) (y : Int) (h : pyxref1_Sign.re s = some y) : Fits s (pyxref1_Sign.fin y) := by
  unfold pyxref1_Sign.re at h
  split at h
  · cases h
    refine fits_ren [] ?_ ?_ ren_nil rfl
    · exact List.forall_mem_cons.2 ⟨FV.one (FV.same (by assumption) rfl), fun _ hp => (List.not_mem_nil hp).elim⟩
    · exact fun _ hp => (List.not_mem_nil hp).elim
  · cases h
theorem pyxref1_Sign.sound (k : Nat) : Sound Try.prog DD 68 (pyxref1_Sign.D k) :=
  fun_sound (E := pyxref1_Sign.E k) (fn := Try.f68) (c := codeOf Try.f68) (pyxref1_Sign.ok k) mixed rfl Try.func68 (by kernel_rfl) (by kernel_rfl) (allL_of (l := []) (by kernel_rfl) allL_nil) (pyxref1_Sign.D k) pyxref1_Sign.mk pyxref1_Sign.re (by kernel_rfl) (by kernel_rfl) pyxref1_Sign.fit pyxref1_Sign.fitR (pyxref1_Sign.eq k)
/-! ### pyx/pyxref1.Cmp: function 105 -/
noncomputable def pyxref1_Cmp.f (k : Nat) (a0 : Sapi_Dec) (a1 : Sapi_Dec) : Option Int := (((pyxref1_RightDec.f k (⟨a0.f_Neg, (a0.f_C.1, a0.f_C.2), a0.f_Scale⟩ : Sapi_Dec)).bind fun t1 => (cond (!t1) (some (true, a0.f_Neg, a0.f_C.1, a0.f_C.2, a0.f_Scale, a1.f_Neg, a1.f_C.1, a1.f_C.2, a1.f_Scale)) ((pyxref1_RightDec.f k (⟨a1.f_Neg, (a1.f_C.1, a1.f_C.2), a1.f_Scale⟩ : Sapi_Dec)).bind fun t11 => (some (!t11, a0.f_Neg, a0.f_C.1, a0.f_C.2, a0.f_Scale, a1.f_Neg, a1.f_C.1, a1.f_C.2, a1.f_Scale))))) : Option (Bool × Bool × Int × Int × Int × Bool × Int × Int × Int)).bind fun y12 => (cond (y12.1) (some 0) ((pyxref1_Sign.f k (⟨y12.2.1, (y12.2.2.1, y12.2.2.2.1), y12.2.2.2.2.1⟩ : Sapi_Dec)).bind fun t13 => ((pyxref1_Sign.f k (⟨y12.2.2.2.2.2.1, (y12.2.2.2.2.2.2.1, y12.2.2.2.2.2.2.2.1), y12.2.2.2.2.2.2.2.2⟩ : Sapi_Dec)).bind fun t14 => (cond (t13 != t14) (cond (decide (t13 < t14)) (some (-1)) (some 1)) ((pyxref1_digits.f k (⟨y12.2.1, (y12.2.2.1, y12.2.2.2.1), y12.2.2.2.2.1⟩ : Sapi_Dec) (if y12.2.2.2.2.2.2.2.2 > y12.2.2.2.2.1 then y12.2.2.2.2.2.2.2.2 else y12.2.2.2.2.1)).bind fun t15 => ((pyxref1_digits.f k (⟨y12.2.2.2.2.2.1, (y12.2.2.2.2.2.2.1, y12.2.2.2.2.2.2.2.1), y12.2.2.2.2.2.2.2.2⟩ : Sapi_Dec) (if y12.2.2.2.2.2.2.2.2 > y12.2.2.2.2.1 then y12.2.2.2.2.2.2.2.2 else y12.2.2.2.2.1)).bind fun t16 => ((pyxref1_CmpNat.f k t15 t16).bind fun t17 => (some (IntKind.wrap .i64 (t13 * t17))))))))))
noncomputable def pyxref1_Cmp.un (s : St U) : Option (Sapi_Dec × Sapi_Dec) := match s.get 0, s.get 1 with | .agg [.flat (.bool x1), .flat (.int .u64 x2), .flat (.int .u64 x3), .flat (.int .i64 x4)], .agg [.flat (.bool x5), .flat (.int .u64 x6), .flat (.int .u64 x7), .flat (.int .i64 x8)] => some ((⟨x1, (x2, x3), x4⟩ : Sapi_Dec), (⟨x5, (x6, x7), x8⟩ : Sapi_Dec)) | _, _ => none
noncomputable def pyxref1_Cmp.mk (x : (Sapi_Dec × Sapi_Dec)) : St U := ⟨[(0, .agg [.flat (.bool x.1.f_Neg), .flat (.int .u64 x.1.f_C.1), .flat (.int .u64 x.1.f_C.2), .flat (.int .i64 x.1.f_Scale)]), (1, .agg [.flat (.bool x.2.f_Neg), .flat (.int .u64 x.2.f_C.1), .flat (.int .u64 x.2.f_C.2), .flat (.int .i64 x.2.f_Scale)])], []⟩
noncomputable def pyxref1_Cmp.fin (y : Int) : St U := ⟨[(0, .flat (.int .i64 y))], []⟩
noncomputable def pyxref1_Cmp.D (k : Nat) : FDen U := { X := (Sapi_Dec × Sapi_Dec), Y := Int, nt := 40, gh := [], un := pyxref1_Cmp.un, f := fun x => pyxref1_Cmp.f k (x.1) (x.2), fin := pyxref1_Cmp.fin, cl := true, clo := fun _ _ => rfl }
noncomputable def pyxref1_Cmp.re (s : St U) : Option Int := match s.get 0 with | .flat (.int .i64 x1) => some x1 | _ => none
noncomputable def pyxref1_Cmp.j1000.fin (y : (Bool × Bool × Int × Int × Int × Bool × Int × Int × Int)) : Out U := match y with | (x10, x2, x3, x4, x5, x6, x7, x8, x9) => .norm ⟨[(2, .ptr 2 0), (3, .ptr 3 0), (15, .flat (.bool x10))], [(2, .lit [.flat (.bool x2), .flat (.int .u64 x3), .flat (.int .u64 x4), .flat (.int .i64 x5)]), (3, .lit [.flat (.bool x6), .flat (.int .u64 x7), .flat (.int .u64 x8), .flat (.int .i64 x9)])]⟩
noncomputable def pyxref1_Cmp.j1000.finK {ρ : Type} (y : (Bool × Bool × Int × Int × Int × Bool × Int × Int × Int)) (K : Out U → Option ρ) : Option ρ := match y with | (x10, x2, x3, x4, x5, x6, x7, x8, x9) => K (.norm ⟨[(2, .ptr 2 0), (3, .ptr 3 0), (15, .flat (.bool x10))], [(2, .lit [.flat (.bool x2), .flat (.int .u64 x3), .flat (.int .u64 x4), .flat (.int .i64 x5)]), (3, .lit [.flat (.bool x6), .flat (.int .u64 x7), .flat (.int .u64 x8), .flat (.int .i64 x9)])]⟩)
theorem pyxref1_Cmp.j1000.finK_eq {ρ : Type} (y : (Bool × Bool × Int × Int × Int × Bool × Int × Int × Int)) (K : Out U → Option ρ) : pyxref1_Cmp.j1000.finK y K = K (pyxref1_Cmp.j1000.fin y) := by
  unfold pyxref1_Cmp.j1000.finK pyxref1_Cmp.j1000.fin
  first | rfl | (split <;> rfl)
noncomputable def pyxref1_Cmp.j1000.re : Out U → Option ((Bool × Bool × Int × Int × Int × Bool × Int × Int × Int)) | .norm s => (match s.get 2, s.get 3, s.get 15, lk s.o 2, lk s.o 3 with | .ptr 2 0, .ptr 3 0, .flat (.bool x10), some (.lit [.flat (.bool x2), .flat (.int .u64 x3), .flat (.int .u64 x4), .flat (.int .i64 x5)]), some (.lit [.flat (.bool x6), .flat (.int .u64 x7), .flat (.int .u64 x8), .flat (.int .i64 x9)]) => some (x10, x2, x3, x4, x5, x6, x7, x8, x9) | _, _, _, _, _ => none) | _ => none
noncomputable def pyxref1_Cmp.j1000.J : JDen U := { Y := (Bool × Bool × Int × Int × Int × Bool × Int × Int × Int), re := pyxref1_Cmp.j1000.re, fin := pyxref1_Cmp.j1000.fin, finK := pyxref1_Cmp.j1000.finK, finK_eq := pyxref1_Cmp.j1000.finK_eq }
theorem pyxref1_Cmp.j1000.fit (o : Out U) (y : (Bool × Bool × Int × Int × Int × Bool × Int × Int × Int)) (h : pyxref1_Cmp.j1000.re o = some y) : FitsO o (pyxref1_Cmp.j1000.fin y) := by
  unfold pyxref1_Cmp.j1000.re at h
  split at h
  · split at h
    · cases h
      refine fitsO_norm (fits_ren [] ?_ ?_ ren_nil rfl)
      · exact List.forall_mem_cons.2 ⟨FV.one (FV.ptr (by assumption)), List.forall_mem_cons.2 ⟨FV.one (FV.ptr (by assumption)), List.forall_mem_cons.2 ⟨FV.one (FV.same (by assumption) rfl), fun _ hp => (List.not_mem_nil hp).elim⟩⟩⟩
      · exact List.forall_mem_cons.2 ⟨(FO.same (show lk (St.o _) 2 = some _ from by assumption) rfl), List.forall_mem_cons.2 ⟨(FO.same (show lk (St.o _) 3 = some _ from by assumption) rfl), fun _ hp => (List.not_mem_nil hp).elim⟩⟩
    · cases h
  · cases h
noncomputable def pyxref1_Cmp.jl : List (Nat × JDen U) := [(1000, pyxref1_Cmp.j1000.J)]
noncomputable def pyxref1_Cmp.fl (k : Nat) : List (Nat × FDen U) := [(104, pyxref1_RightDec.D k), (68, pyxref1_Sign.D k), (116, pyxref1_digits.D k), (118, pyxref1_CmpNat.D k)]
noncomputable def pyxref1_Cmp.ll (k : Nat) : List (Nat × LDen U) := []
noncomputable def pyxref1_Cmp.E (k : Nat) : Env U := { P := Try.prog, D := DD, fd := lk (pyxref1_Cmp.fl k), sf := lk sl0, ld := lk (pyxref1_Cmp.ll k), jd := lk pyxref1_Cmp.jl, mode := lk [], elc := lk ec, mpc := lk mc, rts := Try.f105.resultTypes.toList, dyn := fun t => false, vecs := fun d => false, results := Try.f105.results.toList, gh := [], own := false, io := fun g i => false }
theorem pyxref1_Cmp.ok (k : Nat) : EnvOk (pyxref1_Cmp.E k) := envOk lawful (pyxref1_Cmp.fl k) sl0 (pyxref1_Cmp.ll k) pyxref1_Cmp.jl _ _ _ _ _ _ _ _ _ _ (by
  intro p hp
  simp only [pyxref1_Cmp.fl, List.mem_cons, List.not_mem_nil, or_false] at hp
  rcases hp with rfl | rfl | rfl | rfl
  · exact ⟨pyxref1_RightDec.sound k, enter_of Try.func104 (by kernel_rfl) (by kernel_rfl)⟩
  · exact ⟨pyxref1_Sign.sound k, enter_of Try.func68 (by kernel_rfl) (by kernel_rfl)⟩
  · exact ⟨pyxref1_digits.sound k, enter_of Try.func116 (by kernel_rfl) (by kernel_rfl)⟩
  · exact ⟨pyxref1_CmpNat.sound k, enter_of Try.func118 (by kernel_rfl) (by kernel_rfl)⟩) sl0_ok (by
  intro p hp
  simp only [pyxref1_Cmp.jl, List.mem_cons, List.not_mem_nil, or_false] at hp
  rcases hp with rfl
  · exact pyxref1_Cmp.j1000.fit)
theorem pyxref1_Cmp.eq (k : Nat) (x : (Sapi_Dec × Sapi_Dec)) : runF (pyxref1_Cmp.E k) (codeOf Try.f105) (pyxref1_Cmp.mk x) pyxref1_Cmp.re = (pyxref1_Cmp.D k).f x := by kernel_rfl
theorem pyxref1_Cmp.fit (s : St U) (x : (Sapi_Dec × Sapi_Dec)) (h : pyxref1_Cmp.un s = some x) : Fits s (pyxref1_Cmp.mk x) := by
  unfold pyxref1_Cmp.un at h
  split at h
  · cases h
    refine fits_ren [] ?_ ?_ ren_nil rfl
    · exact List.forall_mem_cons.2 ⟨FV.one (FV.same (by assumption) rfl), List.forall_mem_cons.2 ⟨FV.one (FV.same (by assumption) rfl), fun _ hp => (List.not_mem_nil hp).elim⟩⟩
    · exact fun _ hp => (List.not_mem_nil hp).elim
  · cases h
theorem pyxref1_Cmp.fitR (s : St U) (y : Int) (h : pyxref1_Cmp.re s = some y) : Fits s (pyxref1_Cmp.fin y) := by
  unfold pyxref1_Cmp.re at h
  split at h
  · cases h
    refine fits_ren [] ?_ ?_ ren_nil rfl
    · exact List.forall_mem_cons.2 ⟨FV.one (FV.same (by assumption) rfl), fun _ hp => (List.not_mem_nil hp).elim⟩
    · exact fun _ hp => (List.not_mem_nil hp).elim
  · cases h
theorem pyxref1_Cmp.sound (k : Nat) : Sound Try.prog DD 105 (pyxref1_Cmp.D k) :=
  fun_sound (E := pyxref1_Cmp.E k) (fn := Try.f105) (c := codeOf Try.f105) (pyxref1_Cmp.ok k) mixed rfl Try.func105 (by kernel_rfl) (by kernel_rfl) (allL_of (l := []) (by kernel_rfl) allL_nil) (pyxref1_Cmp.D k) pyxref1_Cmp.mk pyxref1_Cmp.re (by kernel_rfl) (by kernel_rfl) pyxref1_Cmp.fit pyxref1_Cmp.fitR (pyxref1_Cmp.eq k)
/-! ### (*pyx/pyxref11.Rates).Set: function 55 -/
noncomputable def pyxref11_Rates_Set.f (k : Nat) (a0 : Spyxref11_Rates) (a1 : Int) (a2 : Int) (a3 : Sapi_Dec) : Option (Int × Spyxref11_Rates) := (((pyxref11_is.f k a1).bind fun t1 => (cond (!t1) (some (a1, a2, true, (⟨pack 36 false a0.f_Has, pack 36 Sapi_Dec.zero a0.f_D⟩ : Spyxref11_Rates), a3.f_Neg, a3.f_C.1, a3.f_C.2, a3.f_Scale)) (cond (decide (a2 < 0)) (some (a1, a2, true, (⟨pack 36 false a0.f_Has, pack 36 Sapi_Dec.zero a0.f_D⟩ : Spyxref11_Rates), a3.f_Neg, a3.f_C.1, a3.f_C.2, a3.f_Scale)) (cond (decide (a2 > 2)) (some (a1, a2, true, (⟨pack 36 false a0.f_Has, pack 36 Sapi_Dec.zero a0.f_D⟩ : Spyxref11_Rates), a3.f_Neg, a3.f_C.1, a3.f_C.2, a3.f_Scale)) ((pyxref1_RightDec.f k (⟨a3.f_Neg, (a3.f_C.1, a3.f_C.2), a3.f_Scale⟩ : Sapi_Dec)).bind fun t10 => (cond (!t10) (some (a1, a2, true, (⟨pack 36 false a0.f_Has, pack 36 Sapi_Dec.zero a0.f_D⟩ : Spyxref11_Rates), a3.f_Neg, a3.f_C.1, a3.f_C.2, a3.f_Scale)) ((pyxref1_Sign.f k (⟨a3.f_Neg, (a3.f_C.1, a3.f_C.2), a3.f_Scale⟩ : Sapi_Dec)).bind fun t11 => (cond (decide (t11 ≤ 0)) (some (a1, a2, true, (⟨pack 36 false a0.f_Has, pack 36 Sapi_Dec.zero a0.f_D⟩ : Spyxref11_Rates), a3.f_Neg, a3.f_C.1, a3.f_C.2, a3.f_Scale)) (cond (decide (a3.f_Scale > 6)) (some (a1, a2, true, (⟨pack 36 false a0.f_Has, pack 36 Sapi_Dec.zero a0.f_D⟩ : Spyxref11_Rates), a3.f_Neg, a3.f_C.1, a3.f_C.2, a3.f_Scale)) ((pyxref1_Of.f k 1000000 0).bind fun t12 => ((pyxref1_Cmp.f k (⟨a3.f_Neg, (a3.f_C.1, a3.f_C.2), a3.f_Scale⟩ : Sapi_Dec) (⟨t12.f_Neg, (t12.f_C.1, t12.f_C.2), t12.f_Scale⟩ : Sapi_Dec)).bind fun t13 => (some (a1, a2, decide (t13 ≥ 0), (⟨pack 36 false a0.f_Has, pack 36 Sapi_Dec.zero a0.f_D⟩ : Spyxref11_Rates), a3.f_Neg, a3.f_C.1, a3.f_C.2, a3.f_Scale))))))))))))) : Option (Int × Int × Bool × Spyxref11_Rates × Bool × Int × Int × Int)).bind fun y14 => (cond (y14.2.2.1) (some (1, (⟨pack 36 false y14.2.2.2.1.f_Has, pack 36 Sapi_Dec.zero y14.2.2.2.1.f_D⟩ : Spyxref11_Rates))) (cond (inb y14.1 12) (cond (inb y14.2.1 3) (cond (Nat.blt ((Int.toNat y14.1) * 3 + Int.toNat y14.2.1) 36) (cond (inb y14.1 12) (cond (inb y14.2.1 3) (cond (Nat.blt ((Int.toNat y14.1) * 3 + Int.toNat y14.2.1) 36) (some (0, (⟨putAll ((Int.toNat y14.1) * 3 + Int.toNat y14.2.1) true 0 (pack 36 false y14.2.2.2.1.f_Has), puts_Sapi_Dec ((Int.toNat y14.1) * 3 + Int.toNat y14.2.1) (⟨y14.2.2.2.2.1, (y14.2.2.2.2.2.1, y14.2.2.2.2.2.2.1), y14.2.2.2.2.2.2.2⟩ : Sapi_Dec) 0 (pack 36 Sapi_Dec.zero y14.2.2.2.1.f_D)⟩ : Spyxref11_Rates))) none) none) none) none) none) none))
noncomputable def pyxref11_Rates_Set.un (s : St U) : Option (Spyxref11_Rates × Int × Int × Sapi_Dec) := match s.get 0, lk s.o 7000000000000, s.get 1, s.get 2, s.get 3, s.get 1000000000000000 with | .ptr 7000000000000 0, some (.lit x1), .flat (.int .i64 x3), .flat (.int .i64 x4), .agg [.flat (.bool x5), .flat (.int .u64 x6), .flat (.int .u64 x7), .flat (.int .i64 x8)], .ptr 7000000000000 0 => (cd_Spyxref11_Rates.full x1).bind fun x2 => (some (x2, x3, x4, (⟨x5, (x6, x7), x8⟩ : Sapi_Dec))) | _, _, _, _, _, _ => none
noncomputable def pyxref11_Rates_Set.mk (x : (Spyxref11_Rates × Int × Int × Sapi_Dec)) : St U := ⟨[(0, .ptr 7000000000000 0), (1, .flat (.int .i64 x.2.1)), (2, .flat (.int .i64 x.2.2.1)), (3, .agg [.flat (.bool x.2.2.2.f_Neg), .flat (.int .u64 x.2.2.2.f_C.1), .flat (.int .u64 x.2.2.2.f_C.2), .flat (.int .i64 x.2.2.2.f_Scale)]), (1000000000000000, .ptr 7000000000000 0)], [(7000000000000, .lit (cd_Spyxref11_Rates.enc x.1))]⟩
noncomputable def pyxref11_Rates_Set.fin (y : (Int × Spyxref11_Rates)) : St U := ⟨[(0, .flat (.int .i64 y.1)), (1000000000000000, .ptr 7000000000000 0)], [(7000000000000, .lit (cd_Spyxref11_Rates.enc y.2))]⟩
noncomputable def pyxref11_Rates_Set.D (k : Nat) : FDen U := { X := (Spyxref11_Rates × Int × Int × Sapi_Dec), Y := (Int × Spyxref11_Rates), nt := 56, gh := [0], un := pyxref11_Rates_Set.un, f := fun x => pyxref11_Rates_Set.f k (x.1) (x.2.1) (x.2.2.1) (x.2.2.2), fin := pyxref11_Rates_Set.fin, cl := false, clo := fun h => by cases h }
noncomputable def pyxref11_Rates_Set.re (s : St U) : Option (Int × Spyxref11_Rates) := match s.get 0, s.get 1000000000000000, lk s.o 7000000000000 with | .flat (.int .i64 x1), .ptr 7000000000000 0, some (.lit x2) => (cd_Spyxref11_Rates.full x2).bind fun x3 => (some (x1, x3)) | _, _, _ => none
noncomputable def pyxref11_Rates_Set.j1000.fin (y : (Int × Int × Bool × Spyxref11_Rates × Bool × Int × Int × Int)) : Out U := match y with | (x3, x4, x9, x2, x5, x6, x7, x8) => .norm ⟨[(0, .ptr 7000000000000 0), (7, .ptr 7 0), (1000000000000000, .ptr 7000000000000 0), (1, .flat (.int .i64 x3)), (2, .flat (.int .i64 x4)), (40, .flat (.bool x9))], [(7000000000000, .lit (cd_Spyxref11_Rates.enc x2)), (7, .lit [.flat (.bool x5), .flat (.int .u64 x6), .flat (.int .u64 x7), .flat (.int .i64 x8)])]⟩
noncomputable def pyxref11_Rates_Set.j1000.finK {ρ : Type} (y : (Int × Int × Bool × Spyxref11_Rates × Bool × Int × Int × Int)) (K : Out U → Option ρ) : Option ρ := match y with | (x3, x4, x9, x2, x5, x6, x7, x8) => K (.norm ⟨[(0, .ptr 7000000000000 0), (7, .ptr 7 0), (1000000000000000, .ptr 7000000000000 0), (1, .flat (.int .i64 x3)), (2, .flat (.int .i64 x4)), (40, .flat (.bool x9))], [(7000000000000, .lit (cd_Spyxref11_Rates.enc x2)), (7, .lit [.flat (.bool x5), .flat (.int .u64 x6), .flat (.int .u64 x7), .flat (.int .i64 x8)])]⟩)
theorem pyxref11_Rates_Set.j1000.finK_eq {ρ : Type} (y : (Int × Int × Bool × Spyxref11_Rates × Bool × Int × Int × Int)) (K : Out U → Option ρ) : pyxref11_Rates_Set.j1000.finK y K = K (pyxref11_Rates_Set.j1000.fin y) := by
  unfold pyxref11_Rates_Set.j1000.finK pyxref11_Rates_Set.j1000.fin
  first | rfl | (split <;> rfl)
noncomputable def pyxref11_Rates_Set.j1000.re : Out U → Option ((Int × Int × Bool × Spyxref11_Rates × Bool × Int × Int × Int)) | .norm s => ((Cd.ofLit cd_Spyxref11_Rates s.o 7000000000000).bind fun q0 => (match s.get 0, s.get 7, s.get 1000000000000000, s.get 1, s.get 2, s.get 40, lk s.o 7 with | .ptr 7000000000000 0, .ptr 7 0, .ptr 7000000000000 0, .flat (.int .i64 x3), .flat (.int .i64 x4), .flat (.bool x9), some (.lit [.flat (.bool x5), .flat (.int .u64 x6), .flat (.int .u64 x7), .flat (.int .i64 x8)]) => some (x3, x4, x9, q0, x5, x6, x7, x8) | _, _, _, _, _, _, _ => none)) | _ => none
noncomputable def pyxref11_Rates_Set.j1000.J : JDen U := { Y := (Int × Int × Bool × Spyxref11_Rates × Bool × Int × Int × Int), re := pyxref11_Rates_Set.j1000.re, fin := pyxref11_Rates_Set.j1000.fin, finK := pyxref11_Rates_Set.j1000.finK, finK_eq := pyxref11_Rates_Set.j1000.finK_eq }
theorem pyxref11_Rates_Set.j1000.fit (o : Out U) (y : (Int × Int × Bool × Spyxref11_Rates × Bool × Int × Int × Int)) (h : pyxref11_Rates_Set.j1000.re o = some y) : FitsO o (pyxref11_Rates_Set.j1000.fin y) := by
  unfold pyxref11_Rates_Set.j1000.re at h
  split at h
  · obtain ⟨q0, eq0, h1⟩ := Option.bind_eq_some_iff.1 h
    split at h1
    · cases h1
      refine fitsO_norm (fits_ren [] ?_ ?_ ren_nil rfl)
      · exact List.forall_mem_cons.2 ⟨FV.one (FV.ptr (by assumption)), List.forall_mem_cons.2 ⟨FV.one (FV.ptr (by assumption)), List.forall_mem_cons.2 ⟨FV.one (FV.ptr (by assumption)), List.forall_mem_cons.2 ⟨FV.one (FV.same (by assumption) rfl), List.forall_mem_cons.2 ⟨FV.one (FV.same (by assumption) rfl), List.forall_mem_cons.2 ⟨FV.one (FV.same (by assumption) rfl), fun _ hp => (List.not_mem_nil hp).elim⟩⟩⟩⟩⟩⟩
      · exact List.forall_mem_cons.2 ⟨(FO.same (Cd.ofLit_ok eq0) rfl), List.forall_mem_cons.2 ⟨(FO.same (show lk (St.o _) 7 = some _ from by assumption) rfl), fun _ hp => (List.not_mem_nil hp).elim⟩⟩
    · cases h1
  · cases h
noncomputable def pyxref11_Rates_Set.jl : List (Nat × JDen U) := [(1000, pyxref11_Rates_Set.j1000.J)]
noncomputable def pyxref11_Rates_Set.fl (k : Nat) : List (Nat × FDen U) := [(103, pyxref11_is.D k), (104, pyxref1_RightDec.D k), (68, pyxref1_Sign.D k), (17, pyxref1_Of.D k), (105, pyxref1_Cmp.D k)]
noncomputable def pyxref11_Rates_Set.ll (k : Nat) : List (Nat × LDen U) := []
noncomputable def pyxref11_Rates_Set.E (k : Nat) : Env U := { P := Try.prog, D := DD, fd := lk (pyxref11_Rates_Set.fl k), sf := lk sl0, ld := lk (pyxref11_Rates_Set.ll k), jd := lk pyxref11_Rates_Set.jl, mode := lk [], elc := lk ec, mpc := lk mc, rts := Try.f55.resultTypes.toList, dyn := fun t => Nat.beq t 115 || Nat.beq t 117, vecs := fun d => false, results := Try.f55.results.toList, gh := [0], own := false, io := fun g i => false }
theorem pyxref11_Rates_Set.ok (k : Nat) : EnvOk (pyxref11_Rates_Set.E k) := envOk lawful (pyxref11_Rates_Set.fl k) sl0 (pyxref11_Rates_Set.ll k) pyxref11_Rates_Set.jl _ _ _ _ _ _ _ _ _ _ (by
  intro p hp
  simp only [pyxref11_Rates_Set.fl, List.mem_cons, List.not_mem_nil, or_false] at hp
  rcases hp with rfl | rfl | rfl | rfl | rfl
  · exact ⟨pyxref11_is.sound k, enter_of Try.func103 (by kernel_rfl) (by kernel_rfl)⟩
  · exact ⟨pyxref1_RightDec.sound k, enter_of Try.func104 (by kernel_rfl) (by kernel_rfl)⟩
  · exact ⟨pyxref1_Sign.sound k, enter_of Try.func68 (by kernel_rfl) (by kernel_rfl)⟩
  · exact ⟨pyxref1_Of.sound k, enter_of Try.func17 (by kernel_rfl) (by kernel_rfl)⟩
  · exact ⟨pyxref1_Cmp.sound k, enter_of Try.func105 (by kernel_rfl) (by kernel_rfl)⟩) sl0_ok (by
  intro p hp
  simp only [pyxref11_Rates_Set.jl, List.mem_cons, List.not_mem_nil, or_false] at hp
  rcases hp with rfl
  · exact pyxref11_Rates_Set.j1000.fit)
theorem pyxref11_Rates_Set.eq (k : Nat) (x : (Spyxref11_Rates × Int × Int × Sapi_Dec)) : runF (pyxref11_Rates_Set.E k) (codeOf Try.f55) (pyxref11_Rates_Set.mk x) pyxref11_Rates_Set.re = (pyxref11_Rates_Set.D k).f x := by kernel_rfl
theorem pyxref11_Rates_Set.fit (s : St U) (x : (Spyxref11_Rates × Int × Int × Sapi_Dec)) (h : pyxref11_Rates_Set.un s = some x) : Fits s (pyxref11_Rates_Set.mk x) := by
  unfold pyxref11_Rates_Set.un at h
  split at h
  · obtain ⟨x2, hx2, hh1⟩ := Option.bind_eq_some_iff.1 h
    have hc1 := Cd.full_ok hx2
    clear hx2
    subst hc1
    cases hh1
    refine fits_ren [] ?_ ?_ ren_nil rfl
    · exact List.forall_mem_cons.2 ⟨FV.one (FV.ptr (by assumption)), List.forall_mem_cons.2 ⟨FV.one (FV.same (by assumption) rfl), List.forall_mem_cons.2 ⟨FV.one (FV.same (by assumption) rfl), List.forall_mem_cons.2 ⟨FV.one (FV.same (by assumption) rfl), List.forall_mem_cons.2 ⟨FV.one (FV.ptr (by assumption)), fun _ hp => (List.not_mem_nil hp).elim⟩⟩⟩⟩⟩
    · exact List.forall_mem_cons.2 ⟨FO.same (show lk (St.o _) 7000000000000 = some _ from by assumption) rfl, fun _ hp => (List.not_mem_nil hp).elim⟩
  · cases h
theorem pyxref11_Rates_Set.fitR (s : St U) (y : (Int × Spyxref11_Rates)) (h : pyxref11_Rates_Set.re s = some y) : Fits s (pyxref11_Rates_Set.fin y) := by
  unfold pyxref11_Rates_Set.re at h
  split at h
  · obtain ⟨x3, hx3, hh1⟩ := Option.bind_eq_some_iff.1 h
    have hc1 := Cd.full_ok hx3
    clear hx3
    subst hc1
    cases hh1
    refine fits_ren [] ?_ ?_ ren_nil rfl
    · exact List.forall_mem_cons.2 ⟨FV.one (FV.same (by assumption) rfl), List.forall_mem_cons.2 ⟨FV.one (FV.ptr (by assumption)), fun _ hp => (List.not_mem_nil hp).elim⟩⟩
    · exact List.forall_mem_cons.2 ⟨FO.same (show lk (St.o _) 7000000000000 = some _ from by assumption) rfl, fun _ hp => (List.not_mem_nil hp).elim⟩
  · cases h
theorem pyxref11_Rates_Set.sound (k : Nat) : Sound Try.prog DD 55 (pyxref11_Rates_Set.D k) :=
  fun_sound (E := pyxref11_Rates_Set.E k) (fn := Try.f55) (c := codeOf Try.f55) (pyxref11_Rates_Set.ok k) mixed rfl Try.func55 (by kernel_rfl) (by kernel_rfl) (allL_of (l := []) (by kernel_rfl) allL_nil) (pyxref11_Rates_Set.D k) pyxref11_Rates_Set.mk pyxref11_Rates_Set.re (by kernel_rfl) (by kernel_rfl) pyxref11_Rates_Set.fit pyxref11_Rates_Set.fitR (pyxref11_Rates_Set.eq k)
/-! ### (*pyx/pyxref11.Rates).Get: function 57 -/
noncomputable def pyxref11_Rates_Get.f (k : Nat) (a0 : Spyxref11_Rates) (a1 : Int) (a2 : Int) : Option (Sapi_Dec × Int × Spyxref11_Rates) := (((pyxref11_is.f k a1).bind fun t1 => (cond (!t1) (some (a1, a2, true, (⟨pack 36 false a0.f_Has, pack 36 Sapi_Dec.zero a0.f_D⟩ : Spyxref11_Rates), false, 0, 0, 0)) (cond (decide (a2 < 0)) (some (a1, a2, true, (⟨pack 36 false a0.f_Has, pack 36 Sapi_Dec.zero a0.f_D⟩ : Spyxref11_Rates), false, 0, 0, 0)) (cond (decide (a2 > 2)) (some (a1, a2, true, (⟨pack 36 false a0.f_Has, pack 36 Sapi_Dec.zero a0.f_D⟩ : Spyxref11_Rates), false, 0, 0, 0)) (cond (inb a1 12) (cond (inb a2 3) (cond (Nat.blt ((Int.toNat a1) * 3 + Int.toNat a2) 36) (some (a1, a2, !(List.getD (pack 36 false a0.f_Has) ((Int.toNat a1) * 3 + Int.toNat a2) false), (⟨pack 36 false a0.f_Has, pack 36 Sapi_Dec.zero a0.f_D⟩ : Spyxref11_Rates), false, 0, 0, 0)) none) none) none))))) : Option (Int × Int × Bool × Spyxref11_Rates × Bool × Int × Int × Int)).bind fun y10 => (cond (y10.2.2.1) (some ((⟨false, (0, 0), 0⟩ : Sapi_Dec), 11, (⟨pack 36 false y10.2.2.2.1.f_Has, pack 36 Sapi_Dec.zero y10.2.2.2.1.f_D⟩ : Spyxref11_Rates))) (cond (inb y10.1 12) (cond (inb y10.2.1 3) (cond (Nat.blt ((Int.toNat y10.1) * 3 + Int.toNat y10.2.1) 36) (some ((⟨List.getD (List.map (fun y => y.f_Neg) (pack 36 Sapi_Dec.zero y10.2.2.2.1.f_D)) ((Int.toNat y10.1) * 3 + Int.toNat y10.2.1) false, (List.getD (List.map (fun y => y.f_C.1) (pack 36 Sapi_Dec.zero y10.2.2.2.1.f_D)) ((Int.toNat y10.1) * 3 + Int.toNat y10.2.1) 0, List.getD (List.map (fun y => y.f_C.2) (pack 36 Sapi_Dec.zero y10.2.2.2.1.f_D)) ((Int.toNat y10.1) * 3 + Int.toNat y10.2.1) 0), List.getD (List.map (fun y => y.f_Scale) (pack 36 Sapi_Dec.zero y10.2.2.2.1.f_D)) ((Int.toNat y10.1) * 3 + Int.toNat y10.2.1) 0⟩ : Sapi_Dec), 0, (⟨pack 36 false y10.2.2.2.1.f_Has, pack 36 Sapi_Dec.zero y10.2.2.2.1.f_D⟩ : Spyxref11_Rates))) none) none) none))
noncomputable def pyxref11_Rates_Get.un (s : St U) : Option (Spyxref11_Rates × Int × Int) := match s.get 0, lk s.o 7000000000000, s.get 1, s.get 2, s.get 1000000000000000 with | .ptr 7000000000000 0, some (.lit x1), .flat (.int .i64 x3), .flat (.int .i64 x4), .ptr 7000000000000 0 => (cd_Spyxref11_Rates.full x1).bind fun x2 => (some (x2, x3, x4)) | _, _, _, _, _ => none
noncomputable def pyxref11_Rates_Get.mk (x : (Spyxref11_Rates × Int × Int)) : St U := ⟨[(0, .ptr 7000000000000 0), (1, .flat (.int .i64 x.2.1)), (2, .flat (.int .i64 x.2.2)), (1000000000000000, .ptr 7000000000000 0)], [(7000000000000, .lit (cd_Spyxref11_Rates.enc x.1))]⟩
noncomputable def pyxref11_Rates_Get.fin (y : (Sapi_Dec × Int × Spyxref11_Rates)) : St U := ⟨[(0, .tup [.agg [.flat (.bool y.1.f_Neg), .flat (.int .u64 y.1.f_C.1), .flat (.int .u64 y.1.f_C.2), .flat (.int .i64 y.1.f_Scale)], .flat (.int .i64 y.2.1)]), (1000000000000000, .ptr 7000000000000 0)], [(7000000000000, .lit (cd_Spyxref11_Rates.enc y.2.2))]⟩
noncomputable def pyxref11_Rates_Get.D (k : Nat) : FDen U := { X := (Spyxref11_Rates × Int × Int), Y := (Sapi_Dec × Int × Spyxref11_Rates), nt := 39, gh := [0], un := pyxref11_Rates_Get.un, f := fun x => pyxref11_Rates_Get.f k (x.1) (x.2.1) (x.2.2), fin := pyxref11_Rates_Get.fin, cl := false, clo := fun h => by cases h }
noncomputable def pyxref11_Rates_Get.re (s : St U) : Option (Sapi_Dec × Int × Spyxref11_Rates) := match s.get 0, s.get 1000000000000000, lk s.o 7000000000000 with | .tup [.agg [.flat (.bool x1), .flat (.int .u64 x2), .flat (.int .u64 x3), .flat (.int .i64 x4)], .flat (.int .i64 x5)], .ptr 7000000000000 0, some (.lit x6) => (cd_Spyxref11_Rates.full x6).bind fun x7 => (some ((⟨x1, (x2, x3), x4⟩ : Sapi_Dec), x5, x7)) | _, _, _ => none
noncomputable def pyxref11_Rates_Get.j1000.fin (y : (Int × Int × Bool × Spyxref11_Rates × Bool × Int × Int × Int)) : Out U := match y with | (x3, x4, x9, x2, x5, x6, x7, x8) => .norm ⟨[(0, .ptr 7000000000000 0), (6, .ptr 6 0), (1000000000000000, .ptr 7000000000000 0), (1, .flat (.int .i64 x3)), (2, .flat (.int .i64 x4)), (29, .flat (.bool x9))], [(7000000000000, .lit (cd_Spyxref11_Rates.enc x2)), (6, .lit [.flat (.bool x5), .flat (.int .u64 x6), .flat (.int .u64 x7), .flat (.int .i64 x8)])]⟩
noncomputable def pyxref11_Rates_Get.j1000.finK {ρ : Type} (y : (Int × Int × Bool × Spyxref11_Rates × Bool × Int × Int × Int)) (K : Out U → Option ρ) : Option ρ := match y with | (x3, x4, x9, x2, x5, x6, x7, x8) => K (.norm ⟨[(0, .ptr 7000000000000 0), (6, .ptr 6 0), (1000000000000000, .ptr 7000000000000 0), (1, .flat (.int .i64 x3)), (2, .flat (.int .i64 x4)), (29, .flat (.bool x9))], [(7000000000000, .lit (cd_Spyxref11_Rates.enc x2)), (6, .lit [.flat (.bool x5), .flat (.int .u64 x6), .flat (.int .u64 x7), .flat (.int .i64 x8)])]⟩)
theorem pyxref11_Rates_Get.j1000.finK_eq {ρ : Type} (y : (Int × Int × Bool × Spyxref11_Rates × Bool × Int × Int × Int)) (K : Out U → Option ρ) : pyxref11_Rates_Get.j1000.finK y K = K (pyxref11_Rates_Get.j1000.fin y) := by
  unfold pyxref11_Rates_Get.j1000.finK pyxref11_Rates_Get.j1000.fin
  first | rfl | (split <;> rfl)
noncomputable def pyxref11_Rates_Get.j1000.re : Out U → Option ((Int × Int × Bool × Spyxref11_Rates × Bool × Int × Int × Int)) | .norm s => ((Cd.ofLit cd_Spyxref11_Rates s.o 7000000000000).bind fun q0 => (match s.get 0, s.get 6, s.get 1000000000000000, s.get 1, s.get 2, s.get 29, lk s.o 6 with | .ptr 7000000000000 0, .ptr 6 0, .ptr 7000000000000 0, .flat (.int .i64 x3), .flat (.int .i64 x4), .flat (.bool x9), some (.lit [.flat (.bool x5), .flat (.int .u64 x6), .flat (.int .u64 x7), .flat (.int .i64 x8)]) => some (x3, x4, x9, q0, x5, x6, x7, x8) | _, _, _, _, _, _, _ => none)) | _ => none
noncomputable def pyxref11_Rates_Get.j1000.J : JDen U := { Y := (Int × Int × Bool × Spyxref11_Rates × Bool × Int × Int × Int), re := pyxref11_Rates_Get.j1000.re, fin := pyxref11_Rates_Get.j1000.fin, finK := pyxref11_Rates_Get.j1000.finK, finK_eq := pyxref11_Rates_Get.j1000.finK_eq }
theorem pyxref11_Rates_Get.j1000.fit (o : Out U) (y : (Int × Int × Bool × Spyxref11_Rates × Bool × Int × Int × Int)) (h : pyxref11_Rates_Get.j1000.re o = some y) : FitsO o (pyxref11_Rates_Get.j1000.fin y) := by
  unfold pyxref11_Rates_Get.j1000.re at h
  split at h
  · obtain ⟨q0, eq0, h1⟩ := Option.bind_eq_some_iff.1 h
    split at h1
    · cases h1
      refine fitsO_norm (fits_ren [] ?_ ?_ ren_nil rfl)
      · exact List.forall_mem_cons.2 ⟨FV.one (FV.ptr (by assumption)), List.forall_mem_cons.2 ⟨FV.one (FV.ptr (by assumption)), List.forall_mem_cons.2 ⟨FV.one (FV.ptr (by assumption)), List.forall_mem_cons.2 ⟨FV.one (FV.same (by assumption) rfl), List.forall_mem_cons.2 ⟨FV.one (FV.same (by assumption) rfl), List.forall_mem_cons.2 ⟨FV.one (FV.same (by assumption) rfl), fun _ hp => (List.not_mem_nil hp).elim⟩⟩⟩⟩⟩⟩
      · exact List.forall_mem_cons.2 ⟨(FO.same (Cd.ofLit_ok eq0) rfl), List.forall_mem_cons.2 ⟨(FO.same (show lk (St.o _) 6 = some _ from by assumption) rfl), fun _ hp => (List.not_mem_nil hp).elim⟩⟩
    · cases h1
  · cases h
noncomputable def pyxref11_Rates_Get.jl : List (Nat × JDen U) := [(1000, pyxref11_Rates_Get.j1000.J)]
noncomputable def pyxref11_Rates_Get.fl (k : Nat) : List (Nat × FDen U) := [(103, pyxref11_is.D k)]
noncomputable def pyxref11_Rates_Get.ll (k : Nat) : List (Nat × LDen U) := []
noncomputable def pyxref11_Rates_Get.E (k : Nat) : Env U := { P := Try.prog, D := DD, fd := lk (pyxref11_Rates_Get.fl k), sf := lk sl0, ld := lk (pyxref11_Rates_Get.ll k), jd := lk pyxref11_Rates_Get.jl, mode := lk [], elc := lk ec, mpc := lk mc, rts := Try.f57.resultTypes.toList, dyn := fun t => Nat.beq t 115 || Nat.beq t 117, vecs := fun d => false, results := Try.f57.results.toList, gh := [0], own := false, io := fun g i => false }
theorem pyxref11_Rates_Get.ok (k : Nat) : EnvOk (pyxref11_Rates_Get.E k) := envOk lawful (pyxref11_Rates_Get.fl k) sl0 (pyxref11_Rates_Get.ll k) pyxref11_Rates_Get.jl _ _ _ _ _ _ _ _ _ _ (by
  intro p hp
  simp only [pyxref11_Rates_Get.fl, List.mem_cons, List.not_mem_nil, or_false] at hp
  rcases hp with rfl
  · exact ⟨pyxref11_is.sound k, enter_of Try.func103 (by kernel_rfl) (by kernel_rfl)⟩) sl0_ok (by
  intro p hp
  simp only [pyxref11_Rates_Get.jl, List.mem_cons, List.not_mem_nil, or_false] at hp
  rcases hp with rfl
  · exact pyxref11_Rates_Get.j1000.fit)
theorem pyxref11_Rates_Get.eq (k : Nat) (x : (Spyxref11_Rates × Int × Int)) : runF (pyxref11_Rates_Get.E k) (codeOf Try.f57) (pyxref11_Rates_Get.mk x) pyxref11_Rates_Get.re = (pyxref11_Rates_Get.D k).f x := by kernel_rfl
theorem pyxref11_Rates_Get.fit (s : St U) (x : (Spyxref11_Rates × Int × Int)) (h : pyxref11_Rates_Get.un s = some x) : Fits s (pyxref11_Rates_Get.mk x) := by
  unfold pyxref11_Rates_Get.un at h
  split at h
  · obtain ⟨x2, hx2, hh1⟩ := Option.bind_eq_some_iff.1 h
    have hc1 := Cd.full_ok hx2
    clear hx2
    subst hc1
    cases hh1
    refine fits_ren [] ?_ ?_ ren_nil rfl
    · exact List.forall_mem_cons.2 ⟨FV.one (FV.ptr (by assumption)), List.forall_mem_cons.2 ⟨FV.one (FV.same (by assumption) rfl), List.forall_mem_cons.2 ⟨FV.one (FV.same (by assumption) rfl), List.forall_mem_cons.2 ⟨FV.one (FV.ptr (by assumption)), fun _ hp => (List.not_mem_nil hp).elim⟩⟩⟩⟩
    · exact List.forall_mem_cons.2 ⟨FO.same (show lk (St.o _) 7000000000000 = some _ from by assumption) rfl, fun _ hp => (List.not_mem_nil hp).elim⟩
  · cases h
theorem pyxref11_Rates_Get.fitR (s : St U) (y : (Sapi_Dec × Int × Spyxref11_Rates)) (h : pyxref11_Rates_Get.re s = some y) : Fits s (pyxref11_Rates_Get.fin y) := by
  unfold pyxref11_Rates_Get.re at h
  split at h
  · obtain ⟨x7, hx7, hh1⟩ := Option.bind_eq_some_iff.1 h
    have hc1 := Cd.full_ok hx7
    clear hx7
    subst hc1
    cases hh1
    refine fits_ren [] ?_ ?_ ren_nil rfl
    · exact List.forall_mem_cons.2 ⟨FV.tup (by assumption) (FTs.cons (FVA.one (FV.same rfl rfl)) (FTs.cons (FVA.one (FV.same rfl rfl)) (FTs.nil))), List.forall_mem_cons.2 ⟨FV.one (FV.ptr (by assumption)), fun _ hp => (List.not_mem_nil hp).elim⟩⟩
    · exact List.forall_mem_cons.2 ⟨FO.same (show lk (St.o _) 7000000000000 = some _ from by assumption) rfl, fun _ hp => (List.not_mem_nil hp).elim⟩
  · cases h
theorem pyxref11_Rates_Get.sound (k : Nat) : Sound Try.prog DD 57 (pyxref11_Rates_Get.D k) :=
  fun_sound (E := pyxref11_Rates_Get.E k) (fn := Try.f57) (c := codeOf Try.f57) (pyxref11_Rates_Get.ok k) mixed rfl Try.func57 (by kernel_rfl) (by kernel_rfl) (allL_of (l := []) (by kernel_rfl) allL_nil) (pyxref11_Rates_Get.D k) pyxref11_Rates_Get.mk pyxref11_Rates_Get.re (by kernel_rfl) (by kernel_rfl) pyxref11_Rates_Get.fit pyxref11_Rates_Get.fitR (pyxref11_Rates_Get.eq k)
/-! ### slices.Clip[[]pyx/rate.Key,pyx/rate.Key]: function 97 -/
noncomputable def slices_Clip_rate_Key.f (k : Nat) (a0 : List Srate_Key) : Option (List Srate_Key) := cond (decide ((List.length a0 : Int) = (List.length a0 : Int)) && inS 0 (List.length a0 : Int) (List.length a0)) (some (List.take (Int.toNat (List.length a0 : Int)) a0)) none
noncomputable def slices_Clip_rate_Key.un (s : St U) : Option (List Srate_Key) := match s.get 0 with | .row C.Srate_Key x1 => some x1 | _ => none
noncomputable def slices_Clip_rate_Key.mk (x : List Srate_Key) : St U := ⟨[(0, .row C.Srate_Key x)], []⟩
noncomputable def slices_Clip_rate_Key.fin (y : List Srate_Key) : St U := ⟨[(0, .row C.Srate_Key y)], []⟩
noncomputable def slices_Clip_rate_Key.D (k : Nat) : FDen U := { X := List Srate_Key, Y := List Srate_Key, nt := 9, gh := [], un := slices_Clip_rate_Key.un, f := fun x => slices_Clip_rate_Key.f k (x), fin := slices_Clip_rate_Key.fin, cl := true, clo := fun _ _ => rfl }
noncomputable def slices_Clip_rate_Key.re (s : St U) : Option (List Srate_Key) := match s.get 0 with | .row C.Srate_Key x1 => some x1 | _ => none
noncomputable def slices_Clip_rate_Key.jl : List (Nat × JDen U) := []
noncomputable def slices_Clip_rate_Key.fl (k : Nat) : List (Nat × FDen U) := []
noncomputable def slices_Clip_rate_Key.ll (k : Nat) : List (Nat × LDen U) := []
noncomputable def slices_Clip_rate_Key.E (k : Nat) : Env U := { P := Try.prog, D := DD, fd := lk (slices_Clip_rate_Key.fl k), sf := lk sl0, ld := lk (slices_Clip_rate_Key.ll k), jd := lk slices_Clip_rate_Key.jl, mode := lk [], elc := lk ec, mpc := lk mc, rts := Try.f97.resultTypes.toList, dyn := fun t => false, vecs := fun d => false, results := Try.f97.results.toList, gh := [], own := false, io := fun g i => false }
theorem slices_Clip_rate_Key.ok (k : Nat) : EnvOk (slices_Clip_rate_Key.E k) := envOk lawful (slices_Clip_rate_Key.fl k) sl0 (slices_Clip_rate_Key.ll k) slices_Clip_rate_Key.jl _ _ _ _ _ _ _ _ _ _ (by
  intro p hp
  simp [slices_Clip_rate_Key.fl] at hp) sl0_ok (by
  intro p hp
  simp [slices_Clip_rate_Key.jl] at hp)
theorem slices_Clip_rate_Key.eq (k : Nat) (x : List Srate_Key) : runF (slices_Clip_rate_Key.E k) (codeOf Try.f97) (slices_Clip_rate_Key.mk x) slices_Clip_rate_Key.re = (slices_Clip_rate_Key.D k).f x := by kernel_rfl
theorem slices_Clip_rate_Key.fit (s : St U) (x : List Srate_Key) (h : slices_Clip_rate_Key.un s = some x) : Fits s (slices_Clip_rate_Key.mk x) := by
  unfold slices_Clip_rate_Key.un at h
  split at h
  · cases h
    refine fits_ren [] ?_ ?_ ren_nil rfl
    · exact List.forall_mem_cons.2 ⟨FV.one (FV.same (by assumption) rfl), fun _ hp => (List.not_mem_nil hp).elim⟩
    · exact fun _ hp => (List.not_mem_nil hp).elim
  · cases h
theorem slices_Clip_rate_Key.fitR (s : St U) (y : List Srate_Key) (h : slices_Clip_rate_Key.re s = some y) : Fits s (slices_Clip_rate_Key.fin y) := by
  unfold slices_Clip_rate_Key.re at h
  split at h
  · cases h
    refine fits_ren [] ?_ ?_ ren_nil rfl
    · exact List.forall_mem_cons.2 ⟨FV.one (FV.same (by assumption) rfl), fun _ hp => (List.not_mem_nil hp).elim⟩
    · exact fun _ hp => (List.not_mem_nil hp).elim
  · cases h
theorem slices_Clip_rate_Key.sound (k : Nat) : Sound Try.prog DD 97 (slices_Clip_rate_Key.D k) :=
  fun_sound (E := slices_Clip_rate_Key.E k) (fn := Try.f97) (c := codeOf Try.f97) (slices_Clip_rate_Key.ok k) mixed rfl Try.func97 (by kernel_rfl) (by kernel_rfl) (allL_of (l := []) (by kernel_rfl) allL_nil) (slices_Clip_rate_Key.D k) slices_Clip_rate_Key.mk slices_Clip_rate_Key.re (by kernel_rfl) (by kernel_rfl) slices_Clip_rate_Key.fit slices_Clip_rate_Key.fitR (slices_Clip_rate_Key.eq k)
end
end Go.Proofs.Ytlaogfkgkpgofaa
