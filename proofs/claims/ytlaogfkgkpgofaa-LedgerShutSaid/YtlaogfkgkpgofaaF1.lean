import Derived.Test.YtlaogfkgkpgofaaF0
/-! Functions, told; their equations with the evaluator; that they are sound. Written by gen.py. -/
namespace Go.Proofs.Ytlaogfkgkpgofaa
open Go Go.Ev
noncomputable section
set_option linter.unusedVariables false
set_option linter.unusedSimpArgs false
set_option maxRecDepth 100000
/-! ### pyx/pyxref1.Make: function 58 -/
noncomputable def pyxref1_Make.f (k : Nat) (a0 : Bool) (a1 : List Int) (a2 : Int) : Option (Sapi_Dec × Int) := ((cond (decide ((List.length a1 : Int) > 30)) (some (a0, a1, a2, true, false, 0, 0, 0)) (cond (decide (a2 < 0)) (some (a0, a1, a2, true, false, 0, 0, 0)) (some (a0, a1, a2, decide (a2 > 9), false, 0, 0, 0)))) : Option (Bool × List Int × Int × Bool × Bool × Int × Int × Int)).bind fun y9 => (cond (y9.2.2.2.1) (some ((⟨false, (0, 0), 0⟩ : Sapi_Dec), 3)) ((pyxref1_Words2.f k y9.2.1).bind fun t10 => (cond (y9.1) (some ((⟨decide ((List.length y9.2.1 : Int) > 0), (t10.1.1, t10.1.2), y9.2.2.1⟩ : Sapi_Dec), 0)) (some ((⟨false, (t10.1.1, t10.1.2), y9.2.2.1⟩ : Sapi_Dec), 0)))))
noncomputable def pyxref1_Make.un (s : St U) : Option (Bool × List Int × Int) := match s.get 0, s.get 1, s.get 2 with | .flat (.bool x1), .row C.i64 x2, .flat (.int .i64 x3) => some (x1, x2, x3) | _, _, _ => none
noncomputable def pyxref1_Make.mk (x : (Bool × List Int × Int)) : St U := ⟨[(0, .flat (.bool x.1)), (1, .row C.i64 x.2.1), (2, .flat (.int .i64 x.2.2))], []⟩
noncomputable def pyxref1_Make.fin (y : (Sapi_Dec × Int)) : St U := ⟨[(0, .tup [.agg [.flat (.bool y.1.f_Neg), .flat (.int .u64 y.1.f_C.1), .flat (.int .u64 y.1.f_C.2), .flat (.int .i64 y.1.f_Scale)], .flat (.int .i64 y.2)])], []⟩
noncomputable def pyxref1_Make.D (k : Nat) : FDen U := { X := (Bool × List Int × Int), Y := (Sapi_Dec × Int), nt := 36, gh := [], un := pyxref1_Make.un, f := fun x => pyxref1_Make.f k (x.1) (x.2.1) (x.2.2), fin := pyxref1_Make.fin, cl := true, clo := fun _ _ => rfl }
noncomputable def pyxref1_Make.re (s : St U) : Option (Sapi_Dec × Int) := match s.get 0 with | .tup [.agg [.flat (.bool x1), .flat (.int .u64 x2), .flat (.int .u64 x3), .flat (.int .i64 x4)], .flat (.int .i64 x5)] => some ((⟨x1, (x2, x3), x4⟩ : Sapi_Dec), x5) | _ => none
noncomputable def pyxref1_Make.j1000.fin (y : (Bool × List Int × Int × Bool × Bool × Int × Int × Int)) : Out U := match y with | (x1, x2, x3, x8, x4, x5, x6, x7) => .norm ⟨[(6, .ptr 6 0), (0, .flat (.bool x1)), (1, .row C.i64 x2), (2, .flat (.int .i64 x3)), (20, .flat (.bool x8))], [(6, .lit [.flat (.bool x4), .flat (.int .u64 x5), .flat (.int .u64 x6), .flat (.int .i64 x7)])]⟩
noncomputable def pyxref1_Make.j1000.finK {ρ : Type} (y : (Bool × List Int × Int × Bool × Bool × Int × Int × Int)) (K : Out U → Option ρ) : Option ρ := match y with | (x1, x2, x3, x8, x4, x5, x6, x7) => K (.norm ⟨[(6, .ptr 6 0), (0, .flat (.bool x1)), (1, .row C.i64 x2), (2, .flat (.int .i64 x3)), (20, .flat (.bool x8))], [(6, .lit [.flat (.bool x4), .flat (.int .u64 x5), .flat (.int .u64 x6), .flat (.int .i64 x7)])]⟩)
theorem pyxref1_Make.j1000.finK_eq {ρ : Type} (y : (Bool × List Int × Int × Bool × Bool × Int × Int × Int)) (K : Out U → Option ρ) : pyxref1_Make.j1000.finK y K = K (pyxref1_Make.j1000.fin y) := by
  unfold pyxref1_Make.j1000.finK pyxref1_Make.j1000.fin
  first | rfl | (split <;> rfl)
noncomputable def pyxref1_Make.j1000.re : Out U → Option ((Bool × List Int × Int × Bool × Bool × Int × Int × Int)) | .norm s => ((row_i64 (s.get 1)).bind fun q0 => (match s.get 6, s.get 0, s.get 2, s.get 20, lk s.o 6 with | .ptr 6 0, .flat (.bool x1), .flat (.int .i64 x3), .flat (.bool x8), some (.lit [.flat (.bool x4), .flat (.int .u64 x5), .flat (.int .u64 x6), .flat (.int .i64 x7)]) => some (x1, q0, x3, x8, x4, x5, x6, x7) | _, _, _, _, _ => none)) | _ => none
noncomputable def pyxref1_Make.j1000.J : JDen U := { Y := (Bool × List Int × Int × Bool × Bool × Int × Int × Int), re := pyxref1_Make.j1000.re, fin := pyxref1_Make.j1000.fin, finK := pyxref1_Make.j1000.finK, finK_eq := pyxref1_Make.j1000.finK_eq }
theorem pyxref1_Make.j1000.fit (o : Out U) (y : (Bool × List Int × Int × Bool × Bool × Int × Int × Int)) (h : pyxref1_Make.j1000.re o = some y) : FitsO o (pyxref1_Make.j1000.fin y) := by
  unfold pyxref1_Make.j1000.re at h
  split at h
  · obtain ⟨q0, eq0, h1⟩ := Option.bind_eq_some_iff.1 h
    split at h1
    · cases h1
      refine fitsO_norm (fits_ren [] ?_ ?_ ren_nil rfl)
      · exact List.forall_mem_cons.2 ⟨FV.one (FV.ptr (by assumption)), List.forall_mem_cons.2 ⟨FV.one (FV.same (by assumption) rfl), List.forall_mem_cons.2 ⟨FV.one (row_i64_fit eq0), List.forall_mem_cons.2 ⟨FV.one (FV.same (by assumption) rfl), List.forall_mem_cons.2 ⟨FV.one (FV.same (by assumption) rfl), fun _ hp => (List.not_mem_nil hp).elim⟩⟩⟩⟩⟩
      · exact List.forall_mem_cons.2 ⟨(FO.same (show lk (St.o _) 6 = some _ from by assumption) rfl), fun _ hp => (List.not_mem_nil hp).elim⟩
    · cases h1
  · cases h
noncomputable def pyxref1_Make.jl : List (Nat × JDen U) := [(1000, pyxref1_Make.j1000.J)]
noncomputable def pyxref1_Make.fl (k : Nat) : List (Nat × FDen U) := [(106, pyxref1_Words2.D k)]
noncomputable def pyxref1_Make.ll (k : Nat) : List (Nat × LDen U) := []
noncomputable def pyxref1_Make.E (k : Nat) : Env U := { P := Try.prog, D := DD, fd := lk (pyxref1_Make.fl k), ld := lk (pyxref1_Make.ll k), jd := lk pyxref1_Make.jl, mode := lk [], elc := lk ec, mpc := lk mc, rts := Try.f58.resultTypes.toList, dyn := fun t => false, vecs := fun d => false, results := Try.f58.results.toList, gh := [], own := false, io := fun g i => false }
theorem pyxref1_Make.ok (k : Nat) : EnvOk (pyxref1_Make.E k) := envOk lawful (pyxref1_Make.fl k) (pyxref1_Make.ll k) pyxref1_Make.jl _ _ _ _ _ _ _ _ _ _ (by
  intro p hp
  simp only [pyxref1_Make.fl, List.mem_cons, List.not_mem_nil, or_false] at hp
  rcases hp with rfl
  · exact ⟨pyxref1_Words2.sound k, enter_of Try.func106 (by kernel_rfl) (by kernel_rfl)⟩) (by
  intro p hp
  simp only [pyxref1_Make.jl, List.mem_cons, List.not_mem_nil, or_false] at hp
  rcases hp with rfl
  · exact pyxref1_Make.j1000.fit)
theorem pyxref1_Make.eq (k : Nat) (x : (Bool × List Int × Int)) : runF (pyxref1_Make.E k) (codeOf Try.f58) (pyxref1_Make.mk x) pyxref1_Make.re = (pyxref1_Make.D k).f x := by kernel_rfl
theorem pyxref1_Make.fit (s : St U) (x : (Bool × List Int × Int)) (h : pyxref1_Make.un s = some x) : Fits s (pyxref1_Make.mk x) := by
  unfold pyxref1_Make.un at h
  split at h
  · cases h
    refine fits_ren [] ?_ ?_ ren_nil rfl
    · exact List.forall_mem_cons.2 ⟨FV.one (FV.same (by assumption) rfl), List.forall_mem_cons.2 ⟨FV.one (FV.same (by assumption) rfl), List.forall_mem_cons.2 ⟨FV.one (FV.same (by assumption) rfl), fun _ hp => (List.not_mem_nil hp).elim⟩⟩⟩
    · exact fun _ hp => (List.not_mem_nil hp).elim
  · cases h
theorem pyxref1_Make.fitR (s : St U) (y : (Sapi_Dec × Int)) (h : pyxref1_Make.re s = some y) : Fits s (pyxref1_Make.fin y) := by
  unfold pyxref1_Make.re at h
  split at h
  · cases h
    refine fits_ren [] ?_ ?_ ren_nil rfl
    · exact List.forall_mem_cons.2 ⟨FV.tup (by assumption) (FTs.cons (FVA.one (FV.same rfl rfl)) (FTs.cons (FVA.one (FV.same rfl rfl)) (FTs.nil))), fun _ hp => (List.not_mem_nil hp).elim⟩
    · exact fun _ hp => (List.not_mem_nil hp).elim
  · cases h
theorem pyxref1_Make.sound (k : Nat) : Sound Try.prog DD 58 (pyxref1_Make.D k) :=
  fun_sound (E := pyxref1_Make.E k) (fn := Try.f58) (c := codeOf Try.f58) (pyxref1_Make.ok k) mixed rfl Try.func58 (by kernel_rfl) (by kernel_rfl) (allL_of (l := []) (by kernel_rfl) allL_nil) (pyxref1_Make.D k) pyxref1_Make.mk pyxref1_Make.re (by kernel_rfl) (by kernel_rfl) pyxref1_Make.fit pyxref1_Make.fitR (pyxref1_Make.eq k)
/-! ### pyx/pyxref1.Of: function 17 -/
noncomputable def pyxref1_Of.f (k : Nat) (a0 : Int) (a1 : Int) : Option Sapi_Dec := ((cond (decide (a0 < 0)) (some (a1, decide (a0 < 0), IntKind.wrap .u64 (0 - (IntKind.wrap .u64 (a0))), false, 0, 0, 0)) (some (a1, decide (a0 < 0), IntKind.wrap .u64 (a0), false, 0, 0, 0))) : Option (Int × Bool × Int × Bool × Int × Int × Int)).bind fun y8 => ((pyxref1_Word.f k y8.2.2.1).bind fun t9 => ((pyxref1_Within.f k y8.1 0 9).bind fun t10 => ((pyxref1_Make.f k y8.2.1 t9 t10).bind fun t11 => (some (⟨t11.1.f_Neg, (t11.1.f_C.1, t11.1.f_C.2), t11.1.f_Scale⟩ : Sapi_Dec)))))
noncomputable def pyxref1_Of.un (s : St U) : Option (Int × Int) := match s.get 0, s.get 1 with | .flat (.int .i64 x1), .flat (.int .i64 x2) => some (x1, x2) | _, _ => none
noncomputable def pyxref1_Of.mk (x : (Int × Int)) : St U := ⟨[(0, .flat (.int .i64 x.1)), (1, .flat (.int .i64 x.2))], []⟩
noncomputable def pyxref1_Of.fin (y : Sapi_Dec) : St U := ⟨[(0, .agg [.flat (.bool y.f_Neg), .flat (.int .u64 y.f_C.1), .flat (.int .u64 y.f_C.2), .flat (.int .i64 y.f_Scale)])], []⟩
noncomputable def pyxref1_Of.D (k : Nat) : FDen U := { X := (Int × Int), Y := Sapi_Dec, nt := 26, gh := [], un := pyxref1_Of.un, f := fun x => pyxref1_Of.f k (x.1) (x.2), fin := pyxref1_Of.fin, cl := true, clo := fun _ _ => rfl }
noncomputable def pyxref1_Of.re (s : St U) : Option Sapi_Dec := match s.get 0 with | .agg [.flat (.bool x1), .flat (.int .u64 x2), .flat (.int .u64 x3), .flat (.int .i64 x4)] => some (⟨x1, (x2, x3), x4⟩ : Sapi_Dec) | _ => none
noncomputable def pyxref1_Of.j4001.fin (y : (Int × Bool × Int × Bool × Int × Int × Int)) : Out U := match y with | (x1, x6, x7, x2, x3, x4, x5) => .norm ⟨[(4, .ptr 4 0), (1, .flat (.int .i64 x1)), (5, .flat (.bool x6)), (6, .flat (.int .u64 x7))], [(4, .lit [.flat (.bool x2), .flat (.int .u64 x3), .flat (.int .u64 x4), .flat (.int .i64 x5)])]⟩
noncomputable def pyxref1_Of.j4001.finK {ρ : Type} (y : (Int × Bool × Int × Bool × Int × Int × Int)) (K : Out U → Option ρ) : Option ρ := match y with | (x1, x6, x7, x2, x3, x4, x5) => K (.norm ⟨[(4, .ptr 4 0), (1, .flat (.int .i64 x1)), (5, .flat (.bool x6)), (6, .flat (.int .u64 x7))], [(4, .lit [.flat (.bool x2), .flat (.int .u64 x3), .flat (.int .u64 x4), .flat (.int .i64 x5)])]⟩)
theorem pyxref1_Of.j4001.finK_eq {ρ : Type} (y : (Int × Bool × Int × Bool × Int × Int × Int)) (K : Out U → Option ρ) : pyxref1_Of.j4001.finK y K = K (pyxref1_Of.j4001.fin y) := by
  unfold pyxref1_Of.j4001.finK pyxref1_Of.j4001.fin
  first | rfl | (split <;> rfl)
noncomputable def pyxref1_Of.j4001.re : Out U → Option ((Int × Bool × Int × Bool × Int × Int × Int)) | .norm s => (match s.get 4, s.get 1, s.get 5, s.get 6, lk s.o 4 with | .ptr 4 0, .flat (.int .i64 x1), .flat (.bool x6), .flat (.int .u64 x7), some (.lit [.flat (.bool x2), .flat (.int .u64 x3), .flat (.int .u64 x4), .flat (.int .i64 x5)]) => some (x1, x6, x7, x2, x3, x4, x5) | _, _, _, _, _ => none) | _ => none
noncomputable def pyxref1_Of.j4001.J : JDen U := { Y := (Int × Bool × Int × Bool × Int × Int × Int), re := pyxref1_Of.j4001.re, fin := pyxref1_Of.j4001.fin, finK := pyxref1_Of.j4001.finK, finK_eq := pyxref1_Of.j4001.finK_eq }
theorem pyxref1_Of.j4001.fit (o : Out U) (y : (Int × Bool × Int × Bool × Int × Int × Int)) (h : pyxref1_Of.j4001.re o = some y) : FitsO o (pyxref1_Of.j4001.fin y) := by
  unfold pyxref1_Of.j4001.re at h
  split at h
  · split at h
    · cases h
      refine fitsO_norm (fits_ren [] ?_ ?_ ren_nil rfl)
      · exact List.forall_mem_cons.2 ⟨FV.one (FV.ptr (by assumption)), List.forall_mem_cons.2 ⟨FV.one (FV.same (by assumption) rfl), List.forall_mem_cons.2 ⟨FV.one (FV.same (by assumption) rfl), List.forall_mem_cons.2 ⟨FV.one (FV.same (by assumption) rfl), fun _ hp => (List.not_mem_nil hp).elim⟩⟩⟩⟩
      · exact List.forall_mem_cons.2 ⟨(FO.same (show lk (St.o _) 4 = some _ from by assumption) rfl), fun _ hp => (List.not_mem_nil hp).elim⟩
    · cases h
  · cases h
noncomputable def pyxref1_Of.jl : List (Nat × JDen U) := [(4001, pyxref1_Of.j4001.J)]
noncomputable def pyxref1_Of.fl (k : Nat) : List (Nat × FDen U) := [(59, pyxref1_Word.D k), (60, pyxref1_Within.D k), (58, pyxref1_Make.D k)]
noncomputable def pyxref1_Of.ll (k : Nat) : List (Nat × LDen U) := []
noncomputable def pyxref1_Of.E (k : Nat) : Env U := { P := Try.prog, D := DD, fd := lk (pyxref1_Of.fl k), ld := lk (pyxref1_Of.ll k), jd := lk pyxref1_Of.jl, mode := lk [], elc := lk ec, mpc := lk mc, rts := Try.f17.resultTypes.toList, dyn := fun t => false, vecs := fun d => false, results := Try.f17.results.toList, gh := [], own := false, io := fun g i => false }
theorem pyxref1_Of.ok (k : Nat) : EnvOk (pyxref1_Of.E k) := envOk lawful (pyxref1_Of.fl k) (pyxref1_Of.ll k) pyxref1_Of.jl _ _ _ _ _ _ _ _ _ _ (by
  intro p hp
  simp only [pyxref1_Of.fl, List.mem_cons, List.not_mem_nil, or_false] at hp
  rcases hp with rfl | rfl | rfl
  · exact ⟨pyxref1_Word.sound k, enter_of Try.func59 (by kernel_rfl) (by kernel_rfl)⟩
  · exact ⟨pyxref1_Within.sound k, enter_of Try.func60 (by kernel_rfl) (by kernel_rfl)⟩
  · exact ⟨pyxref1_Make.sound k, enter_of Try.func58 (by kernel_rfl) (by kernel_rfl)⟩) (by
  intro p hp
  simp only [pyxref1_Of.jl, List.mem_cons, List.not_mem_nil, or_false] at hp
  rcases hp with rfl
  · exact pyxref1_Of.j4001.fit)
theorem pyxref1_Of.eq (k : Nat) (x : (Int × Int)) : runF (pyxref1_Of.E k) (codeOf Try.f17) (pyxref1_Of.mk x) pyxref1_Of.re = (pyxref1_Of.D k).f x := by kernel_rfl
theorem pyxref1_Of.fit (s : St U) (x : (Int × Int)) (h : pyxref1_Of.un s = some x) : Fits s (pyxref1_Of.mk x) := by
  unfold pyxref1_Of.un at h
  split at h
  · cases h
    refine fits_ren [] ?_ ?_ ren_nil rfl
    · exact List.forall_mem_cons.2 ⟨FV.one (FV.same (by assumption) rfl), List.forall_mem_cons.2 ⟨FV.one (FV.same (by assumption) rfl), fun _ hp => (List.not_mem_nil hp).elim⟩⟩
    · exact fun _ hp => (List.not_mem_nil hp).elim
  · cases h
theorem pyxref1_Of.fitR (s : St U) (y : Sapi_Dec) (h : pyxref1_Of.re s = some y) : Fits s (pyxref1_Of.fin y) := by
  unfold pyxref1_Of.re at h
  split at h
  · cases h
    refine fits_ren [] ?_ ?_ ren_nil rfl
    · exact List.forall_mem_cons.2 ⟨FV.one (FV.same (by assumption) rfl), fun _ hp => (List.not_mem_nil hp).elim⟩
    · exact fun _ hp => (List.not_mem_nil hp).elim
  · cases h
theorem pyxref1_Of.sound (k : Nat) : Sound Try.prog DD 17 (pyxref1_Of.D k) :=
  fun_sound (E := pyxref1_Of.E k) (fn := Try.f17) (c := codeOf Try.f17) (pyxref1_Of.ok k) mixed rfl Try.func17 (by kernel_rfl) (by kernel_rfl) (allL_of (l := []) (by kernel_rfl) allL_nil) (pyxref1_Of.D k) pyxref1_Of.mk pyxref1_Of.re (by kernel_rfl) (by kernel_rfl) pyxref1_Of.fit pyxref1_Of.fitR (pyxref1_Of.eq k)
/-! ### pyx/pyxhand.Amount: function 66 -/
noncomputable def pyxhand_Amount.f (k : Nat) (a0 : Int) (a1 : Int) : Option Sapi_Dec := (pyxhand_Pick.f k a0 2000001).bind fun t1 => ((pyxref1_Of.f k (IntKind.wrap .i64 (t1 - 1000000)) a1).bind fun t2 => (some (⟨t2.f_Neg, (t2.f_C.1, t2.f_C.2), t2.f_Scale⟩ : Sapi_Dec)))
noncomputable def pyxhand_Amount.un (s : St U) : Option (Int × Int) := match s.get 0, s.get 1 with | .flat (.int .i64 x1), .flat (.int .i64 x2) => some (x1, x2) | _, _ => none
noncomputable def pyxhand_Amount.mk (x : (Int × Int)) : St U := ⟨[(0, .flat (.int .i64 x.1)), (1, .flat (.int .i64 x.2))], []⟩
noncomputable def pyxhand_Amount.fin (y : Sapi_Dec) : St U := ⟨[(0, .agg [.flat (.bool y.f_Neg), .flat (.int .u64 y.f_C.1), .flat (.int .u64 y.f_C.2), .flat (.int .i64 y.f_Scale)])], []⟩
noncomputable def pyxhand_Amount.D (k : Nat) : FDen U := { X := (Int × Int), Y := Sapi_Dec, nt := 10, gh := [], un := pyxhand_Amount.un, f := fun x => pyxhand_Amount.f k (x.1) (x.2), fin := pyxhand_Amount.fin, cl := true, clo := fun _ _ => rfl }
noncomputable def pyxhand_Amount.re (s : St U) : Option Sapi_Dec := match s.get 0 with | .agg [.flat (.bool x1), .flat (.int .u64 x2), .flat (.int .u64 x3), .flat (.int .i64 x4)] => some (⟨x1, (x2, x3), x4⟩ : Sapi_Dec) | _ => none
noncomputable def pyxhand_Amount.jl : List (Nat × JDen U) := []
noncomputable def pyxhand_Amount.fl (k : Nat) : List (Nat × FDen U) := [(25, pyxhand_Pick.D k), (17, pyxref1_Of.D k)]
noncomputable def pyxhand_Amount.ll (k : Nat) : List (Nat × LDen U) := []
noncomputable def pyxhand_Amount.E (k : Nat) : Env U := { P := Try.prog, D := DD, fd := lk (pyxhand_Amount.fl k), ld := lk (pyxhand_Amount.ll k), jd := lk pyxhand_Amount.jl, mode := lk [], elc := lk ec, mpc := lk mc, rts := Try.f66.resultTypes.toList, dyn := fun t => false, vecs := fun d => false, results := Try.f66.results.toList, gh := [], own := false, io := fun g i => false }
theorem pyxhand_Amount.ok (k : Nat) : EnvOk (pyxhand_Amount.E k) := envOk lawful (pyxhand_Amount.fl k) (pyxhand_Amount.ll k) pyxhand_Amount.jl _ _ _ _ _ _ _ _ _ _ (by
  intro p hp
  simp only [pyxhand_Amount.fl, List.mem_cons, List.not_mem_nil, or_false] at hp
  rcases hp with rfl | rfl
  · exact ⟨pyxhand_Pick.sound k, enter_of Try.func25 (by kernel_rfl) (by kernel_rfl)⟩
  · exact ⟨pyxref1_Of.sound k, enter_of Try.func17 (by kernel_rfl) (by kernel_rfl)⟩) (by
  intro p hp
  simp [pyxhand_Amount.jl] at hp)
theorem pyxhand_Amount.eq (k : Nat) (x : (Int × Int)) : runF (pyxhand_Amount.E k) (codeOf Try.f66) (pyxhand_Amount.mk x) pyxhand_Amount.re = (pyxhand_Amount.D k).f x := by kernel_rfl
theorem pyxhand_Amount.fit (s : St U) (x : (Int × Int)) (h : pyxhand_Amount.un s = some x) : Fits s (pyxhand_Amount.mk x) := by
  unfold pyxhand_Amount.un at h
  split at h
  · cases h
    refine fits_ren [] ?_ ?_ ren_nil rfl
    · exact List.forall_mem_cons.2 ⟨FV.one (FV.same (by assumption) rfl), List.forall_mem_cons.2 ⟨FV.one (FV.same (by assumption) rfl), fun _ hp => (List.not_mem_nil hp).elim⟩⟩
    · exact fun _ hp => (List.not_mem_nil hp).elim
  · cases h
theorem pyxhand_Amount.fitR (s : St U) (y : Sapi_Dec) (h : pyxhand_Amount.re s = some y) : Fits s (pyxhand_Amount.fin y) := by
  unfold pyxhand_Amount.re at h
  split at h
  · cases h
    refine fits_ren [] ?_ ?_ ren_nil rfl
    · exact List.forall_mem_cons.2 ⟨FV.one (FV.same (by assumption) rfl), fun _ hp => (List.not_mem_nil hp).elim⟩
    · exact fun _ hp => (List.not_mem_nil hp).elim
  · cases h
theorem pyxhand_Amount.sound (k : Nat) : Sound Try.prog DD 66 (pyxhand_Amount.D k) :=
  fun_sound (E := pyxhand_Amount.E k) (fn := Try.f66) (c := codeOf Try.f66) (pyxhand_Amount.ok k) mixed rfl Try.func66 (by kernel_rfl) (by kernel_rfl) (allL_of (l := []) (by kernel_rfl) allL_nil) (pyxhand_Amount.D k) pyxhand_Amount.mk pyxhand_Amount.re (by kernel_rfl) (by kernel_rfl) pyxhand_Amount.fit pyxhand_Amount.fitR (pyxhand_Amount.eq k)
/-! ### pyx/pyxref11.IsWith: function 67 -/
noncomputable def pyxref11_IsWith.f (k : Nat) (a0 : Int) : Option Bool := cond (a0 == 3) (some true) (some (a0 == 6))
noncomputable def pyxref11_IsWith.un (s : St U) : Option Int := match s.get 0 with | .flat (.int .i64 x1) => some x1 | _ => none
noncomputable def pyxref11_IsWith.mk (x : Int) : St U := ⟨[(0, .flat (.int .i64 x))], []⟩
noncomputable def pyxref11_IsWith.fin (y : Bool) : St U := ⟨[(0, .flat (.bool y))], []⟩
noncomputable def pyxref11_IsWith.D (k : Nat) : FDen U := { X := Int, Y := Bool, nt := 9, gh := [], un := pyxref11_IsWith.un, f := fun x => pyxref11_IsWith.f k (x), fin := pyxref11_IsWith.fin, cl := true, clo := fun _ _ => rfl }
noncomputable def pyxref11_IsWith.re (s : St U) : Option Bool := match s.get 0 with | .flat (.bool x1) => some x1 | _ => none
noncomputable def pyxref11_IsWith.jl : List (Nat × JDen U) := []
noncomputable def pyxref11_IsWith.fl (k : Nat) : List (Nat × FDen U) := []
noncomputable def pyxref11_IsWith.ll (k : Nat) : List (Nat × LDen U) := []
noncomputable def pyxref11_IsWith.E (k : Nat) : Env U := { P := Try.prog, D := DD, fd := lk (pyxref11_IsWith.fl k), ld := lk (pyxref11_IsWith.ll k), jd := lk pyxref11_IsWith.jl, mode := lk [], elc := lk ec, mpc := lk mc, rts := Try.f67.resultTypes.toList, dyn := fun t => false, vecs := fun d => false, results := Try.f67.results.toList, gh := [], own := false, io := fun g i => false }
theorem pyxref11_IsWith.ok (k : Nat) : EnvOk (pyxref11_IsWith.E k) := envOk lawful (pyxref11_IsWith.fl k) (pyxref11_IsWith.ll k) pyxref11_IsWith.jl _ _ _ _ _ _ _ _ _ _ (by
  intro p hp
  simp [pyxref11_IsWith.fl] at hp) (by
  intro p hp
  simp [pyxref11_IsWith.jl] at hp)
theorem pyxref11_IsWith.eq (k : Nat) (x : Int) : runF (pyxref11_IsWith.E k) (codeOf Try.f67) (pyxref11_IsWith.mk x) pyxref11_IsWith.re = (pyxref11_IsWith.D k).f x := by kernel_rfl
theorem pyxref11_IsWith.fit (s : St U) (x : Int) (h : pyxref11_IsWith.un s = some x) : Fits s (pyxref11_IsWith.mk x) := by
  unfold pyxref11_IsWith.un at h
  split at h
  · cases h
    refine fits_ren [] ?_ ?_ ren_nil rfl
    · exact List.forall_mem_cons.2 ⟨FV.one (FV.same (by assumption) rfl), fun _ hp => (List.not_mem_nil hp).elim⟩
    · exact fun _ hp => (List.not_mem_nil hp).elim
  · cases h
theorem pyxref11_IsWith.fitR (s : St U) (y : Bool) (h : pyxref11_IsWith.re s = some y) : Fits s (pyxref11_IsWith.fin y) := by
  unfold pyxref11_IsWith.re at h
  split at h
  · cases h
    refine fits_ren [] ?_ ?_ ren_nil rfl
    · exact List.forall_mem_cons.2 ⟨FV.one (FV.same (by assumption) rfl), fun _ hp => (List.not_mem_nil hp).elim⟩
    · exact fun _ hp => (List.not_mem_nil hp).elim
  · cases h
theorem pyxref11_IsWith.sound (k : Nat) : Sound Try.prog DD 67 (pyxref11_IsWith.D k) :=
  fun_sound (E := pyxref11_IsWith.E k) (fn := Try.f67) (c := codeOf Try.f67) (pyxref11_IsWith.ok k) mixed rfl Try.func67 (by kernel_rfl) (by kernel_rfl) (allL_of (l := []) (by kernel_rfl) allL_nil) (pyxref11_IsWith.D k) pyxref11_IsWith.mk pyxref11_IsWith.re (by kernel_rfl) (by kernel_rfl) pyxref11_IsWith.fit pyxref11_IsWith.fitR (pyxref11_IsWith.eq k)
/-! ### pyx/pyxref1.MulNat: function 112 -/
noncomputable def pyxref1_MulNat.l7.once (k : Nat) (x : (List Int × List Int × Int × Int × Int × List Int)) : Option ((List Int × List Int × Int × Int × Int × List Int) ⊕ ((List Int × List Int × Int × List Int))) := match x with | (x5, x6, x8, x9, x10, x7) => ((cond (decide (x10 < (List.length x6 : Int))) (some (x5, x6, x8, x9, x10, true, x7)) (some (x5, x6, x8, x9, x10, decide (x9 > 0), x7))) : Option (List Int × List Int × Int × Int × Int × Bool × List Int)).bind fun y18 => (cond (y18.2.2.2.2.2.1) (cond (inb (IntKind.wrap .i64 (y18.2.2.1 + y18.2.2.2.2.1)) (List.length y18.2.2.2.2.2.2)) (cond (Nat.blt (Int.toNat (IntKind.wrap .i64 (y18.2.2.1 + y18.2.2.2.2.1))) (List.length y18.2.2.2.2.2.2)) (cond (inb y18.2.2.1 (List.length y18.1)) ((pyxref1_digit.f k y18.2.1 y18.2.2.2.2.1).bind fun t19 => (cond (inb (IntKind.wrap .i64 (y18.2.2.1 + y18.2.2.2.2.1)) (List.length y18.2.2.2.2.2.2)) (cond (Nat.blt (Int.toNat (IntKind.wrap .i64 (y18.2.2.1 + y18.2.2.2.2.1))) (List.length y18.2.2.2.2.2.2)) (some (.inl (y18.1, y18.2.1, y18.2.2.1, IntKind.wrap .i64 (Int.tdiv (IntKind.wrap .i64 ((IntKind.wrap .i64 ((List.getD y18.2.2.2.2.2.2 (Int.toNat (IntKind.wrap .i64 (y18.2.2.1 + y18.2.2.2.2.1))) 0) + (IntKind.wrap .i64 ((List.getD y18.1 (Int.toNat y18.2.2.1) 0) * t19)))) + y18.2.2.2.1)) 10), IntKind.wrap .i64 (y18.2.2.2.2.1 + 1), List.set y18.2.2.2.2.2.2 (Int.toNat (IntKind.wrap .i64 (y18.2.2.1 + y18.2.2.2.2.1))) (Int.tmod (IntKind.wrap .i64 ((IntKind.wrap .i64 ((List.getD y18.2.2.2.2.2.2 (Int.toNat (IntKind.wrap .i64 (y18.2.2.1 + y18.2.2.2.2.1))) 0) + (IntKind.wrap .i64 ((List.getD y18.1 (Int.toNat y18.2.2.1) 0) * t19)))) + y18.2.2.2.1)) 10)))) none) none)) none) none) none) (some (.inr (y18.1, y18.2.1, y18.2.2.1, y18.2.2.2.2.2.2))))
noncomputable def pyxref1_MulNat.l3.once (k : Nat) (x : (List Int × List Int × Int × List Int)) : Option ((List Int × List Int × Int × List Int) ⊕ (List Int)) := match x with | (x1, x2, x4, x3) => cond (decide (x4 < (List.length x1 : Int))) ((iter (pyxref1_MulNat.l7.once k) k (x1, x2, x4, 0, 0, x3)).bind fun y24 => (some (.inl (y24.1, y24.2.1, IntKind.wrap .i64 (y24.2.2.1 + 1), y24.2.2.2)))) (some (.inr x3))
noncomputable def pyxref1_MulNat.f (k : Nat) (a0 : List Int) (a1 : List Int) : Option (List Int) := cond ((decide (0 ≤ IntKind.wrap .i64 ((IntKind.wrap .i64 ((List.length a0 : Int) + (List.length a1 : Int))) + 1)) && decide (IntKind.wrap .i64 ((IntKind.wrap .i64 ((List.length a0 : Int) + (List.length a1 : Int))) + 1) = IntKind.wrap .i64 ((IntKind.wrap .i64 ((List.length a0 : Int) + (List.length a1 : Int))) + 1))) && decide ((IntKind.wrap .i64 ((IntKind.wrap .i64 ((List.length a0 : Int) + (List.length a1 : Int))) + 1)) * 8 ≤ 140737488355328)) ((iter (pyxref1_MulNat.l3.once k) k (a0, a1, 0, List.replicate (Int.toNat (IntKind.wrap .i64 ((IntKind.wrap .i64 ((List.length a0 : Int) + (List.length a1 : Int))) + 1))) (0 : Int))).bind fun y26 => ((pyxref1_trim.f k y26).bind fun t27 => (some t27))) none
noncomputable def pyxref1_MulNat.un (s : St U) : Option (List Int × List Int) := match s.get 0, s.get 1 with | .row C.i64 x1, .row C.i64 x2 => some (x1, x2) | _, _ => none
noncomputable def pyxref1_MulNat.mk (x : (List Int × List Int)) : St U := ⟨[(0, .row C.i64 x.1), (1, .row C.i64 x.2)], []⟩
noncomputable def pyxref1_MulNat.fin (y : List Int) : St U := ⟨[(0, .row C.i64 y)], []⟩
noncomputable def pyxref1_MulNat.D (k : Nat) : FDen U := { X := (List Int × List Int), Y := List Int, nt := 61, gh := [], un := pyxref1_MulNat.un, f := fun x => pyxref1_MulNat.f k (x.1) (x.2), fin := pyxref1_MulNat.fin, cl := true, clo := fun _ _ => rfl }
noncomputable def pyxref1_MulNat.re (s : St U) : Option (List Int) := match s.get 0 with | .row C.i64 x1 => some x1 | _ => none
noncomputable def pyxref1_MulNat.l7.mk (x : (List Int × List Int × Int × Int × Int × List Int)) : St U := match x with | (x5, x6, x8, x9, x10, x7) => ⟨[(0, .row C.i64 x5), (1, .row C.i64 x6), (5, .vs 1007005), (6, .flat (.int .i64 x8)), (7, .flat (.int .i64 x9)), (8, .flat (.int .i64 x10))], [(1007005, .vec C.i64 x7)]⟩
noncomputable def pyxref1_MulNat.l7.un (s : St U) : Option (List Int × List Int × Int × Int × Int × List Int) := (row_i64 (s.get 0)).bind fun q0 => ((row_i64 (s.get 1)).bind fun q1 => ((vec_i64 s.o (s.get 5)).bind fun q2 => (match s.get 6, s.get 7, s.get 8 with | .flat (.int .i64 x8), .flat (.int .i64 x9), .flat (.int .i64 x10) => some (q0, q1, x8, x9, x10, q2.2) | _, _, _ => none)))
noncomputable def pyxref1_MulNat.l7.fin (y : (List Int × List Int × Int × List Int)) : Out U := match y with | (x20, x21, x23, x22) => .exit 2 ⟨[(0, .row C.i64 x20), (1, .row C.i64 x21), (5, .vs 1007005), (6, .flat (.int .i64 x23))], [(1007005, .vec C.i64 x22)]⟩
noncomputable def pyxref1_MulNat.l7.finK {ρ : Type} (y : (List Int × List Int × Int × List Int)) (K : Out U → Option ρ) : Option ρ := match y with | (x20, x21, x23, x22) => K (.exit 2 ⟨[(0, .row C.i64 x20), (1, .row C.i64 x21), (5, .vs 1007005), (6, .flat (.int .i64 x23))], [(1007005, .vec C.i64 x22)]⟩)
theorem pyxref1_MulNat.l7.finK_eq {ρ : Type} (y : (List Int × List Int × Int × List Int)) (K : Out U → Option ρ) : pyxref1_MulNat.l7.finK y K = K (pyxref1_MulNat.l7.fin y) := by
  unfold pyxref1_MulNat.l7.finK pyxref1_MulNat.l7.fin
  first | rfl | (split <;> rfl)
noncomputable def pyxref1_MulNat.l7.re : Out U → Option ((List Int × List Int × Int × List Int)) | .exit 2 s => ((row_i64 (s.get 0)).bind fun q0 => ((row_i64 (s.get 1)).bind fun q1 => ((vec_i64 s.o (s.get 5)).bind fun q2 => (match s.get 6 with | .flat (.int .i64 x23) => some (q0, q1, x23, q2.2) | _ => none)))) | _ => none
noncomputable def pyxref1_MulNat.l7.L (k : Nat) : LDen U := { X := (List Int × List Int × Int × Int × Int × List Int), Y := (List Int × List Int × Int × List Int), un := pyxref1_MulNat.l7.un, f := iter (pyxref1_MulNat.l7.once k) k, fin := pyxref1_MulNat.l7.fin, finK := pyxref1_MulNat.l7.finK, finK_eq := pyxref1_MulNat.l7.finK_eq }
noncomputable def pyxref1_MulNat.l3.mk (x : (List Int × List Int × Int × List Int)) : St U := match x with | (x1, x2, x4, x3) => ⟨[(0, .row C.i64 x1), (1, .row C.i64 x2), (5, .vs 1003005), (6, .flat (.int .i64 x4))], [(1003005, .vec C.i64 x3)]⟩
noncomputable def pyxref1_MulNat.l3.un (s : St U) : Option (List Int × List Int × Int × List Int) := (row_i64 (s.get 0)).bind fun q0 => ((row_i64 (s.get 1)).bind fun q1 => ((vec_i64 s.o (s.get 5)).bind fun q2 => (match s.get 6 with | .flat (.int .i64 x4) => some (q0, q1, x4, q2.2) | _ => none)))
noncomputable def pyxref1_MulNat.l3.fin (y : List Int) : Out U := match y with | x25 => .exit 0 ⟨[(5, .vs 1003005)], [(1003005, .vec C.i64 x25)]⟩
noncomputable def pyxref1_MulNat.l3.finK {ρ : Type} (y : List Int) (K : Out U → Option ρ) : Option ρ := match y with | x25 => K (.exit 0 ⟨[(5, .vs 1003005)], [(1003005, .vec C.i64 x25)]⟩)
theorem pyxref1_MulNat.l3.finK_eq {ρ : Type} (y : List Int) (K : Out U → Option ρ) : pyxref1_MulNat.l3.finK y K = K (pyxref1_MulNat.l3.fin y) := by
  unfold pyxref1_MulNat.l3.finK pyxref1_MulNat.l3.fin
  first | rfl | (split <;> rfl)
noncomputable def pyxref1_MulNat.l3.re : Out U → Option (List Int) | .exit 0 s => ((vec_i64 s.o (s.get 5)).bind fun q0 => (some q0.2)) | _ => none
noncomputable def pyxref1_MulNat.l3.L (k : Nat) : LDen U := { X := (List Int × List Int × Int × List Int), Y := List Int, un := pyxref1_MulNat.l3.un, f := iter (pyxref1_MulNat.l3.once k) k, fin := pyxref1_MulNat.l3.fin, finK := pyxref1_MulNat.l3.finK, finK_eq := pyxref1_MulNat.l3.finK_eq }
noncomputable def pyxref1_MulNat.j7000.fin (y : (List Int × List Int × Int × Int × Int × Bool × List Int)) : Out U := match y with | (x11, x12, x14, x15, x16, x17, x13) => .norm ⟨[(0, .row C.i64 x11), (1, .row C.i64 x12), (5, .vs 1008000005), (6, .flat (.int .i64 x14)), (7, .flat (.int .i64 x15)), (8, .flat (.int .i64 x16)), (30, .flat (.bool x17))], [(1008000005, .vec C.i64 x13)]⟩
noncomputable def pyxref1_MulNat.j7000.finK {ρ : Type} (y : (List Int × List Int × Int × Int × Int × Bool × List Int)) (K : Out U → Option ρ) : Option ρ := match y with | (x11, x12, x14, x15, x16, x17, x13) => K (.norm ⟨[(0, .row C.i64 x11), (1, .row C.i64 x12), (5, .vs 1008000005), (6, .flat (.int .i64 x14)), (7, .flat (.int .i64 x15)), (8, .flat (.int .i64 x16)), (30, .flat (.bool x17))], [(1008000005, .vec C.i64 x13)]⟩)
theorem pyxref1_MulNat.j7000.finK_eq {ρ : Type} (y : (List Int × List Int × Int × Int × Int × Bool × List Int)) (K : Out U → Option ρ) : pyxref1_MulNat.j7000.finK y K = K (pyxref1_MulNat.j7000.fin y) := by
  unfold pyxref1_MulNat.j7000.finK pyxref1_MulNat.j7000.fin
  first | rfl | (split <;> rfl)
noncomputable def pyxref1_MulNat.j7000.re : Out U → Option ((List Int × List Int × Int × Int × Int × Bool × List Int)) | .norm s => ((row_i64 (s.get 0)).bind fun q0 => ((row_i64 (s.get 1)).bind fun q1 => ((vec_i64 s.o (s.get 5)).bind fun q2 => (match s.get 6, s.get 7, s.get 8, s.get 30 with | .flat (.int .i64 x14), .flat (.int .i64 x15), .flat (.int .i64 x16), .flat (.bool x17) => some (q0, q1, x14, x15, x16, x17, q2.2) | _, _, _, _ => none)))) | _ => none
noncomputable def pyxref1_MulNat.j7000.J : JDen U := { Y := (List Int × List Int × Int × Int × Int × Bool × List Int), re := pyxref1_MulNat.j7000.re, fin := pyxref1_MulNat.j7000.fin, finK := pyxref1_MulNat.j7000.finK, finK_eq := pyxref1_MulNat.j7000.finK_eq }
theorem pyxref1_MulNat.j7000.fit (o : Out U) (y : (List Int × List Int × Int × Int × Int × Bool × List Int)) (h : pyxref1_MulNat.j7000.re o = some y) : FitsO o (pyxref1_MulNat.j7000.fin y) := by
  unfold pyxref1_MulNat.j7000.re at h
  split at h
  · obtain ⟨q0, eq0, h1⟩ := Option.bind_eq_some_iff.1 h
    obtain ⟨q1, eq1, h2⟩ := Option.bind_eq_some_iff.1 h1
    obtain ⟨q2, eq2, h3⟩ := Option.bind_eq_some_iff.1 h2
    split at h3
    · cases h3
      refine fitsO_norm (fits_ren [(1008000005, q2.1)] ?_ ?_ ren_one rfl)
      · exact List.forall_mem_cons.2 ⟨FV.one (row_i64_fit eq0), List.forall_mem_cons.2 ⟨FV.one (row_i64_fit eq1), List.forall_mem_cons.2 ⟨FV.one (vec_i64_fit eq2 rfl).1, List.forall_mem_cons.2 ⟨FV.one (FV.same (by assumption) rfl), List.forall_mem_cons.2 ⟨FV.one (FV.same (by assumption) rfl), List.forall_mem_cons.2 ⟨FV.one (FV.same (by assumption) rfl), List.forall_mem_cons.2 ⟨FV.one (FV.same (by assumption) rfl), fun _ hp => (List.not_mem_nil hp).elim⟩⟩⟩⟩⟩⟩⟩
      · exact List.forall_mem_cons.2 ⟨(vec_i64_fit eq2 rfl).2, fun _ hp => (List.not_mem_nil hp).elim⟩
    · cases h3
  · cases h
noncomputable def pyxref1_MulNat.jl : List (Nat × JDen U) := [(7000, pyxref1_MulNat.j7000.J)]
noncomputable def pyxref1_MulNat.fl (k : Nat) : List (Nat × FDen U) := [(145, pyxref1_digit.D k), (146, pyxref1_trim.D k)]
noncomputable def pyxref1_MulNat.ll (k : Nat) : List (Nat × LDen U) := [(7, pyxref1_MulNat.l7.L k), (3, pyxref1_MulNat.l3.L k)]
noncomputable def pyxref1_MulNat.E (k : Nat) : Env U := { P := Try.prog, D := DD, fd := lk (pyxref1_MulNat.fl k), ld := lk (pyxref1_MulNat.ll k), jd := lk pyxref1_MulNat.jl, mode := lk [], elc := lk ec, mpc := lk mc, rts := Try.f112.resultTypes.toList, dyn := fun t => false, vecs := fun d => Nat.beq d 16, results := Try.f112.results.toList, gh := [], own := false, io := fun g i => false }
theorem pyxref1_MulNat.ok (k : Nat) : EnvOk (pyxref1_MulNat.E k) := envOk lawful (pyxref1_MulNat.fl k) (pyxref1_MulNat.ll k) pyxref1_MulNat.jl _ _ _ _ _ _ _ _ _ _ (by
  intro p hp
  simp only [pyxref1_MulNat.fl, List.mem_cons, List.not_mem_nil, or_false] at hp
  rcases hp with rfl | rfl
  · exact ⟨pyxref1_digit.sound k, enter_of Try.func145 (by kernel_rfl) (by kernel_rfl)⟩
  · exact ⟨pyxref1_trim.sound k, enter_of Try.func146 (by kernel_rfl) (by kernel_rfl)⟩) (by
  intro p hp
  simp only [pyxref1_MulNat.jl, List.mem_cons, List.not_mem_nil, or_false] at hp
  rcases hp with rfl
  · exact pyxref1_MulNat.j7000.fit)
theorem pyxref1_MulNat.l7.eq (k : Nat) (x : (List Int × List Int × Int × Int × Int × List Int)) : evC (pyxref1_MulNat.E k) (loopAt Try.f112 7) (pyxref1_MulNat.l7.mk x) (headK pyxref1_MulNat.l7.un pyxref1_MulNat.l7.re) = pyxref1_MulNat.l7.once k x := by kernel_rfl
theorem pyxref1_MulNat.l7.fit (s : St U) (x : (List Int × List Int × Int × Int × Int × List Int)) (h : pyxref1_MulNat.l7.un s = some x) : Fits s (pyxref1_MulNat.l7.mk x) := by
  unfold pyxref1_MulNat.l7.un at h
  obtain ⟨q0, eq0, h1⟩ := Option.bind_eq_some_iff.1 h
  obtain ⟨q1, eq1, h2⟩ := Option.bind_eq_some_iff.1 h1
  obtain ⟨q2, eq2, h3⟩ := Option.bind_eq_some_iff.1 h2
  split at h3
  · cases h3
    refine fits_ren [(1007005, q2.1)] ?_ ?_ ren_one rfl
    · exact List.forall_mem_cons.2 ⟨FV.one (row_i64_fit eq0), List.forall_mem_cons.2 ⟨FV.one (row_i64_fit eq1), List.forall_mem_cons.2 ⟨FV.one (vec_i64_fit eq2 rfl).1, List.forall_mem_cons.2 ⟨FV.one (FV.same (by assumption) rfl), List.forall_mem_cons.2 ⟨FV.one (FV.same (by assumption) rfl), List.forall_mem_cons.2 ⟨FV.one (FV.same (by assumption) rfl), fun _ hp => (List.not_mem_nil hp).elim⟩⟩⟩⟩⟩⟩
    · exact List.forall_mem_cons.2 ⟨(vec_i64_fit eq2 rfl).2, fun _ hp => (List.not_mem_nil hp).elim⟩
  · cases h3
theorem pyxref1_MulNat.l7.fitO (o : Out U) (y : (List Int × List Int × Int × List Int)) (h : pyxref1_MulNat.l7.re o = some y) : FitsO o (pyxref1_MulNat.l7.fin y) := by
  unfold pyxref1_MulNat.l7.re at h
  split at h
  · obtain ⟨q0, eq0, h1⟩ := Option.bind_eq_some_iff.1 h
    obtain ⟨q1, eq1, h2⟩ := Option.bind_eq_some_iff.1 h1
    obtain ⟨q2, eq2, h3⟩ := Option.bind_eq_some_iff.1 h2
    split at h3
    · cases h3
      refine fitsO_exit (fits_ren [(1007005, q2.1)] ?_ ?_ ren_one rfl)
      · exact List.forall_mem_cons.2 ⟨FV.one (row_i64_fit eq0), List.forall_mem_cons.2 ⟨FV.one (row_i64_fit eq1), List.forall_mem_cons.2 ⟨FV.one (vec_i64_fit eq2 rfl).1, List.forall_mem_cons.2 ⟨FV.one (FV.same (by assumption) rfl), fun _ hp => (List.not_mem_nil hp).elim⟩⟩⟩⟩
      · exact List.forall_mem_cons.2 ⟨(vec_i64_fit eq2 rfl).2, fun _ hp => (List.not_mem_nil hp).elim⟩
    · cases h3
  · cases h
theorem pyxref1_MulNat.l7.sound (k : Nat) : LSound (pyxref1_MulNat.E k) Try.f112.ntmps Try.f112 (loopAt Try.f112 7) (pyxref1_MulNat.l7.L k) :=
  loop_sound (pyxref1_MulNat.ok k) mixed rfl (by kernel_rfl) (allL_of (l := []) (by kernel_rfl) allL_nil) pyxref1_MulNat.l7.un pyxref1_MulNat.l7.mk pyxref1_MulNat.l7.fin pyxref1_MulNat.l7.re (pyxref1_MulNat.l7.once k) k pyxref1_MulNat.l7.fit pyxref1_MulNat.l7.fitO (pyxref1_MulNat.l7.eq k) pyxref1_MulNat.l7.finK pyxref1_MulNat.l7.finK_eq
theorem pyxref1_MulNat.l3.eq (k : Nat) (x : (List Int × List Int × Int × List Int)) : evC (pyxref1_MulNat.E k) (loopAt Try.f112 3) (pyxref1_MulNat.l3.mk x) (headK pyxref1_MulNat.l3.un pyxref1_MulNat.l3.re) = pyxref1_MulNat.l3.once k x := by kernel_rfl
theorem pyxref1_MulNat.l3.fit (s : St U) (x : (List Int × List Int × Int × List Int)) (h : pyxref1_MulNat.l3.un s = some x) : Fits s (pyxref1_MulNat.l3.mk x) := by
  unfold pyxref1_MulNat.l3.un at h
  obtain ⟨q0, eq0, h1⟩ := Option.bind_eq_some_iff.1 h
  obtain ⟨q1, eq1, h2⟩ := Option.bind_eq_some_iff.1 h1
  obtain ⟨q2, eq2, h3⟩ := Option.bind_eq_some_iff.1 h2
  split at h3
  · cases h3
    refine fits_ren [(1003005, q2.1)] ?_ ?_ ren_one rfl
    · exact List.forall_mem_cons.2 ⟨FV.one (row_i64_fit eq0), List.forall_mem_cons.2 ⟨FV.one (row_i64_fit eq1), List.forall_mem_cons.2 ⟨FV.one (vec_i64_fit eq2 rfl).1, List.forall_mem_cons.2 ⟨FV.one (FV.same (by assumption) rfl), fun _ hp => (List.not_mem_nil hp).elim⟩⟩⟩⟩
    · exact List.forall_mem_cons.2 ⟨(vec_i64_fit eq2 rfl).2, fun _ hp => (List.not_mem_nil hp).elim⟩
  · cases h3
theorem pyxref1_MulNat.l3.fitO (o : Out U) (y : List Int) (h : pyxref1_MulNat.l3.re o = some y) : FitsO o (pyxref1_MulNat.l3.fin y) := by
  unfold pyxref1_MulNat.l3.re at h
  split at h
  · obtain ⟨q0, eq0, h1⟩ := Option.bind_eq_some_iff.1 h
    cases h1
    refine fitsO_exit (fits_ren [(1003005, q0.1)] ?_ ?_ ren_one rfl)
    · exact List.forall_mem_cons.2 ⟨FV.one (vec_i64_fit eq0 rfl).1, fun _ hp => (List.not_mem_nil hp).elim⟩
    · exact List.forall_mem_cons.2 ⟨(vec_i64_fit eq0 rfl).2, fun _ hp => (List.not_mem_nil hp).elim⟩
  · cases h
theorem pyxref1_MulNat.l3.sound (k : Nat) : LSound (pyxref1_MulNat.E k) Try.f112.ntmps Try.f112 (loopAt Try.f112 3) (pyxref1_MulNat.l3.L k) :=
  loop_sound (pyxref1_MulNat.ok k) mixed rfl (by kernel_rfl) (allL_of (l := [loopAt Try.f112 7]) (by kernel_rfl) (allL_cons (key := 7) (by kernel_rfl) rfl (pyxref1_MulNat.l7.sound k) allL_nil)) pyxref1_MulNat.l3.un pyxref1_MulNat.l3.mk pyxref1_MulNat.l3.fin pyxref1_MulNat.l3.re (pyxref1_MulNat.l3.once k) k pyxref1_MulNat.l3.fit pyxref1_MulNat.l3.fitO (pyxref1_MulNat.l3.eq k) pyxref1_MulNat.l3.finK pyxref1_MulNat.l3.finK_eq
theorem pyxref1_MulNat.eq (k : Nat) (x : (List Int × List Int)) : runF (pyxref1_MulNat.E k) (codeOf Try.f112) (pyxref1_MulNat.mk x) pyxref1_MulNat.re = (pyxref1_MulNat.D k).f x := by kernel_rfl
theorem pyxref1_MulNat.fit (s : St U) (x : (List Int × List Int)) (h : pyxref1_MulNat.un s = some x) : Fits s (pyxref1_MulNat.mk x) := by
  unfold pyxref1_MulNat.un at h
  split at h
  · cases h
    refine fits_ren [] ?_ ?_ ren_nil rfl
    · exact List.forall_mem_cons.2 ⟨FV.one (FV.same (by assumption) rfl), List.forall_mem_cons.2 ⟨FV.one (FV.same (by assumption) rfl), fun _ hp => (List.not_mem_nil hp).elim⟩⟩
    · exact fun _ hp => (List.not_mem_nil hp).elim
  · cases h
theorem pyxref1_MulNat.fitR (s : St U) (y : List Int) (h : pyxref1_MulNat.re s = some y) : Fits s (pyxref1_MulNat.fin y) := by
  unfold pyxref1_MulNat.re at h
  split at h
  · cases h
    refine fits_ren [] ?_ ?_ ren_nil rfl
    · exact List.forall_mem_cons.2 ⟨FV.one (FV.same (by assumption) rfl), fun _ hp => (List.not_mem_nil hp).elim⟩
    · exact fun _ hp => (List.not_mem_nil hp).elim
  · cases h
theorem pyxref1_MulNat.sound (k : Nat) : Sound Try.prog DD 112 (pyxref1_MulNat.D k) :=
  fun_sound (E := pyxref1_MulNat.E k) (fn := Try.f112) (c := codeOf Try.f112) (pyxref1_MulNat.ok k) mixed rfl Try.func112 (by kernel_rfl) (by kernel_rfl) (allL_of (l := [loopAt Try.f112 3]) (by kernel_rfl) (allL_cons (key := 3) (by kernel_rfl) rfl (pyxref1_MulNat.l3.sound k) allL_nil)) (pyxref1_MulNat.D k) pyxref1_MulNat.mk pyxref1_MulNat.re (by kernel_rfl) (by kernel_rfl) pyxref1_MulNat.fit pyxref1_MulNat.fitR (pyxref1_MulNat.eq k)
/-! ### pyx/pyxref1.Nat2: function 113 -/
noncomputable def pyxref1_Nat2.f (k : Nat) (a0 : (Int × Int)) : Option (List Int) := (pyxref1_Word.f k a0.2).bind fun t1 => ((pyxref1_radix.f k).bind fun t2 => ((pyxref1_MulNat.f k t1 t2).bind fun t3 => ((pyxref1_Word.f k a0.1).bind fun t4 => ((pyxref1_AddNat.f k t3 t4).bind fun t5 => (some t5)))))
noncomputable def pyxref1_Nat2.un (s : St U) : Option (Int × Int) := match s.get 0 with | .agg [.flat (.int .u64 x1), .flat (.int .u64 x2)] => some (x1, x2) | _ => none
noncomputable def pyxref1_Nat2.mk (x : (Int × Int)) : St U := ⟨[(0, .agg [.flat (.int .u64 x.1), .flat (.int .u64 x.2)])], []⟩
noncomputable def pyxref1_Nat2.fin (y : List Int) : St U := ⟨[(0, .row C.i64 y)], []⟩
noncomputable def pyxref1_Nat2.D (k : Nat) : FDen U := { X := (Int × Int), Y := List Int, nt := 12, gh := [], un := pyxref1_Nat2.un, f := fun x => pyxref1_Nat2.f k (x), fin := pyxref1_Nat2.fin, cl := true, clo := fun _ _ => rfl }
noncomputable def pyxref1_Nat2.re (s : St U) : Option (List Int) := match s.get 0 with | .row C.i64 x1 => some x1 | _ => none
noncomputable def pyxref1_Nat2.jl : List (Nat × JDen U) := []
noncomputable def pyxref1_Nat2.fl (k : Nat) : List (Nat × FDen U) := [(59, pyxref1_Word.D k), (138, pyxref1_radix.D k), (112, pyxref1_MulNat.D k), (117, pyxref1_AddNat.D k)]
noncomputable def pyxref1_Nat2.ll (k : Nat) : List (Nat × LDen U) := []
noncomputable def pyxref1_Nat2.E (k : Nat) : Env U := { P := Try.prog, D := DD, fd := lk (pyxref1_Nat2.fl k), ld := lk (pyxref1_Nat2.ll k), jd := lk pyxref1_Nat2.jl, mode := lk [], elc := lk ec, mpc := lk mc, rts := Try.f113.resultTypes.toList, dyn := fun t => false, vecs := fun d => false, results := Try.f113.results.toList, gh := [], own := false, io := fun g i => false }
theorem pyxref1_Nat2.ok (k : Nat) : EnvOk (pyxref1_Nat2.E k) := envOk lawful (pyxref1_Nat2.fl k) (pyxref1_Nat2.ll k) pyxref1_Nat2.jl _ _ _ _ _ _ _ _ _ _ (by
  intro p hp
  simp only [pyxref1_Nat2.fl, List.mem_cons, List.not_mem_nil, or_false] at hp
  rcases hp with rfl | rfl | rfl | rfl
  · exact ⟨pyxref1_Word.sound k, enter_of Try.func59 (by kernel_rfl) (by kernel_rfl)⟩
  · exact ⟨pyxref1_radix.sound k, enter_of Try.func138 (by kernel_rfl) (by kernel_rfl)⟩
  · exact ⟨pyxref1_MulNat.sound k, enter_of Try.func112 (by kernel_rfl) (by kernel_rfl)⟩
  · exact ⟨pyxref1_AddNat.sound k, enter_of Try.func117 (by kernel_rfl) (by kernel_rfl)⟩) (by
  intro p hp
  simp [pyxref1_Nat2.jl] at hp)
theorem pyxref1_Nat2.eq (k : Nat) (x : (Int × Int)) : runF (pyxref1_Nat2.E k) (codeOf Try.f113) (pyxref1_Nat2.mk x) pyxref1_Nat2.re = (pyxref1_Nat2.D k).f x := by kernel_rfl
theorem pyxref1_Nat2.fit (s : St U) (x : (Int × Int)) (h : pyxref1_Nat2.un s = some x) : Fits s (pyxref1_Nat2.mk x) := by
  unfold pyxref1_Nat2.un at h
  split at h
  · cases h
    refine fits_ren [] ?_ ?_ ren_nil rfl
    · exact List.forall_mem_cons.2 ⟨FV.one (FV.same (by assumption) rfl), fun _ hp => (List.not_mem_nil hp).elim⟩
    · exact fun _ hp => (List.not_mem_nil hp).elim
  · cases h
theorem pyxref1_Nat2.fitR (s : St U) (y : List Int) (h : pyxref1_Nat2.re s = some y) : Fits s (pyxref1_Nat2.fin y) := by
  unfold pyxref1_Nat2.re at h
  split at h
  · cases h
    refine fits_ren [] ?_ ?_ ren_nil rfl
    · exact List.forall_mem_cons.2 ⟨FV.one (FV.same (by assumption) rfl), fun _ hp => (List.not_mem_nil hp).elim⟩
    · exact fun _ hp => (List.not_mem_nil hp).elim
  · cases h
theorem pyxref1_Nat2.sound (k : Nat) : Sound Try.prog DD 113 (pyxref1_Nat2.D k) :=
  fun_sound (E := pyxref1_Nat2.E k) (fn := Try.f113) (c := codeOf Try.f113) (pyxref1_Nat2.ok k) mixed rfl Try.func113 (by kernel_rfl) (by kernel_rfl) (allL_of (l := []) (by kernel_rfl) allL_nil) (pyxref1_Nat2.D k) pyxref1_Nat2.mk pyxref1_Nat2.re (by kernel_rfl) (by kernel_rfl) pyxref1_Nat2.fit pyxref1_Nat2.fitR (pyxref1_Nat2.eq k)
/-! ### pyx/pyxref1.RightDec: function 104 -/
noncomputable def pyxref1_RightDec.f (k : Nat) (a0 : Sapi_Dec) : Option Bool := (pyxref1_Nat2.f k (a0.f_C.1, a0.f_C.2)).bind fun t1 => (cond (decide ((List.length t1 : Int) ≤ 30)) (cond (decide (a0.f_Scale ≥ 0)) (cond (decide (a0.f_Scale ≤ 9)) (cond (a0.f_Neg) (some (!((List.length t1 : Int) == 0))) (some true)) (some false)) (some false)) (some false))
noncomputable def pyxref1_RightDec.un (s : St U) : Option Sapi_Dec := match s.get 0 with | .agg [.flat (.bool x1), .flat (.int .u64 x2), .flat (.int .u64 x3), .flat (.int .i64 x4)] => some (⟨x1, (x2, x3), x4⟩ : Sapi_Dec) | _ => none
noncomputable def pyxref1_RightDec.mk (x : Sapi_Dec) : St U := ⟨[(0, .agg [.flat (.bool x.f_Neg), .flat (.int .u64 x.f_C.1), .flat (.int .u64 x.f_C.2), .flat (.int .i64 x.f_Scale)])], []⟩
noncomputable def pyxref1_RightDec.fin (y : Bool) : St U := ⟨[(0, .flat (.bool y))], []⟩
noncomputable def pyxref1_RightDec.D (k : Nat) : FDen U := { X := Sapi_Dec, Y := Bool, nt := 30, gh := [], un := pyxref1_RightDec.un, f := fun x => pyxref1_RightDec.f k (x), fin := pyxref1_RightDec.fin, cl := true, clo := fun _ _ => rfl }
noncomputable def pyxref1_RightDec.re (s : St U) : Option Bool := match s.get 0 with | .flat (.bool x1) => some x1 | _ => none
noncomputable def pyxref1_RightDec.jl : List (Nat × JDen U) := []
noncomputable def pyxref1_RightDec.fl (k : Nat) : List (Nat × FDen U) := [(113, pyxref1_Nat2.D k)]
noncomputable def pyxref1_RightDec.ll (k : Nat) : List (Nat × LDen U) := []
noncomputable def pyxref1_RightDec.E (k : Nat) : Env U := { P := Try.prog, D := DD, fd := lk (pyxref1_RightDec.fl k), ld := lk (pyxref1_RightDec.ll k), jd := lk pyxref1_RightDec.jl, mode := lk [], elc := lk ec, mpc := lk mc, rts := Try.f104.resultTypes.toList, dyn := fun t => false, vecs := fun d => false, results := Try.f104.results.toList, gh := [], own := false, io := fun g i => false }
theorem pyxref1_RightDec.ok (k : Nat) : EnvOk (pyxref1_RightDec.E k) := envOk lawful (pyxref1_RightDec.fl k) (pyxref1_RightDec.ll k) pyxref1_RightDec.jl _ _ _ _ _ _ _ _ _ _ (by
  intro p hp
  simp only [pyxref1_RightDec.fl, List.mem_cons, List.not_mem_nil, or_false] at hp
  rcases hp with rfl
  · exact ⟨pyxref1_Nat2.sound k, enter_of Try.func113 (by kernel_rfl) (by kernel_rfl)⟩) (by
  intro p hp
  simp [pyxref1_RightDec.jl] at hp)
theorem pyxref1_RightDec.eq (k : Nat) (x : Sapi_Dec) : runF (pyxref1_RightDec.E k) (codeOf Try.f104) (pyxref1_RightDec.mk x) pyxref1_RightDec.re = (pyxref1_RightDec.D k).f x := by kernel_rfl
theorem pyxref1_RightDec.fit (s : St U) (x : Sapi_Dec) (h : pyxref1_RightDec.un s = some x) : Fits s (pyxref1_RightDec.mk x) := by
  unfold pyxref1_RightDec.un at h
  split at h
  · cases h
    refine fits_ren [] ?_ ?_ ren_nil rfl
    · exact List.forall_mem_cons.2 ⟨FV.one (FV.same (by assumption) rfl), fun _ hp => (List.not_mem_nil hp).elim⟩
    · exact fun _ hp => (List.not_mem_nil hp).elim
  · cases h
theorem pyxref1_RightDec.fitR (s : St U) (y : Bool) (h : pyxref1_RightDec.re s = some y) : Fits s (pyxref1_RightDec.fin y) := by
  unfold pyxref1_RightDec.re at h
  split at h
  · cases h
    refine fits_ren [] ?_ ?_ ren_nil rfl
    · exact List.forall_mem_cons.2 ⟨FV.one (FV.same (by assumption) rfl), fun _ hp => (List.not_mem_nil hp).elim⟩
    · exact fun _ hp => (List.not_mem_nil hp).elim
  · cases h
theorem pyxref1_RightDec.sound (k : Nat) : Sound Try.prog DD 104 (pyxref1_RightDec.D k) :=
  fun_sound (E := pyxref1_RightDec.E k) (fn := Try.f104) (c := codeOf Try.f104) (pyxref1_RightDec.ok k) mixed rfl Try.func104 (by kernel_rfl) (by kernel_rfl) (allL_of (l := []) (by kernel_rfl) allL_nil) (pyxref1_RightDec.D k) pyxref1_RightDec.mk pyxref1_RightDec.re (by kernel_rfl) (by kernel_rfl) pyxref1_RightDec.fit pyxref1_RightDec.fitR (pyxref1_RightDec.eq k)
/-! ### pyx/pyxref1.Sign: function 68 -/
noncomputable def pyxref1_Sign.f (k : Nat) (a0 : Sapi_Dec) : Option Int := (((pyxref1_RightDec.f k (⟨a0.f_Neg, (a0.f_C.1, a0.f_C.2), a0.f_Scale⟩ : Sapi_Dec)).bind fun t1 => (cond (!t1) (some (true, a0.f_Neg, a0.f_C.1, a0.f_C.2, a0.f_Scale)) (some ((a0.f_C.1 == 0) && (a0.f_C.2 == 0), a0.f_Neg, a0.f_C.1, a0.f_C.2, a0.f_Scale)))) : Option (Bool × Bool × Int × Int × Int)).bind fun y7 => (cond (y7.1) (some 0) (cond (y7.2.1) (some (-1)) (some 1)))
noncomputable def pyxref1_Sign.un (s : St U) : Option Sapi_Dec := match s.get 0 with | .agg [.flat (.bool x1), .flat (.int .u64 x2), .flat (.int .u64 x3), .flat (.int .i64 x4)] => some (⟨x1, (x2, x3), x4⟩ : Sapi_Dec) | _ => none
noncomputable def pyxref1_Sign.mk (x : Sapi_Dec) : St U := ⟨[(0, .agg [.flat (.bool x.f_Neg), .flat (.int .u64 x.f_C.1), .flat (.int .u64 x.f_C.2), .flat (.int .i64 x.f_Scale)])], []⟩
noncomputable def pyxref1_Sign.fin (y : Int) : St U := ⟨[(0, .flat (.int .i64 y))], []⟩
noncomputable def pyxref1_Sign.D (k : Nat) : FDen U := { X := Sapi_Dec, Y := Int, nt := 16, gh := [], un := pyxref1_Sign.un, f := fun x => pyxref1_Sign.f k (x), fin := pyxref1_Sign.fin, cl := true, clo := fun _ _ => rfl }
noncomputable def pyxref1_Sign.re (s : St U) : Option Int := match s.get 0 with | .flat (.int .i64 x1) => some x1 | _ => none
noncomputable def pyxref1_Sign.j1000.fin (y : (Bool × Bool × Int × Int × Int)) : Out U := match y with | (x6, x2, x3, x4, x5) => .norm ⟨[(1, .ptr 1 0), (3, .flat (.bool x6))], [(1, .lit [.flat (.bool x2), .flat (.int .u64 x3), .flat (.int .u64 x4), .flat (.int .i64 x5)])]⟩
noncomputable def pyxref1_Sign.j1000.finK {ρ : Type} (y : (Bool × Bool × Int × Int × Int)) (K : Out U → Option ρ) : Option ρ := match y with | (x6, x2, x3, x4, x5) => K (.norm ⟨[(1, .ptr 1 0), (3, .flat (.bool x6))], [(1, .lit [.flat (.bool x2), .flat (.int .u64 x3), .flat (.int .u64 x4), .flat (.int .i64 x5)])]⟩)
theorem pyxref1_Sign.j1000.finK_eq {ρ : Type} (y : (Bool × Bool × Int × Int × Int)) (K : Out U → Option ρ) : pyxref1_Sign.j1000.finK y K = K (pyxref1_Sign.j1000.fin y) := by
  unfold pyxref1_Sign.j1000.finK pyxref1_Sign.j1000.fin
  first | rfl | (split <;> rfl)
noncomputable def pyxref1_Sign.j1000.re : Out U → Option ((Bool × Bool × Int × Int × Int)) | .norm s => (match s.get 1, s.get 3, lk s.o 1 with | .ptr 1 0, .flat (.bool x6), some (.lit [.flat (.bool x2), .flat (.int .u64 x3), .flat (.int .u64 x4), .flat (.int .i64 x5)]) => some (x6, x2, x3, x4, x5) | _, _, _ => none) | _ => none
noncomputable def pyxref1_Sign.j1000.J : JDen U := { Y := (Bool × Bool × Int × Int × Int), re := pyxref1_Sign.j1000.re, fin := pyxref1_Sign.j1000.fin, finK := pyxref1_Sign.j1000.finK, finK_eq := pyxref1_Sign.j1000.finK_eq }
theorem pyxref1_Sign.j1000.fit (o : Out U) (y : (Bool × Bool × Int × Int × Int)) (h : pyxref1_Sign.j1000.re o = some y) : FitsO o (pyxref1_Sign.j1000.fin y) := by
  unfold pyxref1_Sign.j1000.re at h
  split at h
  · split at h
    · cases h
      refine fitsO_norm (fits_ren [] ?_ ?_ ren_nil rfl)
      · exact List.forall_mem_cons.2 ⟨FV.one (FV.ptr (by assumption)), List.forall_mem_cons.2 ⟨FV.one (FV.same (by assumption) rfl), fun _ hp => (List.not_mem_nil hp).elim⟩⟩
      · exact List.forall_mem_cons.2 ⟨(FO.same (show lk (St.o _) 1 = some _ from by assumption) rfl), fun _ hp => (List.not_mem_nil hp).elim⟩
    · cases h
  · cases h
noncomputable def pyxref1_Sign.jl : List (Nat × JDen U) := [(1000, pyxref1_Sign.j1000.J)]
noncomputable def pyxref1_Sign.fl (k : Nat) : List (Nat × FDen U) := [(104, pyxref1_RightDec.D k)]
noncomputable def pyxref1_Sign.ll (k : Nat) : List (Nat × LDen U) := []
noncomputable def pyxref1_Sign.E (k : Nat) : Env U := { P := Try.prog, D := DD, fd := lk (pyxref1_Sign.fl k), ld := lk (pyxref1_Sign.ll k), jd := lk pyxref1_Sign.jl, mode := lk [], elc := lk ec, mpc := lk mc, rts := Try.f68.resultTypes.toList, dyn := fun t => false, vecs := fun d => false, results := Try.f68.results.toList, gh := [], own := false, io := fun g i => false }
theorem pyxref1_Sign.ok (k : Nat) : EnvOk (pyxref1_Sign.E k) := envOk lawful (pyxref1_Sign.fl k) (pyxref1_Sign.ll k) pyxref1_Sign.jl _ _ _ _ _ _ _ _ _ _ (by
  intro p hp
  simp only [pyxref1_Sign.fl, List.mem_cons, List.not_mem_nil, or_false] at hp
  rcases hp with rfl
  · exact ⟨pyxref1_RightDec.sound k, enter_of Try.func104 (by kernel_rfl) (by kernel_rfl)⟩) (by
  intro p hp
  simp only [pyxref1_Sign.jl, List.mem_cons, List.not_mem_nil, or_false] at hp
  rcases hp with rfl
  · exact pyxref1_Sign.j1000.fit)
theorem pyxref1_Sign.eq (k : Nat) (x : Sapi_Dec) : runF (pyxref1_Sign.E k) (codeOf Try.f68) (pyxref1_Sign.mk x) pyxref1_Sign.re = (pyxref1_Sign.D k).f x := by kernel_rfl
theorem pyxref1_Sign.fit (s : St U) (x : Sapi_Dec) (h : pyxref1_Sign.un s = some x) : Fits s (pyxref1_Sign.mk x) := by
  unfold pyxref1_Sign.un at h
  split at h
  · cases h
    refine fits_ren [] ?_ ?_ ren_nil rfl
    · exact List.forall_mem_cons.2 ⟨FV.one (FV.same (by assumption) rfl), fun _ hp => (List.not_mem_nil hp).elim⟩
    · exact fun _ hp => (List.not_mem_nil hp).elim
  · cases h
theorem pyxref1_Sign.fitR (s : St U) (y : Int) (h : pyxref1_Sign.re s = some y) : Fits s (pyxref1_Sign.fin y) := by
  unfold pyxref1_Sign.re at h
  split at h
  · cases h
    refine fits_ren [] ?_ ?_ ren_nil rfl
    · exact List.forall_mem_cons.2 ⟨FV.one (FV.same (by assumption) rfl), fun _ hp => (List.not_mem_nil hp).elim⟩
    · exact fun _ hp => (List.not_mem_nil hp).elim
  · cases h
theorem pyxref1_Sign.sound (k : Nat) : Sound Try.prog DD 68 (pyxref1_Sign.D k) :=
  fun_sound (E := pyxref1_Sign.E k) (fn := Try.f68) (c := codeOf Try.f68) (pyxref1_Sign.ok k) mixed rfl Try.func68 (by kernel_rfl) (by kernel_rfl) (allL_of (l := []) (by kernel_rfl) allL_nil) (pyxref1_Sign.D k) pyxref1_Sign.mk pyxref1_Sign.re (by kernel_rfl) (by kernel_rfl) pyxref1_Sign.fit pyxref1_Sign.fitR (pyxref1_Sign.eq k)
/-! ### pyx/pyxref1.TenNat: function 114 -/
noncomputable def pyxref1_TenNat.f (k : Nat) (a0 : Int) : Option (List Int) := cond ((decide (0 ≤ IntKind.wrap .i64 (a0 + 1)) && decide (IntKind.wrap .i64 (a0 + 1) = IntKind.wrap .i64 (a0 + 1))) && decide ((IntKind.wrap .i64 (a0 + 1)) * 8 ≤ 140737488355328)) (cond (inb a0 (List.length (List.replicate (Int.toNat (IntKind.wrap .i64 (a0 + 1))) (0 : Int)))) (cond (Nat.blt (Int.toNat a0) (List.length (List.replicate (Int.toNat (IntKind.wrap .i64 (a0 + 1))) (0 : Int)))) (some (List.set (List.replicate (Int.toNat (IntKind.wrap .i64 (a0 + 1))) (0 : Int)) (Int.toNat a0) 1)) none) none) none
noncomputable def pyxref1_TenNat.un (s : St U) : Option Int := match s.get 0 with | .flat (.int .i64 x1) => some x1 | _ => none
noncomputable def pyxref1_TenNat.mk (x : Int) : St U := ⟨[(0, .flat (.int .i64 x))], []⟩
noncomputable def pyxref1_TenNat.fin (y : List Int) : St U := ⟨[(0, .row C.i64 y)], []⟩
noncomputable def pyxref1_TenNat.D (k : Nat) : FDen U := { X := Int, Y := List Int, nt := 11, gh := [], un := pyxref1_TenNat.un, f := fun x => pyxref1_TenNat.f k (x), fin := pyxref1_TenNat.fin, cl := true, clo := fun _ _ => rfl }
noncomputable def pyxref1_TenNat.re (s : St U) : Option (List Int) := match s.get 0 with | .row C.i64 x1 => some x1 | _ => none
noncomputable def pyxref1_TenNat.jl : List (Nat × JDen U) := []
noncomputable def pyxref1_TenNat.fl (k : Nat) : List (Nat × FDen U) := []
noncomputable def pyxref1_TenNat.ll (k : Nat) : List (Nat × LDen U) := []
noncomputable def pyxref1_TenNat.E (k : Nat) : Env U := { P := Try.prog, D := DD, fd := lk (pyxref1_TenNat.fl k), ld := lk (pyxref1_TenNat.ll k), jd := lk pyxref1_TenNat.jl, mode := lk [], elc := lk ec, mpc := lk mc, rts := Try.f114.resultTypes.toList, dyn := fun t => false, vecs := fun d => Nat.beq d 6, results := Try.f114.results.toList, gh := [], own := false, io := fun g i => false }
theorem pyxref1_TenNat.ok (k : Nat) : EnvOk (pyxref1_TenNat.E k) := envOk lawful (pyxref1_TenNat.fl k) (pyxref1_TenNat.ll k) pyxref1_TenNat.jl _ _ _ _ _ _ _ _ _ _ (by
  intro p hp
  simp [pyxref1_TenNat.fl] at hp) (by
  intro p hp
  simp [pyxref1_TenNat.jl] at hp)
theorem pyxref1_TenNat.eq (k : Nat) (x : Int) : runF (pyxref1_TenNat.E k) (codeOf Try.f114) (pyxref1_TenNat.mk x) pyxref1_TenNat.re = (pyxref1_TenNat.D k).f x := by kernel_rfl
theorem pyxref1_TenNat.fit (s : St U) (x : Int) (h : pyxref1_TenNat.un s = some x) : Fits s (pyxref1_TenNat.mk x) := by
  unfold pyxref1_TenNat.un at h
  split at h
  · cases h
    refine fits_ren [] ?_ ?_ ren_nil rfl
    · exact List.forall_mem_cons.2 ⟨FV.one (FV.same (by assumption) rfl), fun _ hp => (List.not_mem_nil hp).elim⟩
    · exact fun _ hp => (List.not_mem_nil hp).elim
  · cases h
theorem pyxref1_TenNat.fitR (s : St U) (y : List Int) (h : pyxref1_TenNat.re s = some y) : Fits s (pyxref1_TenNat.fin y) := by
  unfold pyxref1_TenNat.re at h
  split at h
  · cases h
    refine fits_ren [] ?_ ?_ ren_nil rfl
    · exact List.forall_mem_cons.2 ⟨FV.one (FV.same (by assumption) rfl), fun _ hp => (List.not_mem_nil hp).elim⟩
    · exact fun _ hp => (List.not_mem_nil hp).elim
  · cases h
theorem pyxref1_TenNat.sound (k : Nat) : Sound Try.prog DD 114 (pyxref1_TenNat.D k) :=
  fun_sound (E := pyxref1_TenNat.E k) (fn := Try.f114) (c := codeOf Try.f114) (pyxref1_TenNat.ok k) mixed rfl Try.func114 (by kernel_rfl) (by kernel_rfl) (allL_of (l := []) (by kernel_rfl) allL_nil) (pyxref1_TenNat.D k) pyxref1_TenNat.mk pyxref1_TenNat.re (by kernel_rfl) (by kernel_rfl) pyxref1_TenNat.fit pyxref1_TenNat.fitR (pyxref1_TenNat.eq k)
/-! ### pyx/pyxref1.digits: function 116 -/
noncomputable def pyxref1_digits.f (k : Nat) (a0 : Sapi_Dec) (a1 : Int) : Option (List Int) := (pyxref1_Nat2.f k (a0.f_C.1, a0.f_C.2)).bind fun t1 => ((pyxref1_TenNat.f k (IntKind.wrap .i64 (a1 - a0.f_Scale))).bind fun t2 => ((pyxref1_MulNat.f k t1 t2).bind fun t3 => (some t3)))
noncomputable def pyxref1_digits.un (s : St U) : Option (Sapi_Dec × Int) := match s.get 0, s.get 1 with | .agg [.flat (.bool x1), .flat (.int .u64 x2), .flat (.int .u64 x3), .flat (.int .i64 x4)], .flat (.int .i64 x5) => some ((⟨x1, (x2, x3), x4⟩ : Sapi_Dec), x5) | _, _ => none
noncomputable def pyxref1_digits.mk (x : (Sapi_Dec × Int)) : St U := ⟨[(0, .agg [.flat (.bool x.1.f_Neg), .flat (.int .u64 x.1.f_C.1), .flat (.int .u64 x.1.f_C.2), .flat (.int .i64 x.1.f_Scale)]), (1, .flat (.int .i64 x.2))], []⟩
noncomputable def pyxref1_digits.fin (y : List Int) : St U := ⟨[(0, .row C.i64 y)], []⟩
noncomputable def pyxref1_digits.D (k : Nat) : FDen U := { X := (Sapi_Dec × Int), Y := List Int, nt := 14, gh := [], un := pyxref1_digits.un, f := fun x => pyxref1_digits.f k (x.1) (x.2), fin := pyxref1_digits.fin, cl := true, clo := fun _ _ => rfl }
noncomputable def pyxref1_digits.re (s : St U) : Option (List Int) := match s.get 0 with | .row C.i64 x1 => some x1 | _ => none
noncomputable def pyxref1_digits.jl : List (Nat × JDen U) := []
noncomputable def pyxref1_digits.fl (k : Nat) : List (Nat × FDen U) := [(113, pyxref1_Nat2.D k), (114, pyxref1_TenNat.D k), (112, pyxref1_MulNat.D k)]
noncomputable def pyxref1_digits.ll (k : Nat) : List (Nat × LDen U) := []
noncomputable def pyxref1_digits.E (k : Nat) : Env U := { P := Try.prog, D := DD, fd := lk (pyxref1_digits.fl k), ld := lk (pyxref1_digits.ll k), jd := lk pyxref1_digits.jl, mode := lk [], elc := lk ec, mpc := lk mc, rts := Try.f116.resultTypes.toList, dyn := fun t => false, vecs := fun d => false, results := Try.f116.results.toList, gh := [], own := false, io := fun g i => false }
theorem pyxref1_digits.ok (k : Nat) : EnvOk (pyxref1_digits.E k) := envOk lawful (pyxref1_digits.fl k) (pyxref1_digits.ll k) pyxref1_digits.jl _ _ _ _ _ _ _ _ _ _ (by
  intro p hp
  simp only [pyxref1_digits.fl, List.mem_cons, List.not_mem_nil, or_false] at hp
  rcases hp with rfl | rfl | rfl
  · exact ⟨pyxref1_Nat2.sound k, enter_of Try.func113 (by kernel_rfl) (by kernel_rfl)⟩
  · exact ⟨pyxref1_TenNat.sound k, enter_of Try.func114 (by kernel_rfl) (by kernel_rfl)⟩
  · exact ⟨pyxref1_MulNat.sound k, enter_of Try.func112 (by kernel_rfl) (by kernel_rfl)⟩) (by
  intro p hp
  simp [pyxref1_digits.jl] at hp)
theorem pyxref1_digits.eq (k : Nat) (x : (Sapi_Dec × Int)) : runF (pyxref1_digits.E k) (codeOf Try.f116) (pyxref1_digits.mk x) pyxref1_digits.re = (pyxref1_digits.D k).f x := by kernel_rfl
theorem pyxref1_digits.fit (s : St U) (x : (Sapi_Dec × Int)) (h : pyxref1_digits.un s = some x) : Fits s (pyxref1_digits.mk x) := by
  unfold pyxref1_digits.un at h
  split at h
  · cases h
    refine fits_ren [] ?_ ?_ ren_nil rfl
    · exact List.forall_mem_cons.2 ⟨FV.one (FV.same (by assumption) rfl), List.forall_mem_cons.2 ⟨FV.one (FV.same (by assumption) rfl), fun _ hp => (List.not_mem_nil hp).elim⟩⟩
    · exact fun _ hp => (List.not_mem_nil hp).elim
  · cases h
theorem pyxref1_digits.fitR (s : St U) (y : List Int) (h : pyxref1_digits.re s = some y) : Fits s (pyxref1_digits.fin y) := by
  unfold pyxref1_digits.re at h
  split at h
  · cases h
    refine fits_ren [] ?_ ?_ ren_nil rfl
    · exact List.forall_mem_cons.2 ⟨FV.one (FV.same (by assumption) rfl), fun _ hp => (List.not_mem_nil hp).elim⟩
    · exact fun _ hp => (List.not_mem_nil hp).elim
  · cases h
theorem pyxref1_digits.sound (k : Nat) : Sound Try.prog DD 116 (pyxref1_digits.D k) :=
  fun_sound (E := pyxref1_digits.E k) (fn := Try.f116) (c := codeOf Try.f116) (pyxref1_digits.ok k) mixed rfl Try.func116 (by kernel_rfl) (by kernel_rfl) (allL_of (l := []) (by kernel_rfl) allL_nil) (pyxref1_digits.D k) pyxref1_digits.mk pyxref1_digits.re (by kernel_rfl) (by kernel_rfl) pyxref1_digits.fit pyxref1_digits.fitR (pyxref1_digits.eq k)
/-! ### pyx/pyxref1.Add: function 69 -/
noncomputable def pyxref1_Add.f (k : Nat) (a0 : Sapi_Dec) (a1 : Sapi_Dec) : Option (Sapi_Dec × Int) := (((pyxref1_RightDec.f k (⟨a0.f_Neg, (a0.f_C.1, a0.f_C.2), a0.f_Scale⟩ : Sapi_Dec)).bind fun t1 => (cond (!t1) (some (true, a0.f_Neg, a0.f_C.1, a0.f_C.2, a0.f_Scale, a1.f_Neg, a1.f_C.1, a1.f_C.2, a1.f_Scale, false, 0, 0, 0)) ((pyxref1_RightDec.f k (⟨a1.f_Neg, (a1.f_C.1, a1.f_C.2), a1.f_Scale⟩ : Sapi_Dec)).bind fun t15 => (some (!t15, a0.f_Neg, a0.f_C.1, a0.f_C.2, a0.f_Scale, a1.f_Neg, a1.f_C.1, a1.f_C.2, a1.f_Scale, false, 0, 0, 0))))) : Option (Bool × Bool × Int × Int × Int × Bool × Int × Int × Int × Bool × Int × Int × Int)).bind fun y16 => (cond (y16.1) (some ((⟨false, (0, 0), 0⟩ : Sapi_Dec), 1)) ((pyxref1_digits.f k (⟨y16.2.1, (y16.2.2.1, y16.2.2.2.1), y16.2.2.2.2.1⟩ : Sapi_Dec) (if y16.2.2.2.2.2.2.2.2.1 > y16.2.2.2.2.1 then y16.2.2.2.2.2.2.2.2.1 else y16.2.2.2.2.1)).bind fun t17 => ((pyxref1_digits.f k (⟨y16.2.2.2.2.2.1, (y16.2.2.2.2.2.2.1, y16.2.2.2.2.2.2.2.1), y16.2.2.2.2.2.2.2.2.1⟩ : Sapi_Dec) (if y16.2.2.2.2.2.2.2.2.1 > y16.2.2.2.2.1 then y16.2.2.2.2.2.2.2.2.1 else y16.2.2.2.2.1)).bind fun t18 => (cond (y16.2.1 == y16.2.2.2.2.2.1) ((pyxref1_AddNat.f k t17 t18).bind fun t19 => ((pyxref1_Make.f k y16.2.1 t19 (if y16.2.2.2.2.2.2.2.2.1 > y16.2.2.2.2.1 then y16.2.2.2.2.2.2.2.2.1 else y16.2.2.2.2.1)).bind fun t20 => (some ((⟨t20.1.f_Neg, (t20.1.f_C.1, t20.1.f_C.2), t20.1.f_Scale⟩ : Sapi_Dec), t20.2)))) ((pyxref1_CmpNat.f k t17 t18).bind fun t21 => (cond (decide (t21 ≥ 0)) ((pyxref1_SubNat.f k t17 t18).bind fun t22 => ((pyxref1_Make.f k y16.2.1 t22 (if y16.2.2.2.2.2.2.2.2.1 > y16.2.2.2.2.1 then y16.2.2.2.2.2.2.2.2.1 else y16.2.2.2.2.1)).bind fun t23 => (some ((⟨t23.1.f_Neg, (t23.1.f_C.1, t23.1.f_C.2), t23.1.f_Scale⟩ : Sapi_Dec), t23.2)))) ((pyxref1_SubNat.f k t18 t17).bind fun t24 => ((pyxref1_Make.f k y16.2.2.2.2.2.1 t24 (if y16.2.2.2.2.2.2.2.2.1 > y16.2.2.2.2.1 then y16.2.2.2.2.2.2.2.2.1 else y16.2.2.2.2.1)).bind fun t25 => (some ((⟨t25.1.f_Neg, (t25.1.f_C.1, t25.1.f_C.2), t25.1.f_Scale⟩ : Sapi_Dec), t25.2))))))))))
noncomputable def pyxref1_Add.un (s : St U) : Option (Sapi_Dec × Sapi_Dec) := match s.get 0, s.get 1 with | .agg [.flat (.bool x1), .flat (.int .u64 x2), .flat (.int .u64 x3), .flat (.int .i64 x4)], .agg [.flat (.bool x5), .flat (.int .u64 x6), .flat (.int .u64 x7), .flat (.int .i64 x8)] => some ((⟨x1, (x2, x3), x4⟩ : Sapi_Dec), (⟨x5, (x6, x7), x8⟩ : Sapi_Dec)) | _, _ => none
noncomputable def pyxref1_Add.mk (x : (Sapi_Dec × Sapi_Dec)) : St U := ⟨[(0, .agg [.flat (.bool x.1.f_Neg), .flat (.int .u64 x.1.f_C.1), .flat (.int .u64 x.1.f_C.2), .flat (.int .i64 x.1.f_Scale)]), (1, .agg [.flat (.bool x.2.f_Neg), .flat (.int .u64 x.2.f_C.1), .flat (.int .u64 x.2.f_C.2), .flat (.int .i64 x.2.f_Scale)])], []⟩
noncomputable def pyxref1_Add.fin (y : (Sapi_Dec × Int)) : St U := ⟨[(0, .tup [.agg [.flat (.bool y.1.f_Neg), .flat (.int .u64 y.1.f_C.1), .flat (.int .u64 y.1.f_C.2), .flat (.int .i64 y.1.f_Scale)], .flat (.int .i64 y.2)])], []⟩
noncomputable def pyxref1_Add.D (k : Nat) : FDen U := { X := (Sapi_Dec × Sapi_Dec), Y := (Sapi_Dec × Int), nt := 67, gh := [], un := pyxref1_Add.un, f := fun x => pyxref1_Add.f k (x.1) (x.2), fin := pyxref1_Add.fin, cl := true, clo := fun _ _ => rfl }
noncomputable def pyxref1_Add.re (s : St U) : Option (Sapi_Dec × Int) := match s.get 0 with | .tup [.agg [.flat (.bool x1), .flat (.int .u64 x2), .flat (.int .u64 x3), .flat (.int .i64 x4)], .flat (.int .i64 x5)] => some ((⟨x1, (x2, x3), x4⟩ : Sapi_Dec), x5) | _ => none
noncomputable def pyxref1_Add.j1000.fin (y : (Bool × Bool × Int × Int × Int × Bool × Int × Int × Int × Bool × Int × Int × Int)) : Out U := match y with | (x14, x2, x3, x4, x5, x6, x7, x8, x9, x10, x11, x12, x13) => .norm ⟨[(2, .ptr 2 0), (3, .ptr 3 0), (4, .ptr 4 0), (16, .flat (.bool x14))], [(2, .lit [.flat (.bool x2), .flat (.int .u64 x3), .flat (.int .u64 x4), .flat (.int .i64 x5)]), (3, .lit [.flat (.bool x6), .flat (.int .u64 x7), .flat (.int .u64 x8), .flat (.int .i64 x9)]), (4, .lit [.flat (.bool x10), .flat (.int .u64 x11), .flat (.int .u64 x12), .flat (.int .i64 x13)])]⟩
noncomputable def pyxref1_Add.j1000.finK {ρ : Type} (y : (Bool × Bool × Int × Int × Int × Bool × Int × Int × Int × Bool × Int × Int × Int)) (K : Out U → Option ρ) : Option ρ := match y with | (x14, x2, x3, x4, x5, x6, x7, x8, x9, x10, x11, x12, x13) => K (.norm ⟨[(2, .ptr 2 0), (3, .ptr 3 0), (4, .ptr 4 0), (16, .flat (.bool x14))], [(2, .lit [.flat (.bool x2), .flat (.int .u64 x3), .flat (.int .u64 x4), .flat (.int .i64 x5)]), (3, .lit [.flat (.bool x6), .flat (.int .u64 x7), .flat (.int .u64 x8), .flat (.int .i64 x9)]), (4, .lit [.flat (.bool x10), .flat (.int .u64 x11), .flat (.int .u64 x12), .flat (.int .i64 x13)])]⟩)
theorem pyxref1_Add.j1000.finK_eq {ρ : Type} (y : (Bool × Bool × Int × Int × Int × Bool × Int × Int × Int × Bool × Int × Int × Int)) (K : Out U → Option ρ) : pyxref1_Add.j1000.finK y K = K (pyxref1_Add.j1000.fin y) := by
  unfold pyxref1_Add.j1000.finK pyxref1_Add.j1000.fin
  first | rfl | (split <;> rfl)
noncomputable def pyxref1_Add.j1000.re : Out U → Option ((Bool × Bool × Int × Int × Int × Bool × Int × Int × Int × Bool × Int × Int × Int)) | .norm s => (match s.get 2, s.get 3, s.get 4, s.get 16, lk s.o 2, lk s.o 3, lk s.o 4 with | .ptr 2 0, .ptr 3 0, .ptr 4 0, .flat (.bool x14), some (.lit [.flat (.bool x2), .flat (.int .u64 x3), .flat (.int .u64 x4), .flat (.int .i64 x5)]), some (.lit [.flat (.bool x6), .flat (.int .u64 x7), .flat (.int .u64 x8), .flat (.int .i64 x9)]), some (.lit [.flat (.bool x10), .flat (.int .u64 x11), .flat (.int .u64 x12), .flat (.int .i64 x13)]) => some (x14, x2, x3, x4, x5, x6, x7, x8, x9, x10, x11, x12, x13) | _, _, _, _, _, _, _ => none) | _ => none
noncomputable def pyxref1_Add.j1000.J : JDen U := { Y := (Bool × Bool × Int × Int × Int × Bool × Int × Int × Int × Bool × Int × Int × Int), re := pyxref1_Add.j1000.re, fin := pyxref1_Add.j1000.fin, finK := pyxref1_Add.j1000.finK, finK_eq := pyxref1_Add.j1000.finK_eq }
theorem pyxref1_Add.j1000.fit (o : Out U) (y : (Bool × Bool × Int × Int × Int × Bool × Int × Int × Int × Bool × Int × Int × Int)) (h : pyxref1_Add.j1000.re o = some y) : FitsO o (pyxref1_Add.j1000.fin y) := by
  unfold pyxref1_Add.j1000.re at h
  split at h
  · split at h
    · cases h
      refine fitsO_norm (fits_ren [] ?_ ?_ ren_nil rfl)
      · exact List.forall_mem_cons.2 ⟨FV.one (FV.ptr (by assumption)), List.forall_mem_cons.2 ⟨FV.one (FV.ptr (by assumption)), List.forall_mem_cons.2 ⟨FV.one (FV.ptr (by assumption)), List.forall_mem_cons.2 ⟨FV.one (FV.same (by assumption) rfl), fun _ hp => (List.not_mem_nil hp).elim⟩⟩⟩⟩
      · exact List.forall_mem_cons.2 ⟨(FO.same (show lk (St.o _) 2 = some _ from by assumption) rfl), List.forall_mem_cons.2 ⟨(FO.same (show lk (St.o _) 3 = some _ from by assumption) rfl), List.forall_mem_cons.2 ⟨(FO.same (show lk (St.o _) 4 = some _ from by assumption) rfl), fun _ hp => (List.not_mem_nil hp).elim⟩⟩⟩
    · cases h
  · cases h
noncomputable def pyxref1_Add.jl : List (Nat × JDen U) := [(1000, pyxref1_Add.j1000.J)]
noncomputable def pyxref1_Add.fl (k : Nat) : List (Nat × FDen U) := [(104, pyxref1_RightDec.D k), (116, pyxref1_digits.D k), (117, pyxref1_AddNat.D k), (58, pyxref1_Make.D k), (118, pyxref1_CmpNat.D k), (119, pyxref1_SubNat.D k)]
noncomputable def pyxref1_Add.ll (k : Nat) : List (Nat × LDen U) := []
noncomputable def pyxref1_Add.E (k : Nat) : Env U := { P := Try.prog, D := DD, fd := lk (pyxref1_Add.fl k), ld := lk (pyxref1_Add.ll k), jd := lk pyxref1_Add.jl, mode := lk [], elc := lk ec, mpc := lk mc, rts := Try.f69.resultTypes.toList, dyn := fun t => false, vecs := fun d => false, results := Try.f69.results.toList, gh := [], own := false, io := fun g i => false }
theorem pyxref1_Add.ok (k : Nat) : EnvOk (pyxref1_Add.E k) := envOk lawful (pyxref1_Add.fl k) (pyxref1_Add.ll k) pyxref1_Add.jl _ _ _ _ _ _ _ _ _ _ (by
  intro p hp
  simp only [pyxref1_Add.fl, List.mem_cons, List.not_mem_nil, or_false] at hp
  rcases hp with rfl | rfl | rfl | rfl | rfl | rfl
  · exact ⟨pyxref1_RightDec.sound k, enter_of Try.func104 (by kernel_rfl) (by kernel_rfl)⟩
  · exact ⟨pyxref1_digits.sound k, enter_of Try.func116 (by kernel_rfl) (by kernel_rfl)⟩
  · exact ⟨pyxref1_AddNat.sound k, enter_of Try.func117 (by kernel_rfl) (by kernel_rfl)⟩
  · exact ⟨pyxref1_Make.sound k, enter_of Try.func58 (by kernel_rfl) (by kernel_rfl)⟩
  · exact ⟨pyxref1_CmpNat.sound k, enter_of Try.func118 (by kernel_rfl) (by kernel_rfl)⟩
  · exact ⟨pyxref1_SubNat.sound k, enter_of Try.func119 (by kernel_rfl) (by kernel_rfl)⟩) (by
  intro p hp
  simp only [pyxref1_Add.jl, List.mem_cons, List.not_mem_nil, or_false] at hp
  rcases hp with rfl
  · exact pyxref1_Add.j1000.fit)
theorem pyxref1_Add.eq (k : Nat) (x : (Sapi_Dec × Sapi_Dec)) : runF (pyxref1_Add.E k) (codeOf Try.f69) (pyxref1_Add.mk x) pyxref1_Add.re = (pyxref1_Add.D k).f x := by kernel_rfl
theorem pyxref1_Add.fit (s : St U) (x : (Sapi_Dec × Sapi_Dec)) (h : pyxref1_Add.un s = some x) : Fits s (pyxref1_Add.mk x) := by
  unfold pyxref1_Add.un at h
  split at h
  · cases h
    refine fits_ren [] ?_ ?_ ren_nil rfl
    · exact List.forall_mem_cons.2 ⟨FV.one (FV.same (by assumption) rfl), List.forall_mem_cons.2 ⟨FV.one (FV.same (by assumption) rfl), fun _ hp => (List.not_mem_nil hp).elim⟩⟩
    · exact fun _ hp => (List.not_mem_nil hp).elim
  · cases h
theorem pyxref1_Add.fitR (s : St U) (y : (Sapi_Dec × Int)) (h : pyxref1_Add.re s = some y) : Fits s (pyxref1_Add.fin y) := by
  unfold pyxref1_Add.re at h
  split at h
  · cases h
    refine fits_ren [] ?_ ?_ ren_nil rfl
    · exact List.forall_mem_cons.2 ⟨FV.tup (by assumption) (FTs.cons (FVA.one (FV.same rfl rfl)) (FTs.cons (FVA.one (FV.same rfl rfl)) (FTs.nil))), fun _ hp => (List.not_mem_nil hp).elim⟩
    · exact fun _ hp => (List.not_mem_nil hp).elim
  · cases h
theorem pyxref1_Add.sound (k : Nat) : Sound Try.prog DD 69 (pyxref1_Add.D k) :=
  fun_sound (E := pyxref1_Add.E k) (fn := Try.f69) (c := codeOf Try.f69) (pyxref1_Add.ok k) mixed rfl Try.func69 (by kernel_rfl) (by kernel_rfl) (allL_of (l := []) (by kernel_rfl) allL_nil) (pyxref1_Add.D k) pyxref1_Add.mk pyxref1_Add.re (by kernel_rfl) (by kernel_rfl) pyxref1_Add.fit pyxref1_Add.fitR (pyxref1_Add.eq k)
/-! ### pyx/pyxref1.Neg: function 70 -/
noncomputable def pyxref1_Neg.f (k : Nat) (a0 : Sapi_Dec) : Option Sapi_Dec := (pyxref1_RightDec.f k (⟨a0.f_Neg, (a0.f_C.1, a0.f_C.2), a0.f_Scale⟩ : Sapi_Dec)).bind fun t1 => (cond (!t1) (some (⟨false, (0, 0), 0⟩ : Sapi_Dec)) (cond (!a0.f_Neg) (some (⟨!((a0.f_C.1 == 0) && (a0.f_C.2 == 0)), (a0.f_C.1, a0.f_C.2), a0.f_Scale⟩ : Sapi_Dec)) (some (⟨false, (a0.f_C.1, a0.f_C.2), a0.f_Scale⟩ : Sapi_Dec))))
noncomputable def pyxref1_Neg.un (s : St U) : Option Sapi_Dec := match s.get 0 with | .agg [.flat (.bool x1), .flat (.int .u64 x2), .flat (.int .u64 x3), .flat (.int .i64 x4)] => some (⟨x1, (x2, x3), x4⟩ : Sapi_Dec) | _ => none
noncomputable def pyxref1_Neg.mk (x : Sapi_Dec) : St U := ⟨[(0, .agg [.flat (.bool x.f_Neg), .flat (.int .u64 x.f_C.1), .flat (.int .u64 x.f_C.2), .flat (.int .i64 x.f_Scale)])], []⟩
noncomputable def pyxref1_Neg.fin (y : Sapi_Dec) : St U := ⟨[(0, .agg [.flat (.bool y.f_Neg), .flat (.int .u64 y.f_C.1), .flat (.int .u64 y.f_C.2), .flat (.int .i64 y.f_Scale)])], []⟩
noncomputable def pyxref1_Neg.D (k : Nat) : FDen U := { X := Sapi_Dec, Y := Sapi_Dec, nt := 18, gh := [], un := pyxref1_Neg.un, f := fun x => pyxref1_Neg.f k (x), fin := pyxref1_Neg.fin, cl := true, clo := fun _ _ => rfl }
noncomputable def pyxref1_Neg.re (s : St U) : Option Sapi_Dec := match s.get 0 with | .agg [.flat (.bool x1), .flat (.int .u64 x2), .flat (.int .u64 x3), .flat (.int .i64 x4)] => some (⟨x1, (x2, x3), x4⟩ : Sapi_Dec) | _ => none
noncomputable def pyxref1_Neg.jl : List (Nat × JDen U) := []
noncomputable def pyxref1_Neg.fl (k : Nat) : List (Nat × FDen U) := [(104, pyxref1_RightDec.D k)]
noncomputable def pyxref1_Neg.ll (k : Nat) : List (Nat × LDen U) := []
noncomputable def pyxref1_Neg.E (k : Nat) : Env U := { P := Try.prog, D := DD, fd := lk (pyxref1_Neg.fl k), ld := lk (pyxref1_Neg.ll k), jd := lk pyxref1_Neg.jl, mode := lk [], elc := lk ec, mpc := lk mc, rts := Try.f70.resultTypes.toList, dyn := fun t => false, vecs := fun d => false, results := Try.f70.results.toList, gh := [], own := false, io := fun g i => false }
theorem pyxref1_Neg.ok (k : Nat) : EnvOk (pyxref1_Neg.E k) := envOk lawful (pyxref1_Neg.fl k) (pyxref1_Neg.ll k) pyxref1_Neg.jl _ _ _ _ _ _ _ _ _ _ (by
  intro p hp
  simp only [pyxref1_Neg.fl, List.mem_cons, List.not_mem_nil, or_false] at hp
  rcases hp with rfl
  · exact ⟨pyxref1_RightDec.sound k, enter_of Try.func104 (by kernel_rfl) (by kernel_rfl)⟩) (by
  intro p hp
  simp [pyxref1_Neg.jl] at hp)
theorem pyxref1_Neg.eq (k : Nat) (x : Sapi_Dec) : runF (pyxref1_Neg.E k) (codeOf Try.f70) (pyxref1_Neg.mk x) pyxref1_Neg.re = (pyxref1_Neg.D k).f x := by kernel_rfl
theorem pyxref1_Neg.fit (s : St U) (x : Sapi_Dec) (h : pyxref1_Neg.un s = some x) : Fits s (pyxref1_Neg.mk x) := by
  unfold pyxref1_Neg.un at h
  split at h
  · cases h
    refine fits_ren [] ?_ ?_ ren_nil rfl
    · exact List.forall_mem_cons.2 ⟨FV.one (FV.same (by assumption) rfl), fun _ hp => (List.not_mem_nil hp).elim⟩
    · exact fun _ hp => (List.not_mem_nil hp).elim
  · cases h
theorem pyxref1_Neg.fitR (s : St U) (y : Sapi_Dec) (h : pyxref1_Neg.re s = some y) : Fits s (pyxref1_Neg.fin y) := by
  unfold pyxref1_Neg.re at h
  split at h
  · cases h
    refine fits_ren [] ?_ ?_ ren_nil rfl
    · exact List.forall_mem_cons.2 ⟨FV.one (FV.same (by assumption) rfl), fun _ hp => (List.not_mem_nil hp).elim⟩
    · exact fun _ hp => (List.not_mem_nil hp).elim
  · cases h
theorem pyxref1_Neg.sound (k : Nat) : Sound Try.prog DD 70 (pyxref1_Neg.D k) :=
  fun_sound (E := pyxref1_Neg.E k) (fn := Try.f70) (c := codeOf Try.f70) (pyxref1_Neg.ok k) mixed rfl Try.func70 (by kernel_rfl) (by kernel_rfl) (allL_of (l := []) (by kernel_rfl) allL_nil) (pyxref1_Neg.D k) pyxref1_Neg.mk pyxref1_Neg.re (by kernel_rfl) (by kernel_rfl) pyxref1_Neg.fit pyxref1_Neg.fitR (pyxref1_Neg.eq k)
/-! ### pyx/pyxhand.Dec: function 21 -/
noncomputable def pyxhand_Dec.f (k : Nat) (a0 : Int) (a1 : Int) (a2 : Int) : Option Sapi_Dec := (pyxhand_Pick.f k a2 11).bind fun t1 => (cond (t1 == 0) ((pyxhand_Pick.f k a0 12).bind fun t2 => (some (⟨(Int.tmod a2 2) == 0, (IntKind.wrap .u64 (a0), IntKind.wrap .u64 (a1)), IntKind.wrap .i64 (t2 - 1)⟩ : Sapi_Dec))) (cond (t1 == 1) ((pyxhand_Pick.f k a1 54210108624).bind fun t3 => ((pyxhand_Pick.f k (IntKind.wrap .i64 (Int.tdiv a2 11)) 10).bind fun t4 => (some (⟨(Int.tmod a0 2) == 0, (IntKind.wrap .u64 (a0), IntKind.wrap .u64 (t3)), t4⟩ : Sapi_Dec)))) (cond (t1 == 2) ((pyxhand_Pick.f k a0 7).bind fun t5 => ((pyxhand_Pick.f k a1 10).bind fun t6 => ((pyxref1_Of.f k (IntKind.wrap .i64 (t5 - 3)) t6).bind fun t7 => (some (⟨t7.f_Neg, (t7.f_C.1, t7.f_C.2), t7.f_Scale⟩ : Sapi_Dec))))) (cond (t1 == 3) ((pyxhand_Pick.f k a1 10).bind fun t8 => ((pyxref1_Of.f k a0 t8).bind fun t9 => (some (⟨t9.f_Neg, (t9.f_C.1, t9.f_C.2), t9.f_Scale⟩ : Sapi_Dec)))) ((pyxhand_Pick.f k a0 2000000).bind fun t10 => ((pyxhand_Pick.f k a1 10).bind fun t11 => ((pyxref1_Of.f k (IntKind.wrap .i64 (t10 - 1000000)) t11).bind fun t12 => (some (⟨t12.f_Neg, (t12.f_C.1, t12.f_C.2), t12.f_Scale⟩ : Sapi_Dec)))))))))
noncomputable def pyxhand_Dec.un (s : St U) : Option (Int × Int × Int) := match s.get 0, s.get 1, s.get 2 with | .flat (.int .i64 x1), .flat (.int .i64 x2), .flat (.int .i64 x3) => some (x1, x2, x3) | _, _, _ => none
noncomputable def pyxhand_Dec.mk (x : (Int × Int × Int)) : St U := ⟨[(0, .flat (.int .i64 x.1)), (1, .flat (.int .i64 x.2.1)), (2, .flat (.int .i64 x.2.2))], []⟩
noncomputable def pyxhand_Dec.fin (y : Sapi_Dec) : St U := ⟨[(0, .agg [.flat (.bool y.f_Neg), .flat (.int .u64 y.f_C.1), .flat (.int .u64 y.f_C.2), .flat (.int .i64 y.f_Scale)])], []⟩
noncomputable def pyxhand_Dec.D (k : Nat) : FDen U := { X := (Int × Int × Int), Y := Sapi_Dec, nt := 58, gh := [], un := pyxhand_Dec.un, f := fun x => pyxhand_Dec.f k (x.1) (x.2.1) (x.2.2), fin := pyxhand_Dec.fin, cl := true, clo := fun _ _ => rfl }
noncomputable def pyxhand_Dec.re (s : St U) : Option Sapi_Dec := match s.get 0 with | .agg [.flat (.bool x1), .flat (.int .u64 x2), .flat (.int .u64 x3), .flat (.int .i64 x4)] => some (⟨x1, (x2, x3), x4⟩ : Sapi_Dec) | _ => none
noncomputable def pyxhand_Dec.jl : List (Nat × JDen U) := []
noncomputable def pyxhand_Dec.fl (k : Nat) : List (Nat × FDen U) := [(25, pyxhand_Pick.D k), (17, pyxref1_Of.D k)]
noncomputable def pyxhand_Dec.ll (k : Nat) : List (Nat × LDen U) := []
noncomputable def pyxhand_Dec.E (k : Nat) : Env U := { P := Try.prog, D := DD, fd := lk (pyxhand_Dec.fl k), ld := lk (pyxhand_Dec.ll k), jd := lk pyxhand_Dec.jl, mode := lk [], elc := lk ec, mpc := lk mc, rts := Try.f21.resultTypes.toList, dyn := fun t => false, vecs := fun d => false, results := Try.f21.results.toList, gh := [], own := false, io := fun g i => false }
theorem pyxhand_Dec.ok (k : Nat) : EnvOk (pyxhand_Dec.E k) := envOk lawful (pyxhand_Dec.fl k) (pyxhand_Dec.ll k) pyxhand_Dec.jl _ _ _ _ _ _ _ _ _ _ (by
  intro p hp
  simp only [pyxhand_Dec.fl, List.mem_cons, List.not_mem_nil, or_false] at hp
  rcases hp with rfl | rfl
  · exact ⟨pyxhand_Pick.sound k, enter_of Try.func25 (by kernel_rfl) (by kernel_rfl)⟩
  · exact ⟨pyxref1_Of.sound k, enter_of Try.func17 (by kernel_rfl) (by kernel_rfl)⟩) (by
  intro p hp
  simp [pyxhand_Dec.jl] at hp)
theorem pyxhand_Dec.eq (k : Nat) (x : (Int × Int × Int)) : runF (pyxhand_Dec.E k) (codeOf Try.f21) (pyxhand_Dec.mk x) pyxhand_Dec.re = (pyxhand_Dec.D k).f x := by kernel_rfl
theorem pyxhand_Dec.fit (s : St U) (x : (Int × Int × Int)) (h : pyxhand_Dec.un s = some x) : Fits s (pyxhand_Dec.mk x) := by
  unfold pyxhand_Dec.un at h
  split at h
  · cases h
    refine fits_ren [] ?_ ?_ ren_nil rfl
    · exact List.forall_mem_cons.2 ⟨FV.one (FV.same (by assumption) rfl), List.forall_mem_cons.2 ⟨FV.one (FV.same (by assumption) rfl), List.forall_mem_cons.2 ⟨FV.one (FV.same (by assumption) rfl), fun _ hp => (List.not_mem_nil hp).elim⟩⟩⟩
    · exact fun _ hp => (List.not_mem_nil hp).elim
  · cases h
theorem pyxhand_Dec.fitR (s : St U) (y : Sapi_Dec) (h : pyxhand_Dec.re s = some y) : Fits s (pyxhand_Dec.fin y) := by
  unfold pyxhand_Dec.re at h
  split at h
  · cases h
    refine fits_ren [] ?_ ?_ ren_nil rfl
    · exact List.forall_mem_cons.2 ⟨FV.one (FV.same (by assumption) rfl), fun _ hp => (List.not_mem_nil hp).elim⟩
    · exact fun _ hp => (List.not_mem_nil hp).elim
  · cases h
theorem pyxhand_Dec.sound (k : Nat) : Sound Try.prog DD 21 (pyxhand_Dec.D k) :=
  fun_sound (E := pyxhand_Dec.E k) (fn := Try.f21) (c := codeOf Try.f21) (pyxhand_Dec.ok k) mixed rfl Try.func21 (by kernel_rfl) (by kernel_rfl) (allL_of (l := []) (by kernel_rfl) allL_nil) (pyxhand_Dec.D k) pyxhand_Dec.mk pyxhand_Dec.re (by kernel_rfl) (by kernel_rfl) pyxhand_Dec.fit pyxhand_Dec.fitR (pyxhand_Dec.eq k)
/-! ### pyx/pyxhand.Lines: function 29 -/
noncomputable def pyxhand_Lines.l4.once (k : Nat) (x : (List Int × Int × Int × Int × Int × List Sapi_Line × Bool × Int × Int × Int)) : Option ((List Int × Int × Int × Int × Int × List Sapi_Line × Bool × Int × Int × Int) ⊕ ((Int × Int × List Sapi_Line × Bool × Int × Int × Int))) := match x with | (x2, x3, x4, x5, x11, x6, x7, x8, x9, x10) => ((cond (decide ((IntKind.wrap .i64 (x11 + 1)) < (List.length x2 : Int))) (some (x2, x3, x4, x5, x11, decide (x11 < 12), x6, x7, x8, x9, x10)) (some (x2, x3, x4, x5, x11, false, x6, x7, x8, x9, x10))) : Option (List Int × Int × Int × Int × Int × Bool × List Sapi_Line × Bool × Int × Int × Int)).bind fun y23 => (cond (y23.2.2.2.2.2.1) (((cond (inb y23.2.2.2.2.1 (List.length y23.1)) ((pyxhand_Pick.f k (List.getD y23.1 (Int.toNat y23.2.2.2.2.1) 0) 16).bind fun t24 => (cond (inb (IntKind.wrap .i64 (y23.2.2.2.2.1 + 1)) (List.length y23.1)) ((pyxhand_Amount.f k (List.getD y23.1 (Int.toNat (IntKind.wrap .i64 (y23.2.2.2.2.1 + 1))) 0) y23.2.1).bind fun t25 => ((pyxref11_IsWith.f k t24).bind fun t26 => (((cond (t26) (cond (inb y23.2.2.2.2.1 (List.length y23.1)) ((pyxhand_Pick.f k (IntKind.wrap .i64 (Int.tdiv (List.getD y23.1 (Int.toNat y23.2.2.2.2.1) 0) 16)) (if y23.2.2.2.1 > 1 then y23.2.2.2.1 else 1)).bind fun t27 => (some (y23.1, y23.2.1, y23.2.2.1, y23.2.2.2.1, y23.2.2.2.2.1, y23.2.2.2.2.2.2.1, y23.2.2.2.2.2.2.2.1, y23.2.2.2.2.2.2.2.2.1, y23.2.2.2.2.2.2.2.2.2.1, y23.2.2.2.2.2.2.2.2.2.2, t24, t25.f_Neg, t25.f_C.1, t25.f_C.2, t25.f_Scale, t27))) none) (some (y23.1, y23.2.1, y23.2.2.1, y23.2.2.2.1, y23.2.2.2.2.1, y23.2.2.2.2.2.2.1, y23.2.2.2.2.2.2.2.1, y23.2.2.2.2.2.2.2.2.1, y23.2.2.2.2.2.2.2.2.2.1, y23.2.2.2.2.2.2.2.2.2.2, t24, t25.f_Neg, t25.f_C.1, t25.f_C.2, t25.f_Scale, (-1)))) : Option (List Int × Int × Int × Int × Int × List Sapi_Line × Bool × Int × Int × Int × Int × Bool × Int × Int × Int × Int)).bind fun y44 => ((pyxref1_Sign.f k (⟨y44.2.2.2.2.2.2.2.2.2.2.2.1, (y44.2.2.2.2.2.2.2.2.2.2.2.2.1, y44.2.2.2.2.2.2.2.2.2.2.2.2.2.1), y44.2.2.2.2.2.2.2.2.2.2.2.2.2.2.1⟩ : Sapi_Dec)).bind fun t45 => (((cond (t45 == 0) ((pyxref1_Of.f k 1 y44.2.1).bind fun t46 => (some (y44.1, y44.2.1, y44.2.2.1, y44.2.2.2.1, y44.2.2.2.2.1, y44.2.2.2.2.2.1, y44.2.2.2.2.2.2.1, y44.2.2.2.2.2.2.2.1, y44.2.2.2.2.2.2.2.2.1, y44.2.2.2.2.2.2.2.2.2.1, y44.2.2.2.2.2.2.2.2.2.2.1, t46.f_Neg, t46.f_C.1, t46.f_C.2, t46.f_Scale, y44.2.2.2.2.2.2.2.2.2.2.2.2.2.2.2))) (some (y44.1, y44.2.1, y44.2.2.1, y44.2.2.2.1, y44.2.2.2.2.1, y44.2.2.2.2.2.1, y44.2.2.2.2.2.2.1, y44.2.2.2.2.2.2.2.1, y44.2.2.2.2.2.2.2.2.1, y44.2.2.2.2.2.2.2.2.2.1, y44.2.2.2.2.2.2.2.2.2.2.1, y44.2.2.2.2.2.2.2.2.2.2.2.1, y44.2.2.2.2.2.2.2.2.2.2.2.2.1, y44.2.2.2.2.2.2.2.2.2.2.2.2.2.1, y44.2.2.2.2.2.2.2.2.2.2.2.2.2.2.1, y44.2.2.2.2.2.2.2.2.2.2.2.2.2.2.2))) : Option (List Int × Int × Int × Int × Int × List Sapi_Line × Bool × Int × Int × Int × Int × Bool × Int × Int × Int × Int)).bind fun y63 => (cond (okLen (List.length y63.2.2.2.2.2.1 + List.length [(⟨y63.2.2.2.2.2.2.2.2.2.2.1, (⟨y63.2.2.2.2.2.2.2.2.2.2.2.1, (y63.2.2.2.2.2.2.2.2.2.2.2.2.1, y63.2.2.2.2.2.2.2.2.2.2.2.2.2.1), y63.2.2.2.2.2.2.2.2.2.2.2.2.2.2.1⟩ : Sapi_Dec), y63.2.2.2.2.2.2.2.2.2.2.2.2.2.2.2⟩ : Sapi_Line)]) 48) ((pyxref1_Add.f k (⟨y63.2.2.2.2.2.2.1, (y63.2.2.2.2.2.2.2.1, y63.2.2.2.2.2.2.2.2.1), y63.2.2.2.2.2.2.2.2.2.1⟩ : Sapi_Dec) (⟨y63.2.2.2.2.2.2.2.2.2.2.2.1, (y63.2.2.2.2.2.2.2.2.2.2.2.2.1, y63.2.2.2.2.2.2.2.2.2.2.2.2.2.1), y63.2.2.2.2.2.2.2.2.2.2.2.2.2.2.1⟩ : Sapi_Dec)).bind fun t64 => (some (y63.1, y63.2.1, y63.2.2.1, y63.2.2.2.1, y63.2.2.2.2.1, y63.2.2.2.2.2.1 ++ [(⟨y63.2.2.2.2.2.2.2.2.2.2.1, (⟨y63.2.2.2.2.2.2.2.2.2.2.2.1, (y63.2.2.2.2.2.2.2.2.2.2.2.2.1, y63.2.2.2.2.2.2.2.2.2.2.2.2.2.1), y63.2.2.2.2.2.2.2.2.2.2.2.2.2.2.1⟩ : Sapi_Dec), y63.2.2.2.2.2.2.2.2.2.2.2.2.2.2.2⟩ : Sapi_Line)], t64.1.f_Neg, t64.1.f_C.1, t64.1.f_C.2, t64.1.f_Scale))) none)))))) none)) none) : Option (List Int × Int × Int × Int × Int × List Sapi_Line × Bool × Int × Int × Int)).bind fun y75 => (some (.inl (y75.1, y75.2.1, y75.2.2.1, y75.2.2.2.1, IntKind.wrap .i64 (y75.2.2.2.2.1 + 2), y75.2.2.2.2.2.1, y75.2.2.2.2.2.2.1, y75.2.2.2.2.2.2.2.1, y75.2.2.2.2.2.2.2.2.1, y75.2.2.2.2.2.2.2.2.2)))) (some (.inr (y23.2.1, y23.2.2.1, y23.2.2.2.2.2.2.1, y23.2.2.2.2.2.2.2.1, y23.2.2.2.2.2.2.2.2.1, y23.2.2.2.2.2.2.2.2.2.1, y23.2.2.2.2.2.2.2.2.2.2))))
noncomputable def pyxhand_Lines.l28.once (k : Nat) (x : (Int × List Sapi_Line)) : Option ((Int × List Sapi_Line) ⊕ ((Int × List Sapi_Line))) := match x with | (x114, x115) => cond (decide ((List.length x115 : Int) < 9)) (cond (inb 0 (List.length x115)) (cond (Nat.blt (0) (List.length x115)) (cond (okLen (List.length x115 + List.length [(⟨(List.getD x115 0 Sapi_Line.zero).f_Acct, (⟨((List.getD x115 0 Sapi_Line.zero).f_Amount).f_Neg, ((((List.getD x115 0 Sapi_Line.zero).f_Amount).f_C).1, (((List.getD x115 0 Sapi_Line.zero).f_Amount).f_C).2), ((List.getD x115 0 Sapi_Line.zero).f_Amount).f_Scale⟩ : Sapi_Dec), (List.getD x115 0 Sapi_Line.zero).f_With⟩ : Sapi_Line)]) 48) (some (.inl (x114, x115 ++ [(⟨(List.getD x115 0 Sapi_Line.zero).f_Acct, (⟨((List.getD x115 0 Sapi_Line.zero).f_Amount).f_Neg, ((((List.getD x115 0 Sapi_Line.zero).f_Amount).f_C).1, (((List.getD x115 0 Sapi_Line.zero).f_Amount).f_C).2), ((List.getD x115 0 Sapi_Line.zero).f_Amount).f_Scale⟩ : Sapi_Dec), (List.getD x115 0 Sapi_Line.zero).f_With⟩ : Sapi_Line)]))) none) none) none) (some (.inr (x114, x115)))
noncomputable def pyxhand_Lines.f (k : Nat) (a0 : List Int) (a1 : Int) (a2 : Int) (a3 : Int) : Option (List Sapi_Line) := (pyxref11_Zero.f k a1).bind fun t1 => ((iter (pyxhand_Lines.l4.once k) k (a0, a1, a2, a3, 0, ([] : List Sapi_Line), t1.f_Neg, t1.f_C.1, t1.f_C.2, t1.f_Scale)).bind fun y83 => ((((pyxref1_Sign.f k (⟨y83.2.2.2.1, (y83.2.2.2.2.1, y83.2.2.2.2.2.1), y83.2.2.2.2.2.2⟩ : Sapi_Dec)).bind fun t84 => (cond (t84 != 0) (some (y83.1, y83.2.1, true, y83.2.2.1, y83.2.2.2.1, y83.2.2.2.2.1, y83.2.2.2.2.2.1, y83.2.2.2.2.2.2)) (some (y83.1, y83.2.1, (List.length y83.2.2.1 : Int) == 0, y83.2.2.1, y83.2.2.2.1, y83.2.2.2.2.1, y83.2.2.2.2.2.1, y83.2.2.2.2.2.2)))) : Option (Int × Int × Bool × List Sapi_Line × Bool × Int × Int × Int)).bind fun y93 => (((cond (y93.2.2.1) ((pyxref1_Neg.f k (⟨y93.2.2.2.2.1, (y93.2.2.2.2.2.1, y93.2.2.2.2.2.2.1), y93.2.2.2.2.2.2.2⟩ : Sapi_Dec)).bind fun t94 => (((cond ((List.length y93.2.2.2.1 : Int) == 0) ((pyxref1_Of.f k 5 y93.1).bind fun t95 => ((pyxref1_Of.f k (-5) y93.1).bind fun t96 => (cond (okLen (List.length y93.2.2.2.1 + List.length [(⟨8, (⟨t96.f_Neg, (t96.f_C.1, t96.f_C.2), t96.f_Scale⟩ : Sapi_Dec), (-1)⟩ : Sapi_Line)]) 48) (some (y93.2.1, y93.2.2.2.1 ++ [(⟨8, (⟨t96.f_Neg, (t96.f_C.1, t96.f_C.2), t96.f_Scale⟩ : Sapi_Dec), (-1)⟩ : Sapi_Line)], 0, t95.f_Neg, t95.f_C.1, t95.f_C.2, t95.f_Scale, (-1))) none))) (some (y93.2.1, y93.2.2.2.1, 0, t94.f_Neg, t94.f_C.1, t94.f_C.2, t94.f_Scale, (-1)))) : Option (Int × List Sapi_Line × Int × Bool × Int × Int × Int × Int)).bind fun y105 => (cond (okLen (List.length y105.2.1 + List.length [(⟨y105.2.2.1, (⟨y105.2.2.2.1, (y105.2.2.2.2.1, y105.2.2.2.2.2.1), y105.2.2.2.2.2.2.1⟩ : Sapi_Dec), y105.2.2.2.2.2.2.2⟩ : Sapi_Line)]) 48) (some (y105.1, y105.2.1 ++ [(⟨y105.2.2.1, (⟨y105.2.2.2.1, (y105.2.2.2.2.1, y105.2.2.2.2.2.1), y105.2.2.2.2.2.2.1⟩ : Sapi_Dec), y105.2.2.2.2.2.2.2⟩ : Sapi_Line)])) none))) (some (y93.2.1, y93.2.2.2.1))) : Option (Int × List Sapi_Line)).bind fun y108 => ((pyxhand_Pick.f k (IntKind.wrap .i64 (Int.tdiv y108.1 20)) (List.length y108.2 : Int)).bind fun t109 => ((pyxhand_Pick.f k y108.1 20).bind fun t110 => (cond (t110 == 12) ((pyxhand_Pick.f k (IntKind.wrap .i64 (Int.tdiv y108.1 160)) 19).bind fun t111 => (cond (inb t109 (List.length y108.2)) (cond (Nat.blt (Int.toNat t109) (List.length y108.2)) (some (List.set y108.2 (Int.toNat t109) (⟨IntKind.wrap .i64 (t111 - 2), (⟨((List.getD y108.2 (Int.toNat t109) Sapi_Line.zero).f_Amount).f_Neg, ((((List.getD y108.2 (Int.toNat t109) Sapi_Line.zero).f_Amount).f_C).1, (((List.getD y108.2 (Int.toNat t109) Sapi_Line.zero).f_Amount).f_C).2), ((List.getD y108.2 (Int.toNat t109) Sapi_Line.zero).f_Amount).f_Scale⟩ : Sapi_Dec), (List.getD y108.2 (Int.toNat t109) Sapi_Line.zero).f_With⟩ : Sapi_Line))) none) none)) (cond (t110 == 13) ((pyxhand_Dec.f k y108.1 (IntKind.wrap .i64 (Int.tdiv y108.1 7)) (IntKind.wrap .i64 (Int.tdiv y108.1 160))).bind fun t112 => (cond (inb t109 (List.length y108.2)) (cond (Nat.blt (Int.toNat t109) (List.length y108.2)) (some (List.set y108.2 (Int.toNat t109) (⟨(List.getD y108.2 (Int.toNat t109) Sapi_Line.zero).f_Acct, (⟨t112.f_Neg, (t112.f_C.1, t112.f_C.2), t112.f_Scale⟩ : Sapi_Dec), (List.getD y108.2 (Int.toNat t109) Sapi_Line.zero).f_With⟩ : Sapi_Line))) none) none)) (cond (t110 == 14) ((pyxhand_Pick.f k (IntKind.wrap .i64 (Int.tdiv y108.1 160)) 11).bind fun t113 => (cond (inb t109 (List.length y108.2)) (cond (Nat.blt (Int.toNat t109) (List.length y108.2)) (some (List.set y108.2 (Int.toNat t109) (⟨(List.getD y108.2 (Int.toNat t109) Sapi_Line.zero).f_Acct, (⟨((List.getD y108.2 (Int.toNat t109) Sapi_Line.zero).f_Amount).f_Neg, ((((List.getD y108.2 (Int.toNat t109) Sapi_Line.zero).f_Amount).f_C).1, (((List.getD y108.2 (Int.toNat t109) Sapi_Line.zero).f_Amount).f_C).2), ((List.getD y108.2 (Int.toNat t109) Sapi_Line.zero).f_Amount).f_Scale⟩ : Sapi_Dec), IntKind.wrap .i64 (t113 - 2)⟩ : Sapi_Line))) none) none)) (cond (t110 == 15) ((iter (pyxhand_Lines.l28.once k) k (y108.1, y108.2)).bind fun y118 => ((pyxhand_Pick.f k (IntKind.wrap .i64 (Int.tdiv y118.1 160)) 3).bind fun t119 => (cond (inS 0 (IntKind.wrap .i64 (7 + t119)) (List.length y118.2)) (some (List.take (Int.toNat (IntKind.wrap .i64 (7 + t119))) y118.2)) none))) (cond (t110 == 16) (cond (inb t109 (List.length y108.2)) (cond (Nat.blt (Int.toNat t109) (List.length y108.2)) ((pyxref1_Neg.f k (⟨((List.getD y108.2 (Int.toNat t109) Sapi_Line.zero).f_Amount).f_Neg, ((((List.getD y108.2 (Int.toNat t109) Sapi_Line.zero).f_Amount).f_C).1, (((List.getD y108.2 (Int.toNat t109) Sapi_Line.zero).f_Amount).f_C).2), ((List.getD y108.2 (Int.toNat t109) Sapi_Line.zero).f_Amount).f_Scale⟩ : Sapi_Dec)).bind fun t120 => (cond (inb t109 (List.length y108.2)) (cond (Nat.blt (Int.toNat t109) (List.length y108.2)) (some (List.set y108.2 (Int.toNat t109) (⟨(List.getD y108.2 (Int.toNat t109) Sapi_Line.zero).f_Acct, (⟨t120.f_Neg, (t120.f_C.1, t120.f_C.2), t120.f_Scale⟩ : Sapi_Dec), (List.getD y108.2 (Int.toNat t109) Sapi_Line.zero).f_With⟩ : Sapi_Line))) none) none)) none) none) (some y108.2)))))))))))
noncomputable def pyxhand_Lines.un (s : St U) : Option (List Int × Int × Int × Int) := match s.get 0, s.get 1, s.get 2, s.get 3 with | .row C.i64 x1, .flat (.int .i64 x2), .flat (.int .i64 x3), .flat (.int .i64 x4) => some (x1, x2, x3, x4) | _, _, _, _ => none
noncomputable def pyxhand_Lines.mk (x : (List Int × Int × Int × Int)) : St U := ⟨[(0, .row C.i64 x.1), (1, .flat (.int .i64 x.2.1)), (2, .flat (.int .i64 x.2.2.1)), (3, .flat (.int .i64 x.2.2.2))], []⟩
noncomputable def pyxhand_Lines.fin (y : List Sapi_Line) : St U := ⟨[(0, .row C.Sapi_Line y)], []⟩
noncomputable def pyxhand_Lines.D (k : Nat) : FDen U := { X := (List Int × Int × Int × Int), Y := List Sapi_Line, nt := 167, gh := [], un := pyxhand_Lines.un, f := fun x => pyxhand_Lines.f k (x.1) (x.2.1) (x.2.2.1) (x.2.2.2), fin := pyxhand_Lines.fin, cl := true, clo := fun _ _ => rfl }
noncomputable def pyxhand_Lines.re (s : St U) : Option (List Sapi_Line) := match s.get 0 with | .row C.Sapi_Line x1 => some x1 | _ => none
noncomputable def pyxhand_Lines.l4.mk (x : (List Int × Int × Int × Int × Int × List Sapi_Line × Bool × Int × Int × Int)) : St U := match x with | (x2, x3, x4, x5, x11, x6, x7, x8, x9, x10) => ⟨[(10, .ptr 10 0), (0, .row C.i64 x2), (1, .flat (.int .i64 x3)), (2, .flat (.int .i64 x4)), (3, .flat (.int .i64 x5)), (9, .vs 1004009), (11, .flat (.int .i64 x11))], [(1004009, .vec C.Sapi_Line x6), (10, .lit [.flat (.bool x7), .flat (.int .u64 x8), .flat (.int .u64 x9), .flat (.int .i64 x10)])]⟩
noncomputable def pyxhand_Lines.l4.un (s : St U) : Option (List Int × Int × Int × Int × Int × List Sapi_Line × Bool × Int × Int × Int) := (row_i64 (s.get 0)).bind fun q0 => ((vec_Sapi_Line s.o (s.get 9)).bind fun q1 => (match s.get 10, s.get 1, s.get 2, s.get 3, s.get 11, lk s.o 10 with | .ptr 10 0, .flat (.int .i64 x3), .flat (.int .i64 x4), .flat (.int .i64 x5), .flat (.int .i64 x11), some (.lit [.flat (.bool x7), .flat (.int .u64 x8), .flat (.int .u64 x9), .flat (.int .i64 x10)]) => some (q0, x3, x4, x5, x11, q1.2, x7, x8, x9, x10) | _, _, _, _, _, _ => none))
noncomputable def pyxhand_Lines.l4.fin (y : (Int × Int × List Sapi_Line × Bool × Int × Int × Int)) : Out U := match y with | (x76, x77, x78, x79, x80, x81, x82) => .exit 0 ⟨[(10, .ptr 10 0), (1, .flat (.int .i64 x76)), (2, .flat (.int .i64 x77)), (9, .vs 1004009)], [(1004009, .vec C.Sapi_Line x78), (10, .lit [.flat (.bool x79), .flat (.int .u64 x80), .flat (.int .u64 x81), .flat (.int .i64 x82)])]⟩
noncomputable def pyxhand_Lines.l4.finK {ρ : Type} (y : (Int × Int × List Sapi_Line × Bool × Int × Int × Int)) (K : Out U → Option ρ) : Option ρ := match y with | (x76, x77, x78, x79, x80, x81, x82) => K (.exit 0 ⟨[(10, .ptr 10 0), (1, .flat (.int .i64 x76)), (2, .flat (.int .i64 x77)), (9, .vs 1004009)], [(1004009, .vec C.Sapi_Line x78), (10, .lit [.flat (.bool x79), .flat (.int .u64 x80), .flat (.int .u64 x81), .flat (.int .i64 x82)])]⟩)
theorem pyxhand_Lines.l4.finK_eq {ρ : Type} (y : (Int × Int × List Sapi_Line × Bool × Int × Int × Int)) (K : Out U → Option ρ) : pyxhand_Lines.l4.finK y K = K (pyxhand_Lines.l4.fin y) := by
  unfold pyxhand_Lines.l4.finK pyxhand_Lines.l4.fin
  first | rfl | (split <;> rfl)
noncomputable def pyxhand_Lines.l4.re : Out U → Option ((Int × Int × List Sapi_Line × Bool × Int × Int × Int)) | .exit 0 s => ((vec_Sapi_Line s.o (s.get 9)).bind fun q0 => (match s.get 10, s.get 1, s.get 2, lk s.o 10 with | .ptr 10 0, .flat (.int .i64 x76), .flat (.int .i64 x77), some (.lit [.flat (.bool x79), .flat (.int .u64 x80), .flat (.int .u64 x81), .flat (.int .i64 x82)]) => some (x76, x77, q0.2, x79, x80, x81, x82) | _, _, _, _ => none)) | _ => none
noncomputable def pyxhand_Lines.l4.L (k : Nat) : LDen U := { X := (List Int × Int × Int × Int × Int × List Sapi_Line × Bool × Int × Int × Int), Y := (Int × Int × List Sapi_Line × Bool × Int × Int × Int), un := pyxhand_Lines.l4.un, f := iter (pyxhand_Lines.l4.once k) k, fin := pyxhand_Lines.l4.fin, finK := pyxhand_Lines.l4.finK, finK_eq := pyxhand_Lines.l4.finK_eq }
noncomputable def pyxhand_Lines.l28.mk (x : (Int × List Sapi_Line)) : St U := match x with | (x114, x115) => ⟨[(2, .flat (.int .i64 x114)), (9, .vs 1028009)], [(1028009, .vec C.Sapi_Line x115)]⟩
noncomputable def pyxhand_Lines.l28.un (s : St U) : Option (Int × List Sapi_Line) := (vec_Sapi_Line s.o (s.get 9)).bind fun q0 => (match s.get 2 with | .flat (.int .i64 x114) => some (x114, q0.2) | _ => none)
noncomputable def pyxhand_Lines.l28.fin (y : (Int × List Sapi_Line)) : Out U := match y with | (x116, x117) => .exit 3 ⟨[(2, .flat (.int .i64 x116)), (9, .vs 1028009)], [(1028009, .vec C.Sapi_Line x117)]⟩
noncomputable def pyxhand_Lines.l28.finK {ρ : Type} (y : (Int × List Sapi_Line)) (K : Out U → Option ρ) : Option ρ := match y with | (x116, x117) => K (.exit 3 ⟨[(2, .flat (.int .i64 x116)), (9, .vs 1028009)], [(1028009, .vec C.Sapi_Line x117)]⟩)
theorem pyxhand_Lines.l28.finK_eq {ρ : Type} (y : (Int × List Sapi_Line)) (K : Out U → Option ρ) : pyxhand_Lines.l28.finK y K = K (pyxhand_Lines.l28.fin y) := by
  unfold pyxhand_Lines.l28.finK pyxhand_Lines.l28.fin
  first | rfl | (split <;> rfl)
noncomputable def pyxhand_Lines.l28.re : Out U → Option ((Int × List Sapi_Line)) | .exit 3 s => ((vec_Sapi_Line s.o (s.get 9)).bind fun q0 => (match s.get 2 with | .flat (.int .i64 x116) => some (x116, q0.2) | _ => none)) | _ => none
noncomputable def pyxhand_Lines.l28.L (k : Nat) : LDen U := { X := (Int × List Sapi_Line), Y := (Int × List Sapi_Line), un := pyxhand_Lines.l28.un, f := iter (pyxhand_Lines.l28.once k) k, fin := pyxhand_Lines.l28.fin, finK := pyxhand_Lines.l28.finK, finK_eq := pyxhand_Lines.l28.finK_eq }
noncomputable def pyxhand_Lines.j4000.fin (y : (List Int × Int × Int × Int × Int × Bool × List Sapi_Line × Bool × Int × Int × Int)) : Out U := match y with | (x12, x13, x14, x15, x21, x22, x16, x17, x18, x19, x20) => .norm ⟨[(10, .ptr 10 0), (0, .row C.i64 x12), (1, .flat (.int .i64 x13)), (2, .flat (.int .i64 x14)), (3, .flat (.int .i64 x15)), (9, .vs 1005000009), (11, .flat (.int .i64 x21)), (25, .flat (.bool x22))], [(1005000009, .vec C.Sapi_Line x16), (10, .lit [.flat (.bool x17), .flat (.int .u64 x18), .flat (.int .u64 x19), .flat (.int .i64 x20)])]⟩
noncomputable def pyxhand_Lines.j4000.finK {ρ : Type} (y : (List Int × Int × Int × Int × Int × Bool × List Sapi_Line × Bool × Int × Int × Int)) (K : Out U → Option ρ) : Option ρ := match y with | (x12, x13, x14, x15, x21, x22, x16, x17, x18, x19, x20) => K (.norm ⟨[(10, .ptr 10 0), (0, .row C.i64 x12), (1, .flat (.int .i64 x13)), (2, .flat (.int .i64 x14)), (3, .flat (.int .i64 x15)), (9, .vs 1005000009), (11, .flat (.int .i64 x21)), (25, .flat (.bool x22))], [(1005000009, .vec C.Sapi_Line x16), (10, .lit [.flat (.bool x17), .flat (.int .u64 x18), .flat (.int .u64 x19), .flat (.int .i64 x20)])]⟩)
theorem pyxhand_Lines.j4000.finK_eq {ρ : Type} (y : (List Int × Int × Int × Int × Int × Bool × List Sapi_Line × Bool × Int × Int × Int)) (K : Out U → Option ρ) : pyxhand_Lines.j4000.finK y K = K (pyxhand_Lines.j4000.fin y) := by
  unfold pyxhand_Lines.j4000.finK pyxhand_Lines.j4000.fin
  first | rfl | (split <;> rfl)
noncomputable def pyxhand_Lines.j4000.re : Out U → Option ((List Int × Int × Int × Int × Int × Bool × List Sapi_Line × Bool × Int × Int × Int)) | .norm s => ((row_i64 (s.get 0)).bind fun q0 => ((vec_Sapi_Line s.o (s.get 9)).bind fun q1 => (match s.get 10, s.get 1, s.get 2, s.get 3, s.get 11, s.get 25, lk s.o 10 with | .ptr 10 0, .flat (.int .i64 x13), .flat (.int .i64 x14), .flat (.int .i64 x15), .flat (.int .i64 x21), .flat (.bool x22), some (.lit [.flat (.bool x17), .flat (.int .u64 x18), .flat (.int .u64 x19), .flat (.int .i64 x20)]) => some (q0, x13, x14, x15, x21, x22, q1.2, x17, x18, x19, x20) | _, _, _, _, _, _, _ => none))) | _ => none
noncomputable def pyxhand_Lines.j4000.J : JDen U := { Y := (List Int × Int × Int × Int × Int × Bool × List Sapi_Line × Bool × Int × Int × Int), re := pyxhand_Lines.j4000.re, fin := pyxhand_Lines.j4000.fin, finK := pyxhand_Lines.j4000.finK, finK_eq := pyxhand_Lines.j4000.finK_eq }
theorem pyxhand_Lines.j4000.fit (o : Out U) (y : (List Int × Int × Int × Int × Int × Bool × List Sapi_Line × Bool × Int × Int × Int)) (h : pyxhand_Lines.j4000.re o = some y) : FitsO o (pyxhand_Lines.j4000.fin y) := by
  unfold pyxhand_Lines.j4000.re at h
  split at h
  · obtain ⟨q0, eq0, h1⟩ := Option.bind_eq_some_iff.1 h
    obtain ⟨q1, eq1, h2⟩ := Option.bind_eq_some_iff.1 h1
    split at h2
    · cases h2
      refine fitsO_norm (fits_ren [(1005000009, q1.1)] ?_ ?_ ren_one rfl)
      · exact List.forall_mem_cons.2 ⟨FV.one (FV.ptr (by assumption)), List.forall_mem_cons.2 ⟨FV.one (row_i64_fit eq0), List.forall_mem_cons.2 ⟨FV.one (FV.same (by assumption) rfl), List.forall_mem_cons.2 ⟨FV.one (FV.same (by assumption) rfl), List.forall_mem_cons.2 ⟨FV.one (FV.same (by assumption) rfl), List.forall_mem_cons.2 ⟨FV.one (vec_Sapi_Line_fit eq1 rfl).1, List.forall_mem_cons.2 ⟨FV.one (FV.same (by assumption) rfl), List.forall_mem_cons.2 ⟨FV.one (FV.same (by assumption) rfl), fun _ hp => (List.not_mem_nil hp).elim⟩⟩⟩⟩⟩⟩⟩⟩
      · exact List.forall_mem_cons.2 ⟨(vec_Sapi_Line_fit eq1 rfl).2, List.forall_mem_cons.2 ⟨(FO.same (show lk (St.o _) 10 = some _ from by assumption) rfl), fun _ hp => (List.not_mem_nil hp).elim⟩⟩
    · cases h2
  · cases h
noncomputable def pyxhand_Lines.j8001.fin (y : (List Int × Int × Int × Int × Int × List Sapi_Line × Bool × Int × Int × Int × Int × Bool × Int × Int × Int × Int)) : Out U := match y with | (x28, x29, x30, x31, x37, x32, x33, x34, x35, x36, x38, x39, x40, x41, x42, x43) => .norm ⟨[(10, .ptr 10 0), (12, .ptr 12 0), (0, .row C.i64 x28), (1, .flat (.int .i64 x29)), (2, .flat (.int .i64 x30)), (3, .flat (.int .i64 x31)), (9, .vs 1009001009), (11, .flat (.int .i64 x37))], [(1009001009, .vec C.Sapi_Line x32), (10, .lit [.flat (.bool x33), .flat (.int .u64 x34), .flat (.int .u64 x35), .flat (.int .i64 x36)]), (12, .lit [.flat (.int .i64 x38), .flat (.bool x39), .flat (.int .u64 x40), .flat (.int .u64 x41), .flat (.int .i64 x42), .flat (.int .i64 x43)])]⟩
noncomputable def pyxhand_Lines.j8001.finK {ρ : Type} (y : (List Int × Int × Int × Int × Int × List Sapi_Line × Bool × Int × Int × Int × Int × Bool × Int × Int × Int × Int)) (K : Out U → Option ρ) : Option ρ := match y with | (x28, x29, x30, x31, x37, x32, x33, x34, x35, x36, x38, x39, x40, x41, x42, x43) => K (.norm ⟨[(10, .ptr 10 0), (12, .ptr 12 0), (0, .row C.i64 x28), (1, .flat (.int .i64 x29)), (2, .flat (.int .i64 x30)), (3, .flat (.int .i64 x31)), (9, .vs 1009001009), (11, .flat (.int .i64 x37))], [(1009001009, .vec C.Sapi_Line x32), (10, .lit [.flat (.bool x33), .flat (.int .u64 x34), .flat (.int .u64 x35), .flat (.int .i64 x36)]), (12, .lit [.flat (.int .i64 x38), .flat (.bool x39), .flat (.int .u64 x40), .flat (.int .u64 x41), .flat (.int .i64 x42), .flat (.int .i64 x43)])]⟩)
theorem pyxhand_Lines.j8001.finK_eq {ρ : Type} (y : (List Int × Int × Int × Int × Int × List Sapi_Line × Bool × Int × Int × Int × Int × Bool × Int × Int × Int × Int)) (K : Out U → Option ρ) : pyxhand_Lines.j8001.finK y K = K (pyxhand_Lines.j8001.fin y) := by
  unfold pyxhand_Lines.j8001.finK pyxhand_Lines.j8001.fin
  first | rfl | (split <;> rfl)
noncomputable def pyxhand_Lines.j8001.re : Out U → Option ((List Int × Int × Int × Int × Int × List Sapi_Line × Bool × Int × Int × Int × Int × Bool × Int × Int × Int × Int)) | .norm s => ((row_i64 (s.get 0)).bind fun q0 => ((vec_Sapi_Line s.o (s.get 9)).bind fun q1 => (match s.get 10, s.get 12, s.get 1, s.get 2, s.get 3, s.get 11, lk s.o 10, lk s.o 12 with | .ptr 10 0, .ptr 12 0, .flat (.int .i64 x29), .flat (.int .i64 x30), .flat (.int .i64 x31), .flat (.int .i64 x37), some (.lit [.flat (.bool x33), .flat (.int .u64 x34), .flat (.int .u64 x35), .flat (.int .i64 x36)]), some (.lit [.flat (.int .i64 x38), .flat (.bool x39), .flat (.int .u64 x40), .flat (.int .u64 x41), .flat (.int .i64 x42), .flat (.int .i64 x43)]) => some (q0, x29, x30, x31, x37, q1.2, x33, x34, x35, x36, x38, x39, x40, x41, x42, x43) | _, _, _, _, _, _, _, _ => none))) | _ => none
noncomputable def pyxhand_Lines.j8001.J : JDen U := { Y := (List Int × Int × Int × Int × Int × List Sapi_Line × Bool × Int × Int × Int × Int × Bool × Int × Int × Int × Int), re := pyxhand_Lines.j8001.re, fin := pyxhand_Lines.j8001.fin, finK := pyxhand_Lines.j8001.finK, finK_eq := pyxhand_Lines.j8001.finK_eq }
theorem pyxhand_Lines.j8001.fit (o : Out U) (y : (List Int × Int × Int × Int × Int × List Sapi_Line × Bool × Int × Int × Int × Int × Bool × Int × Int × Int × Int)) (h : pyxhand_Lines.j8001.re o = some y) : FitsO o (pyxhand_Lines.j8001.fin y) := by
  unfold pyxhand_Lines.j8001.re at h
  split at h
  · obtain ⟨q0, eq0, h1⟩ := Option.bind_eq_some_iff.1 h
    obtain ⟨q1, eq1, h2⟩ := Option.bind_eq_some_iff.1 h1
    split at h2
    · cases h2
      refine fitsO_norm (fits_ren [(1009001009, q1.1)] ?_ ?_ ren_one rfl)
      · exact List.forall_mem_cons.2 ⟨FV.one (FV.ptr (by assumption)), List.forall_mem_cons.2 ⟨FV.one (FV.ptr (by assumption)), List.forall_mem_cons.2 ⟨FV.one (row_i64_fit eq0), List.forall_mem_cons.2 ⟨FV.one (FV.same (by assumption) rfl), List.forall_mem_cons.2 ⟨FV.one (FV.same (by assumption) rfl), List.forall_mem_cons.2 ⟨FV.one (FV.same (by assumption) rfl), List.forall_mem_cons.2 ⟨FV.one (vec_Sapi_Line_fit eq1 rfl).1, List.forall_mem_cons.2 ⟨FV.one (FV.same (by assumption) rfl), fun _ hp => (List.not_mem_nil hp).elim⟩⟩⟩⟩⟩⟩⟩⟩
      · exact List.forall_mem_cons.2 ⟨(vec_Sapi_Line_fit eq1 rfl).2, List.forall_mem_cons.2 ⟨(FO.same (show lk (St.o _) 10 = some _ from by assumption) rfl), List.forall_mem_cons.2 ⟨(FO.same (show lk (St.o _) 12 = some _ from by assumption) rfl), fun _ hp => (List.not_mem_nil hp).elim⟩⟩⟩
    · cases h2
  · cases h
noncomputable def pyxhand_Lines.j10001.fin (y : (List Int × Int × Int × Int × Int × List Sapi_Line × Bool × Int × Int × Int × Int × Bool × Int × Int × Int × Int)) : Out U := match y with | (x47, x48, x49, x50, x56, x51, x52, x53, x54, x55, x57, x58, x59, x60, x61, x62) => .norm ⟨[(10, .ptr 10 0), (12, .ptr 12 0), (0, .row C.i64 x47), (1, .flat (.int .i64 x48)), (2, .flat (.int .i64 x49)), (3, .flat (.int .i64 x50)), (9, .vs 1011001009), (11, .flat (.int .i64 x56))], [(1011001009, .vec C.Sapi_Line x51), (10, .lit [.flat (.bool x52), .flat (.int .u64 x53), .flat (.int .u64 x54), .flat (.int .i64 x55)]), (12, .lit [.flat (.int .i64 x57), .flat (.bool x58), .flat (.int .u64 x59), .flat (.int .u64 x60), .flat (.int .i64 x61), .flat (.int .i64 x62)])]⟩
noncomputable def pyxhand_Lines.j10001.finK {ρ : Type} (y : (List Int × Int × Int × Int × Int × List Sapi_Line × Bool × Int × Int × Int × Int × Bool × Int × Int × Int × Int)) (K : Out U → Option ρ) : Option ρ := match y with | (x47, x48, x49, x50, x56, x51, x52, x53, x54, x55, x57, x58, x59, x60, x61, x62) => K (.norm ⟨[(10, .ptr 10 0), (12, .ptr 12 0), (0, .row C.i64 x47), (1, .flat (.int .i64 x48)), (2, .flat (.int .i64 x49)), (3, .flat (.int .i64 x50)), (9, .vs 1011001009), (11, .flat (.int .i64 x56))], [(1011001009, .vec C.Sapi_Line x51), (10, .lit [.flat (.bool x52), .flat (.int .u64 x53), .flat (.int .u64 x54), .flat (.int .i64 x55)]), (12, .lit [.flat (.int .i64 x57), .flat (.bool x58), .flat (.int .u64 x59), .flat (.int .u64 x60), .flat (.int .i64 x61), .flat (.int .i64 x62)])]⟩)
theorem pyxhand_Lines.j10001.finK_eq {ρ : Type} (y : (List Int × Int × Int × Int × Int × List Sapi_Line × Bool × Int × Int × Int × Int × Bool × Int × Int × Int × Int)) (K : Out U → Option ρ) : pyxhand_Lines.j10001.finK y K = K (pyxhand_Lines.j10001.fin y) := by
  unfold pyxhand_Lines.j10001.finK pyxhand_Lines.j10001.fin
  first | rfl | (split <;> rfl)
noncomputable def pyxhand_Lines.j10001.re : Out U → Option ((List Int × Int × Int × Int × Int × List Sapi_Line × Bool × Int × Int × Int × Int × Bool × Int × Int × Int × Int)) | .norm s => ((row_i64 (s.get 0)).bind fun q0 => ((vec_Sapi_Line s.o (s.get 9)).bind fun q1 => (match s.get 10, s.get 12, s.get 1, s.get 2, s.get 3, s.get 11, lk s.o 10, lk s.o 12 with | .ptr 10 0, .ptr 12 0, .flat (.int .i64 x48), .flat (.int .i64 x49), .flat (.int .i64 x50), .flat (.int .i64 x56), some (.lit [.flat (.bool x52), .flat (.int .u64 x53), .flat (.int .u64 x54), .flat (.int .i64 x55)]), some (.lit [.flat (.int .i64 x57), .flat (.bool x58), .flat (.int .u64 x59), .flat (.int .u64 x60), .flat (.int .i64 x61), .flat (.int .i64 x62)]) => some (q0, x48, x49, x50, x56, q1.2, x52, x53, x54, x55, x57, x58, x59, x60, x61, x62) | _, _, _, _, _, _, _, _ => none))) | _ => none
noncomputable def pyxhand_Lines.j10001.J : JDen U := { Y := (List Int × Int × Int × Int × Int × List Sapi_Line × Bool × Int × Int × Int × Int × Bool × Int × Int × Int × Int), re := pyxhand_Lines.j10001.re, fin := pyxhand_Lines.j10001.fin, finK := pyxhand_Lines.j10001.finK, finK_eq := pyxhand_Lines.j10001.finK_eq }
theorem pyxhand_Lines.j10001.fit (o : Out U) (y : (List Int × Int × Int × Int × Int × List Sapi_Line × Bool × Int × Int × Int × Int × Bool × Int × Int × Int × Int)) (h : pyxhand_Lines.j10001.re o = some y) : FitsO o (pyxhand_Lines.j10001.fin y) := by
  unfold pyxhand_Lines.j10001.re at h
  split at h
  · obtain ⟨q0, eq0, h1⟩ := Option.bind_eq_some_iff.1 h
    obtain ⟨q1, eq1, h2⟩ := Option.bind_eq_some_iff.1 h1
    split at h2
    · cases h2
      refine fitsO_norm (fits_ren [(1011001009, q1.1)] ?_ ?_ ren_one rfl)
      · exact List.forall_mem_cons.2 ⟨FV.one (FV.ptr (by assumption)), List.forall_mem_cons.2 ⟨FV.one (FV.ptr (by assumption)), List.forall_mem_cons.2 ⟨FV.one (row_i64_fit eq0), List.forall_mem_cons.2 ⟨FV.one (FV.same (by assumption) rfl), List.forall_mem_cons.2 ⟨FV.one (FV.same (by assumption) rfl), List.forall_mem_cons.2 ⟨FV.one (FV.same (by assumption) rfl), List.forall_mem_cons.2 ⟨FV.one (vec_Sapi_Line_fit eq1 rfl).1, List.forall_mem_cons.2 ⟨FV.one (FV.same (by assumption) rfl), fun _ hp => (List.not_mem_nil hp).elim⟩⟩⟩⟩⟩⟩⟩⟩
      · exact List.forall_mem_cons.2 ⟨(vec_Sapi_Line_fit eq1 rfl).2, List.forall_mem_cons.2 ⟨(FO.same (show lk (St.o _) 10 = some _ from by assumption) rfl), List.forall_mem_cons.2 ⟨(FO.same (show lk (St.o _) 12 = some _ from by assumption) rfl), fun _ hp => (List.not_mem_nil hp).elim⟩⟩⟩
    · cases h2
  · cases h
noncomputable def pyxhand_Lines.j6001.fin (y : (List Int × Int × Int × Int × Int × List Sapi_Line × Bool × Int × Int × Int)) : Out U := match y with | (x65, x66, x67, x68, x74, x69, x70, x71, x72, x73) => .norm ⟨[(10, .ptr 10 0), (0, .row C.i64 x65), (1, .flat (.int .i64 x66)), (2, .flat (.int .i64 x67)), (3, .flat (.int .i64 x68)), (9, .vs 1007001009), (11, .flat (.int .i64 x74))], [(1007001009, .vec C.Sapi_Line x69), (10, .lit [.flat (.bool x70), .flat (.int .u64 x71), .flat (.int .u64 x72), .flat (.int .i64 x73)])]⟩
noncomputable def pyxhand_Lines.j6001.finK {ρ : Type} (y : (List Int × Int × Int × Int × Int × List Sapi_Line × Bool × Int × Int × Int)) (K : Out U → Option ρ) : Option ρ := match y with | (x65, x66, x67, x68, x74, x69, x70, x71, x72, x73) => K (.norm ⟨[(10, .ptr 10 0), (0, .row C.i64 x65), (1, .flat (.int .i64 x66)), (2, .flat (.int .i64 x67)), (3, .flat (.int .i64 x68)), (9, .vs 1007001009), (11, .flat (.int .i64 x74))], [(1007001009, .vec C.Sapi_Line x69), (10, .lit [.flat (.bool x70), .flat (.int .u64 x71), .flat (.int .u64 x72), .flat (.int .i64 x73)])]⟩)
theorem pyxhand_Lines.j6001.finK_eq {ρ : Type} (y : (List Int × Int × Int × Int × Int × List Sapi_Line × Bool × Int × Int × Int)) (K : Out U → Option ρ) : pyxhand_Lines.j6001.finK y K = K (pyxhand_Lines.j6001.fin y) := by
  unfold pyxhand_Lines.j6001.finK pyxhand_Lines.j6001.fin
  first | rfl | (split <;> rfl)
noncomputable def pyxhand_Lines.j6001.re : Out U → Option ((List Int × Int × Int × Int × Int × List Sapi_Line × Bool × Int × Int × Int)) | .norm s => ((row_i64 (s.get 0)).bind fun q0 => ((vec_Sapi_Line s.o (s.get 9)).bind fun q1 => (match s.get 10, s.get 1, s.get 2, s.get 3, s.get 11, lk s.o 10 with | .ptr 10 0, .flat (.int .i64 x66), .flat (.int .i64 x67), .flat (.int .i64 x68), .flat (.int .i64 x74), some (.lit [.flat (.bool x70), .flat (.int .u64 x71), .flat (.int .u64 x72), .flat (.int .i64 x73)]) => some (q0, x66, x67, x68, x74, q1.2, x70, x71, x72, x73) | _, _, _, _, _, _ => none))) | _ => none
noncomputable def pyxhand_Lines.j6001.J : JDen U := { Y := (List Int × Int × Int × Int × Int × List Sapi_Line × Bool × Int × Int × Int), re := pyxhand_Lines.j6001.re, fin := pyxhand_Lines.j6001.fin, finK := pyxhand_Lines.j6001.finK, finK_eq := pyxhand_Lines.j6001.finK_eq }
theorem pyxhand_Lines.j6001.fit (o : Out U) (y : (List Int × Int × Int × Int × Int × List Sapi_Line × Bool × Int × Int × Int)) (h : pyxhand_Lines.j6001.re o = some y) : FitsO o (pyxhand_Lines.j6001.fin y) := by
  unfold pyxhand_Lines.j6001.re at h
  split at h
  · obtain ⟨q0, eq0, h1⟩ := Option.bind_eq_some_iff.1 h
    obtain ⟨q1, eq1, h2⟩ := Option.bind_eq_some_iff.1 h1
    split at h2
    · cases h2
      refine fitsO_norm (fits_ren [(1007001009, q1.1)] ?_ ?_ ren_one rfl)
      · exact List.forall_mem_cons.2 ⟨FV.one (FV.ptr (by assumption)), List.forall_mem_cons.2 ⟨FV.one (row_i64_fit eq0), List.forall_mem_cons.2 ⟨FV.one (FV.same (by assumption) rfl), List.forall_mem_cons.2 ⟨FV.one (FV.same (by assumption) rfl), List.forall_mem_cons.2 ⟨FV.one (FV.same (by assumption) rfl), List.forall_mem_cons.2 ⟨FV.one (vec_Sapi_Line_fit eq1 rfl).1, List.forall_mem_cons.2 ⟨FV.one (FV.same (by assumption) rfl), fun _ hp => (List.not_mem_nil hp).elim⟩⟩⟩⟩⟩⟩⟩
      · exact List.forall_mem_cons.2 ⟨(vec_Sapi_Line_fit eq1 rfl).2, List.forall_mem_cons.2 ⟨(FO.same (show lk (St.o _) 10 = some _ from by assumption) rfl), fun _ hp => (List.not_mem_nil hp).elim⟩⟩
    · cases h2
  · cases h
noncomputable def pyxhand_Lines.j13000.fin (y : (Int × Int × Bool × List Sapi_Line × Bool × Int × Int × Int)) : Out U := match y with | (x85, x86, x92, x87, x88, x89, x90, x91) => .norm ⟨[(10, .ptr 10 0), (1, .flat (.int .i64 x85)), (2, .flat (.int .i64 x86)), (9, .vs 1014000009), (78, .flat (.bool x92))], [(1014000009, .vec C.Sapi_Line x87), (10, .lit [.flat (.bool x88), .flat (.int .u64 x89), .flat (.int .u64 x90), .flat (.int .i64 x91)])]⟩
noncomputable def pyxhand_Lines.j13000.finK {ρ : Type} (y : (Int × Int × Bool × List Sapi_Line × Bool × Int × Int × Int)) (K : Out U → Option ρ) : Option ρ := match y with | (x85, x86, x92, x87, x88, x89, x90, x91) => K (.norm ⟨[(10, .ptr 10 0), (1, .flat (.int .i64 x85)), (2, .flat (.int .i64 x86)), (9, .vs 1014000009), (78, .flat (.bool x92))], [(1014000009, .vec C.Sapi_Line x87), (10, .lit [.flat (.bool x88), .flat (.int .u64 x89), .flat (.int .u64 x90), .flat (.int .i64 x91)])]⟩)
theorem pyxhand_Lines.j13000.finK_eq {ρ : Type} (y : (Int × Int × Bool × List Sapi_Line × Bool × Int × Int × Int)) (K : Out U → Option ρ) : pyxhand_Lines.j13000.finK y K = K (pyxhand_Lines.j13000.fin y) := by
  unfold pyxhand_Lines.j13000.finK pyxhand_Lines.j13000.fin
  first | rfl | (split <;> rfl)
noncomputable def pyxhand_Lines.j13000.re : Out U → Option ((Int × Int × Bool × List Sapi_Line × Bool × Int × Int × Int)) | .norm s => ((vec_Sapi_Line s.o (s.get 9)).bind fun q0 => (match s.get 10, s.get 1, s.get 2, s.get 78, lk s.o 10 with | .ptr 10 0, .flat (.int .i64 x85), .flat (.int .i64 x86), .flat (.bool x92), some (.lit [.flat (.bool x88), .flat (.int .u64 x89), .flat (.int .u64 x90), .flat (.int .i64 x91)]) => some (x85, x86, x92, q0.2, x88, x89, x90, x91) | _, _, _, _, _ => none)) | _ => none
noncomputable def pyxhand_Lines.j13000.J : JDen U := { Y := (Int × Int × Bool × List Sapi_Line × Bool × Int × Int × Int), re := pyxhand_Lines.j13000.re, fin := pyxhand_Lines.j13000.fin, finK := pyxhand_Lines.j13000.finK, finK_eq := pyxhand_Lines.j13000.finK_eq }
theorem pyxhand_Lines.j13000.fit (o : Out U) (y : (Int × Int × Bool × List Sapi_Line × Bool × Int × Int × Int)) (h : pyxhand_Lines.j13000.re o = some y) : FitsO o (pyxhand_Lines.j13000.fin y) := by
  unfold pyxhand_Lines.j13000.re at h
  split at h
  · obtain ⟨q0, eq0, h1⟩ := Option.bind_eq_some_iff.1 h
    split at h1
    · cases h1
      refine fitsO_norm (fits_ren [(1014000009, q0.1)] ?_ ?_ ren_one rfl)
      · exact List.forall_mem_cons.2 ⟨FV.one (FV.ptr (by assumption)), List.forall_mem_cons.2 ⟨FV.one (FV.same (by assumption) rfl), List.forall_mem_cons.2 ⟨FV.one (FV.same (by assumption) rfl), List.forall_mem_cons.2 ⟨FV.one (vec_Sapi_Line_fit eq0 rfl).1, List.forall_mem_cons.2 ⟨FV.one (FV.same (by assumption) rfl), fun _ hp => (List.not_mem_nil hp).elim⟩⟩⟩⟩⟩
      · exact List.forall_mem_cons.2 ⟨(vec_Sapi_Line_fit eq0 rfl).2, List.forall_mem_cons.2 ⟨(FO.same (show lk (St.o _) 10 = some _ from by assumption) rfl), fun _ hp => (List.not_mem_nil hp).elim⟩⟩
    · cases h1
  · cases h
noncomputable def pyxhand_Lines.j16001.fin (y : (Int × List Sapi_Line × Int × Bool × Int × Int × Int × Int)) : Out U := match y with | (x97, x98, x99, x100, x101, x102, x103, x104) => .norm ⟨[(13, .ptr 13 0), (2, .flat (.int .i64 x97)), (9, .vs 1017001009)], [(1017001009, .vec C.Sapi_Line x98), (13, .lit [.flat (.int .i64 x99), .flat (.bool x100), .flat (.int .u64 x101), .flat (.int .u64 x102), .flat (.int .i64 x103), .flat (.int .i64 x104)])]⟩
noncomputable def pyxhand_Lines.j16001.finK {ρ : Type} (y : (Int × List Sapi_Line × Int × Bool × Int × Int × Int × Int)) (K : Out U → Option ρ) : Option ρ := match y with | (x97, x98, x99, x100, x101, x102, x103, x104) => K (.norm ⟨[(13, .ptr 13 0), (2, .flat (.int .i64 x97)), (9, .vs 1017001009)], [(1017001009, .vec C.Sapi_Line x98), (13, .lit [.flat (.int .i64 x99), .flat (.bool x100), .flat (.int .u64 x101), .flat (.int .u64 x102), .flat (.int .i64 x103), .flat (.int .i64 x104)])]⟩)
theorem pyxhand_Lines.j16001.finK_eq {ρ : Type} (y : (Int × List Sapi_Line × Int × Bool × Int × Int × Int × Int)) (K : Out U → Option ρ) : pyxhand_Lines.j16001.finK y K = K (pyxhand_Lines.j16001.fin y) := by
  unfold pyxhand_Lines.j16001.finK pyxhand_Lines.j16001.fin
  first | rfl | (split <;> rfl)
noncomputable def pyxhand_Lines.j16001.re : Out U → Option ((Int × List Sapi_Line × Int × Bool × Int × Int × Int × Int)) | .norm s => ((vec_Sapi_Line s.o (s.get 9)).bind fun q0 => (match s.get 13, s.get 2, lk s.o 13 with | .ptr 13 0, .flat (.int .i64 x97), some (.lit [.flat (.int .i64 x99), .flat (.bool x100), .flat (.int .u64 x101), .flat (.int .u64 x102), .flat (.int .i64 x103), .flat (.int .i64 x104)]) => some (x97, q0.2, x99, x100, x101, x102, x103, x104) | _, _, _ => none)) | _ => none
noncomputable def pyxhand_Lines.j16001.J : JDen U := { Y := (Int × List Sapi_Line × Int × Bool × Int × Int × Int × Int), re := pyxhand_Lines.j16001.re, fin := pyxhand_Lines.j16001.fin, finK := pyxhand_Lines.j16001.finK, finK_eq := pyxhand_Lines.j16001.finK_eq }
theorem pyxhand_Lines.j16001.fit (o : Out U) (y : (Int × List Sapi_Line × Int × Bool × Int × Int × Int × Int)) (h : pyxhand_Lines.j16001.re o = some y) : FitsO o (pyxhand_Lines.j16001.fin y) := by
  unfold pyxhand_Lines.j16001.re at h
  split at h
  · obtain ⟨q0, eq0, h1⟩ := Option.bind_eq_some_iff.1 h
    split at h1
    · cases h1
      refine fitsO_norm (fits_ren [(1017001009, q0.1)] ?_ ?_ ren_one rfl)
      · exact List.forall_mem_cons.2 ⟨FV.one (FV.ptr (by assumption)), List.forall_mem_cons.2 ⟨FV.one (FV.same (by assumption) rfl), List.forall_mem_cons.2 ⟨FV.one (vec_Sapi_Line_fit eq0 rfl).1, fun _ hp => (List.not_mem_nil hp).elim⟩⟩⟩
      · exact List.forall_mem_cons.2 ⟨(vec_Sapi_Line_fit eq0 rfl).2, List.forall_mem_cons.2 ⟨(FO.same (show lk (St.o _) 13 = some _ from by assumption) rfl), fun _ hp => (List.not_mem_nil hp).elim⟩⟩
    · cases h1
  · cases h
noncomputable def pyxhand_Lines.j14001.fin (y : (Int × List Sapi_Line)) : Out U := match y with | (x106, x107) => .norm ⟨[(2, .flat (.int .i64 x106)), (9, .vs 1015001009)], [(1015001009, .vec C.Sapi_Line x107)]⟩
noncomputable def pyxhand_Lines.j14001.finK {ρ : Type} (y : (Int × List Sapi_Line)) (K : Out U → Option ρ) : Option ρ := match y with | (x106, x107) => K (.norm ⟨[(2, .flat (.int .i64 x106)), (9, .vs 1015001009)], [(1015001009, .vec C.Sapi_Line x107)]⟩)
theorem pyxhand_Lines.j14001.finK_eq {ρ : Type} (y : (Int × List Sapi_Line)) (K : Out U → Option ρ) : pyxhand_Lines.j14001.finK y K = K (pyxhand_Lines.j14001.fin y) := by
  unfold pyxhand_Lines.j14001.finK pyxhand_Lines.j14001.fin
  first | rfl | (split <;> rfl)
noncomputable def pyxhand_Lines.j14001.re : Out U → Option ((Int × List Sapi_Line)) | .norm s => ((vec_Sapi_Line s.o (s.get 9)).bind fun q0 => (match s.get 2 with | .flat (.int .i64 x106) => some (x106, q0.2) | _ => none)) | _ => none
noncomputable def pyxhand_Lines.j14001.J : JDen U := { Y := (Int × List Sapi_Line), re := pyxhand_Lines.j14001.re, fin := pyxhand_Lines.j14001.fin, finK := pyxhand_Lines.j14001.finK, finK_eq := pyxhand_Lines.j14001.finK_eq }
theorem pyxhand_Lines.j14001.fit (o : Out U) (y : (Int × List Sapi_Line)) (h : pyxhand_Lines.j14001.re o = some y) : FitsO o (pyxhand_Lines.j14001.fin y) := by
  unfold pyxhand_Lines.j14001.re at h
  split at h
  · obtain ⟨q0, eq0, h1⟩ := Option.bind_eq_some_iff.1 h
    split at h1
    · cases h1
      refine fitsO_norm (fits_ren [(1015001009, q0.1)] ?_ ?_ ren_one rfl)
      · exact List.forall_mem_cons.2 ⟨FV.one (FV.same (by assumption) rfl), List.forall_mem_cons.2 ⟨FV.one (vec_Sapi_Line_fit eq0 rfl).1, fun _ hp => (List.not_mem_nil hp).elim⟩⟩
      · exact List.forall_mem_cons.2 ⟨(vec_Sapi_Line_fit eq0 rfl).2, fun _ hp => (List.not_mem_nil hp).elim⟩
    · cases h1
  · cases h
noncomputable def pyxhand_Lines.jl : List (Nat × JDen U) := [(4000, pyxhand_Lines.j4000.J), (8001, pyxhand_Lines.j8001.J), (10001, pyxhand_Lines.j10001.J), (6001, pyxhand_Lines.j6001.J), (13000, pyxhand_Lines.j13000.J), (16001, pyxhand_Lines.j16001.J), (14001, pyxhand_Lines.j14001.J)]
noncomputable def pyxhand_Lines.fl (k : Nat) : List (Nat × FDen U) := [(35, pyxref11_Zero.D k), (25, pyxhand_Pick.D k), (66, pyxhand_Amount.D k), (67, pyxref11_IsWith.D k), (68, pyxref1_Sign.D k), (17, pyxref1_Of.D k), (69, pyxref1_Add.D k), (70, pyxref1_Neg.D k), (21, pyxhand_Dec.D k)]
noncomputable def pyxhand_Lines.ll (k : Nat) : List (Nat × LDen U) := [(4, pyxhand_Lines.l4.L k), (28, pyxhand_Lines.l28.L k)]
noncomputable def pyxhand_Lines.E (k : Nat) : Env U := { P := Try.prog, D := DD, fd := lk (pyxhand_Lines.fl k), ld := lk (pyxhand_Lines.ll k), jd := lk pyxhand_Lines.jl, mode := lk [], elc := lk ec, mpc := lk mc, rts := Try.f29.resultTypes.toList, dyn := fun t => false, vecs := fun d => Nat.beq d 9, results := Try.f29.results.toList, gh := [], own := false, io := fun g i => false }
theorem pyxhand_Lines.ok (k : Nat) : EnvOk (pyxhand_Lines.E k) := envOk lawful (pyxhand_Lines.fl k) (pyxhand_Lines.ll k) pyxhand_Lines.jl _ _ _ _ _ _ _ _ _ _ (by
  intro p hp
  simp only [pyxhand_Lines.fl, List.mem_cons, List.not_mem_nil, or_false] at hp
  rcases hp with rfl | rfl | rfl | rfl | rfl | rfl | rfl | rfl | rfl
  · exact ⟨pyxref11_Zero.sound k, enter_of Try.func35 (by kernel_rfl) (by kernel_rfl)⟩
  · exact ⟨pyxhand_Pick.sound k, enter_of Try.func25 (by kernel_rfl) (by kernel_rfl)⟩
  · exact ⟨pyxhand_Amount.sound k, enter_of Try.func66 (by kernel_rfl) (by kernel_rfl)⟩
  · exact ⟨pyxref11_IsWith.sound k, enter_of Try.func67 (by kernel_rfl) (by kernel_rfl)⟩
  · exact ⟨pyxref1_Sign.sound k, enter_of Try.func68 (by kernel_rfl) (by kernel_rfl)⟩
  · exact ⟨pyxref1_Of.sound k, enter_of Try.func17 (by kernel_rfl) (by kernel_rfl)⟩
  · exact ⟨pyxref1_Add.sound k, enter_of Try.func69 (by kernel_rfl) (by kernel_rfl)⟩
  · exact ⟨pyxref1_Neg.sound k, enter_of Try.func70 (by kernel_rfl) (by kernel_rfl)⟩
  · exact ⟨pyxhand_Dec.sound k, enter_of Try.func21 (by kernel_rfl) (by kernel_rfl)⟩) (by
  intro p hp
  simp only [pyxhand_Lines.jl, List.mem_cons, List.not_mem_nil, or_false] at hp
  rcases hp with rfl | rfl | rfl | rfl | rfl | rfl | rfl
  · exact pyxhand_Lines.j4000.fit
  · exact pyxhand_Lines.j8001.fit
  · exact pyxhand_Lines.j10001.fit
  · exact pyxhand_Lines.j6001.fit
  · exact pyxhand_Lines.j13000.fit
  · exact pyxhand_Lines.j16001.fit
  · exact pyxhand_Lines.j14001.fit)
theorem pyxhand_Lines.l4.eq (k : Nat) (x : (List Int × Int × Int × Int × Int × List Sapi_Line × Bool × Int × Int × Int)) : evC (pyxhand_Lines.E k) (loopAt Try.f29 4) (pyxhand_Lines.l4.mk x) (headK pyxhand_Lines.l4.un pyxhand_Lines.l4.re) = pyxhand_Lines.l4.once k x := by kernel_rfl
theorem pyxhand_Lines.l4.fit (s : St U) (x : (List Int × Int × Int × Int × Int × List Sapi_Line × Bool × Int × Int × Int)) (h : pyxhand_Lines.l4.un s = some x) : Fits s (pyxhand_Lines.l4.mk x) := by
  unfold pyxhand_Lines.l4.un at h
  obtain ⟨q0, eq0, h1⟩ := Option.bind_eq_some_iff.1 h
  obtain ⟨q1, eq1, h2⟩ := Option.bind_eq_some_iff.1 h1
  split at h2
  · cases h2
    refine fits_ren [(1004009, q1.1)] ?_ ?_ ren_one rfl
    · exact List.forall_mem_cons.2 ⟨FV.one (FV.ptr (by assumption)), List.forall_mem_cons.2 ⟨FV.one (row_i64_fit eq0), List.forall_mem_cons.2 ⟨FV.one (FV.same (by assumption) rfl), List.forall_mem_cons.2 ⟨FV.one (FV.same (by assumption) rfl), List.forall_mem_cons.2 ⟨FV.one (FV.same (by assumption) rfl), List.forall_mem_cons.2 ⟨FV.one (vec_Sapi_Line_fit eq1 rfl).1, List.forall_mem_cons.2 ⟨FV.one (FV.same (by assumption) rfl), fun _ hp => (List.not_mem_nil hp).elim⟩⟩⟩⟩⟩⟩⟩
    · exact List.forall_mem_cons.2 ⟨(vec_Sapi_Line_fit eq1 rfl).2, List.forall_mem_cons.2 ⟨(FO.same (show lk (St.o _) 10 = some _ from by assumption) rfl), fun _ hp => (List.not_mem_nil hp).elim⟩⟩
  · cases h2
theorem pyxhand_Lines.l4.fitO (o : Out U) (y : (Int × Int × List Sapi_Line × Bool × Int × Int × Int)) (h : pyxhand_Lines.l4.re o = some y) : FitsO o (pyxhand_Lines.l4.fin y) := by
  unfold pyxhand_Lines.l4.re at h
  split at h
  · obtain ⟨q0, eq0, h1⟩ := Option.bind_eq_some_iff.1 h
    split at h1
    · cases h1
      refine fitsO_exit (fits_ren [(1004009, q0.1)] ?_ ?_ ren_one rfl)
      · exact List.forall_mem_cons.2 ⟨FV.one (FV.ptr (by assumption)), List.forall_mem_cons.2 ⟨FV.one (FV.same (by assumption) rfl), List.forall_mem_cons.2 ⟨FV.one (FV.same (by assumption) rfl), List.forall_mem_cons.2 ⟨FV.one (vec_Sapi_Line_fit eq0 rfl).1, fun _ hp => (List.not_mem_nil hp).elim⟩⟩⟩⟩
      · exact List.forall_mem_cons.2 ⟨(vec_Sapi_Line_fit eq0 rfl).2, List.forall_mem_cons.2 ⟨(FO.same (show lk (St.o _) 10 = some _ from by assumption) rfl), fun _ hp => (List.not_mem_nil hp).elim⟩⟩
    · cases h1
  · cases h
theorem pyxhand_Lines.l4.sound (k : Nat) : LSound (pyxhand_Lines.E k) Try.f29.ntmps Try.f29 (loopAt Try.f29 4) (pyxhand_Lines.l4.L k) :=
  loop_sound (pyxhand_Lines.ok k) mixed rfl (by kernel_rfl) (allL_of (l := []) (by kernel_rfl) allL_nil) pyxhand_Lines.l4.un pyxhand_Lines.l4.mk pyxhand_Lines.l4.fin pyxhand_Lines.l4.re (pyxhand_Lines.l4.once k) k pyxhand_Lines.l4.fit pyxhand_Lines.l4.fitO (pyxhand_Lines.l4.eq k) pyxhand_Lines.l4.finK pyxhand_Lines.l4.finK_eq
theorem pyxhand_Lines.l28.eq (k : Nat) (x : (Int × List Sapi_Line)) : evC (pyxhand_Lines.E k) (loopAt Try.f29 28) (pyxhand_Lines.l28.mk x) (headK pyxhand_Lines.l28.un pyxhand_Lines.l28.re) = pyxhand_Lines.l28.once k x := by kernel_rfl
theorem pyxhand_Lines.l28.fit (s : St U) (x : (Int × List Sapi_Line)) (h : pyxhand_Lines.l28.un s = some x) : Fits s (pyxhand_Lines.l28.mk x) := by
  unfold pyxhand_Lines.l28.un at h
  obtain ⟨q0, eq0, h1⟩ := Option.bind_eq_some_iff.1 h
  split at h1
  · cases h1
    refine fits_ren [(1028009, q0.1)] ?_ ?_ ren_one rfl
    · exact List.forall_mem_cons.2 ⟨FV.one (FV.same (by assumption) rfl), List.forall_mem_cons.2 ⟨FV.one (vec_Sapi_Line_fit eq0 rfl).1, fun _ hp => (List.not_mem_nil hp).elim⟩⟩
    · exact List.forall_mem_cons.2 ⟨(vec_Sapi_Line_fit eq0 rfl).2, fun _ hp => (List.not_mem_nil hp).elim⟩
  · cases h1
theorem pyxhand_Lines.l28.fitO (o : Out U) (y : (Int × List Sapi_Line)) (h : pyxhand_Lines.l28.re o = some y) : FitsO o (pyxhand_Lines.l28.fin y) := by
  unfold pyxhand_Lines.l28.re at h
  split at h
  · obtain ⟨q0, eq0, h1⟩ := Option.bind_eq_some_iff.1 h
    split at h1
    · cases h1
      refine fitsO_exit (fits_ren [(1028009, q0.1)] ?_ ?_ ren_one rfl)
      · exact List.forall_mem_cons.2 ⟨FV.one (FV.same (by assumption) rfl), List.forall_mem_cons.2 ⟨FV.one (vec_Sapi_Line_fit eq0 rfl).1, fun _ hp => (List.not_mem_nil hp).elim⟩⟩
      · exact List.forall_mem_cons.2 ⟨(vec_Sapi_Line_fit eq0 rfl).2, fun _ hp => (List.not_mem_nil hp).elim⟩
    · cases h1
  · cases h
theorem pyxhand_Lines.l28.sound (k : Nat) : LSound (pyxhand_Lines.E k) Try.f29.ntmps Try.f29 (loopAt Try.f29 28) (pyxhand_Lines.l28.L k) :=
  loop_sound (pyxhand_Lines.ok k) mixed rfl (by kernel_rfl) (allL_of (l := []) (by kernel_rfl) allL_nil) pyxhand_Lines.l28.un pyxhand_Lines.l28.mk pyxhand_Lines.l28.fin pyxhand_Lines.l28.re (pyxhand_Lines.l28.once k) k pyxhand_Lines.l28.fit pyxhand_Lines.l28.fitO (pyxhand_Lines.l28.eq k) pyxhand_Lines.l28.finK pyxhand_Lines.l28.finK_eq
theorem pyxhand_Lines.eq (k : Nat) (x : (List Int × Int × Int × Int)) : runF (pyxhand_Lines.E k) (codeOf Try.f29) (pyxhand_Lines.mk x) pyxhand_Lines.re = (pyxhand_Lines.D k).f x := by kernel_rfl
theorem pyxhand_Lines.fit (s : St U) (x : (List Int × Int × Int × Int)) (h : pyxhand_Lines.un s = some x) : Fits s (pyxhand_Lines.mk x) := by
  unfold pyxhand_Lines.un at h
  split at h
  · cases h
    refine fits_ren [] ?_ ?_ ren_nil rfl
    · exact List.forall_mem_cons.2 ⟨FV.one (FV.same (by assumption) rfl), List.forall_mem_cons.2 ⟨FV.one (FV.same (by assumption) rfl), List.forall_mem_cons.2 ⟨FV.one (FV.same (by assumption) rfl), List.forall_mem_cons.2 ⟨FV.one (FV.same (by assumption) rfl), fun _ hp => (List.not_mem_nil hp).elim⟩⟩⟩⟩
    · exact fun _ hp => (List.not_mem_nil hp).elim
  · cases h
theorem pyxhand_Lines.fitR (s : St U) (y : List Sapi_Line) (h : pyxhand_Lines.re s = some y) : Fits s (pyxhand_Lines.fin y) := by
  unfold pyxhand_Lines.re at h
  split at h
  · cases h
    refine fits_ren [] ?_ ?_ ren_nil rfl
    · exact List.forall_mem_cons.2 ⟨FV.one (FV.same (by assumption) rfl), fun _ hp => (List.not_mem_nil hp).elim⟩
    · exact fun _ hp => (List.not_mem_nil hp).elim
  · cases h
theorem pyxhand_Lines.sound (k : Nat) : Sound Try.prog DD 29 (pyxhand_Lines.D k) :=
  fun_sound (E := pyxhand_Lines.E k) (fn := Try.f29) (c := codeOf Try.f29) (pyxhand_Lines.ok k) mixed rfl Try.func29 (by kernel_rfl) (by kernel_rfl) (allL_of (l := [loopAt Try.f29 4, loopAt Try.f29 28]) (by kernel_rfl) (allL_cons (key := 4) (by kernel_rfl) rfl (pyxhand_Lines.l4.sound k) (allL_cons (key := 28) (by kernel_rfl) rfl (pyxhand_Lines.l28.sound k) allL_nil))) (pyxhand_Lines.D k) pyxhand_Lines.mk pyxhand_Lines.re (by kernel_rfl) (by kernel_rfl) pyxhand_Lines.fit pyxhand_Lines.fitR (pyxhand_Lines.eq k)
end
end Go.Proofs.Ytlaogfkgkpgofaa
