import Derived.Test.YtlaogfkgkpgofaaF2
/-! Functions, told; their equations with the evaluator; that they are sound. Written by gen.py. -/
namespace Go.Proofs.Ytlaogfkgkpgofaa
open Go Go.Ev
noncomputable section
set_option linter.unusedVariables false
set_option linter.unusedSimpArgs false
set_option maxRecDepth 100000
/-! ### pyx/pyxref1.Make: function 58 -/
noncomputable def pyxref1_Make.f (k : Nat) (a0 : Bool) (a1 : List Int) (a2 : Int) : Option (Sapi_Dec × Int) := ((cond (decide ((List.length a1 : Int) > 30)) (some (a0, a1, a2, true, false, 0, 0, 0)) (cond (decide (a2 < 0)) (some (a0, a1, a2, true, false, 0, 0, 0)) (some (a0, a1, a2, decide (a2 > 9), false, 0, 0, 0)))) : Option (Bool × List Int × Int × Bool × Bool × Int × Int × Int)).bind fun y9 => (cond (y9.2.2.2.1) (some ((⟨false, (0, 0), 0⟩ : Sapi_Dec), 3)) ((pyxref1_Words2.f k y9.2.1).bind fun t10 => (cond (y9.1) (some ((⟨decide ((List.length y9.2.1 : Int) > 0), (t10.1.1, t10.1.2), y9.2.2.1⟩ : Sapi_Dec), 0)) (some ((⟨false, (t10.1.1, t10.1.2), y9.2.2.1⟩ : Sapi_Dec), 0)))))
noncomputable def pyxref1_Make.un (s : St U) : Option (Bool × List Int × Int) := match s.get 0, s.get 1, s.get 2 with | .flat (.bool x1), .row C.i64 x2, .flat (.int .i64 x3) => some (x1, x2, x3) | _, _, _ => none
noncomputable def pyxref1_Make.mk (x : (Bool × List Int × Int)) : St U := ⟨[(0, .flat (.bool x.1)), (1, .row C.i64 x.2.1), (2, .flat (.int .i64 x.2.2))], []⟩
noncomputable def pyxref1_Make.fin (y : (Sapi_Dec × Int)) : St U := ⟨[(0, .tup [.agg [.flat (.bool y.1.f_Neg), .flat (.int .u64 y.1.f_C.1), .flat (.int .u64 y.1.f_C.2), .flat (.int .i64 y.1.f_Scale)], .flat (.int .i64 y.2)])], []⟩
noncomputable def pyxref1_Make.D (k : Nat) : FDen U := { X := (Bool × List Int × Int), Y := (Sapi_Dec × Int), nt := 36, gh := [], un := pyxref1_Make.un, f := fun x => pyxref1_Make.f k (x.1) (x.2.1) (x.2.2), fin := pyxref1_Make.fin, cl := true, clo := fun _ _ => rfl }
noncomputable def pyxref1_Make.re (s : St U) : Option (Sapi_Dec × Int) := match s.get 0 with | .tup [.agg [.flat (.bool x1), .flat (.int .u64 x2), .flat (.int .u64 x3), .flat (.int .i64 x4)], .flat (.int .i64 x5)] => some ((⟨x1, (x2, x3), x4⟩ : Sapi_Dec), x5) | _ => none
noncomputable def pyxref1_Make.j1000.fin (y : (Bool × List Int × Int × Bool × Bool × Int × Int × Int)) : Out U := match y with | (x1, x2, x3, x8, x4, x5, x6, x7) => .norm ⟨[(6, .ptr 6 0), (0, .flat (.bool x1)), (1, .row C.i64 x2), (2, .flat (.int .i64 x3)), (20, .flat (.bool x8))], [(6, .lit [.flat (.bool x4), .flat (.int .u64 x5), .flat (.int .u64 x6), .flat (.int .i64 x7)])]⟩
noncomputable def pyxref1_Make.j1000.finK {ρ : Type} (y : (Bool × List Int × Int × Bool × Bool × Int × Int × Int)) (K : Out U → Option ρ) : Option ρ := match y with | (x1, x2, x3, x8, x4, x5, x6, x7) => K (.norm ⟨[(6, .ptr 6 0), (0, .flat (.bool x1)), (1, .row C.i64 x2), (2, .flat (.int .i64 x3)), (20, .flat (.bool x8))], [(6, .lit [.flat (.bool x4), .flat (.int .u64 x5), .flat (.int .u64 x6), .flat (.int .i64 x7)])]⟩)
theorem pyxref1_Make.j1000.finK_eq {ρ : Type} (y : (Bool × List Int × Int × Bool × Bool × Int × Int × Int)) (K : Out U → Option ρ) : pyxref1_Make.j1000.finK y K = K (pyxref1_Make.j1000.fin y) := by
  unfold pyxref1_Make.j1000.finK pyxref1_Make.j1000.fin
  first | rfl | (split <;> rfl)
noncomputable def pyxref1_Make.j1000.re : Out U → Option ((Bool × List Int × Int × Bool × Bool × Int × Int × Int)) | .norm s => ((row_i64 (s.get 1)).bind fun q0 => (match s.get 6, s.get 0, s.get 2, s.get 20, lk s.o 6 with | .ptr 6 0, .flat (.bool x1), .flat (.int .i64 x3), .flat (.bool x8), some (.lit [.flat (.bool x4), .flat (.int .u64 x5), .flat (.int .u64 x6), .flat (.int .i64 x7)]) => some (x1, q0, x3, x8, x4, x5, x6, x7) | _, _, _, _, _ => none)) | _ => none
noncomputable def pyxref1_Make.j1000.J : JDen U := { Y := (Bool × List Int × Int × Bool × Bool × Int × Int × Int), re := pyxref1_Make.j1000.re, fin := pyxref1_Make.j1000.fin, finK := pyxref1_Make.j1000.finK, finK_eq := pyxref1_Make.j1000.finK_eq }
theorem pyxref1_Make.j1000.fit (o : Out U) (y : (Bool × List Int × Int × Bool × Bool × Int × Int × Int)) (h : pyxref1_Make.j1000.re o = some y) : FitsO o (pyxref1_Make.j1000.fin y) := by
  unfold pyxref1_Make.j1000.re at h
  split at h
  · obtain ⟨q0, eq0, h1⟩ := Option.bind_eq_some_iff.1 h
    split at h1
    · cases h1
      refine fitsO_norm (fits_ren [] ?_ ?_ ren_nil rfl)
      · exact List.forall_mem_cons.2 ⟨FV.one (FV.ptr (by assumption)), List.forall_mem_cons.2 ⟨FV.one (FV.same (by assumption) rfl), List.forall_mem_cons.2 ⟨FV.one (row_i64_fit eq0), List.forall_mem_cons.2 ⟨FV.one (FV.same (by assumption) rfl), List.forall_mem_cons.2 ⟨FV.one (FV.same (by assumption) rfl), fun _ hp => (List.not_mem_nil hp).elim⟩⟩⟩⟩⟩
      · exact List.forall_mem_cons.2 ⟨(FO.same (show lk (St.o _) 6 = some _ from by assumption) rfl), fun _ hp => (List.not_mem_nil hp).elim⟩
    · cases h1
  · cases h
noncomputable def pyxref1_Make.jl : List (Nat × JDen U) := [(1000, pyxref1_Make.j1000.J)]
noncomputable def pyxref1_Make.fl (k : Nat) : List (Nat × FDen U) := [(106, pyxref1_Words2.D k)]
noncomputable def pyxref1_Make.ll (k : Nat) : List (Nat × LDen U) := []
noncomputable def pyxref1_Make.E (k : Nat) : Env U := { P := Try.prog, D := DD, fd := lk (pyxref1_Make.fl k), ld := lk (pyxref1_Make.ll k), jd := lk pyxref1_Make.jl, mode := lk [], elc := lk ec, mpc := lk mc, rts := Try.f58.resultTypes.toList, dyn := fun t => false, vecs := fun d => false, results := Try.f58.results.toList, gh := [], own := false, io := fun g i => false }
theorem pyxref1_Make.ok (k : Nat) : EnvOk (pyxref1_Make.E k) := envOk lawful (pyxref1_Make.fl k) (pyxref1_Make.ll k) pyxref1_Make.jl _ _ _ _ _ _ _ _ _ _ (by
  intro p hp
  simp only [pyxref1_Make.fl, List.mem_cons, List.not_mem_nil, or_false] at hp
  rcases hp with rfl
  · exact ⟨pyxref1_Words2.sound k, enter_of Try.func106 (by kernel_rfl) (by kernel_rfl)⟩) (by
  intro p hp
  simp only [pyxref1_Make.jl, List.mem_cons, List.not_mem_nil, or_false] at hp
  rcases hp with rfl
  · exact pyxref1_Make.j1000.fit)
theorem pyxref1_Make.eq (k : Nat) (x : (Bool × List Int × Int)) : runF (pyxref1_Make.E k) (codeOf Try.f58) (pyxref1_Make.mk x) pyxref1_Make.re = (pyxref1_Make.D k).f x := by kernel_rfl
theorem pyxref1_Make.fit (s : St U) (x : (Bool × List Int × Int)) (h : pyxref1_Make.un s = some x) : Fits s (pyxref1_Make.mk x) := by
  unfold pyxref1_Make.un at h
  split at h
  · cases h
    refine fits_ren [] ?_ ?_ ren_nil rfl
    · exact List.forall_mem_cons.2 ⟨FV.one (FV.same (by assumption) rfl), List.forall_mem_cons.2 ⟨FV.one (FV.same (by assumption) rfl), List.forall_mem_cons.2 ⟨FV.one (FV.same (by assumption) rfl), fun _ hp => (List.not_mem_nil hp).elim⟩⟩⟩
    · exact fun _ hp => (List.not_mem_nil hp).elim
  · cases h
theorem pyxref1_Make.fitR (s : St U) (y : (Sapi_Dec × Int)) (h : pyxref1_Make.re s = some y) : Fits s (pyxref1_Make.fin y) := by
  unfold pyxref1_Make.re at h
  split at h
  · cases h
    refine fits_ren [] ?_ ?_ ren_nil rfl
    · exact List.forall_mem_cons.2 ⟨FV.tup (by assumption) (FTs.cons (FVA.one (FV.same rfl rfl)) (FTs.cons (FVA.one (FV.same rfl rfl)) (FTs.nil))), fun _ hp => (List.not_mem_nil hp).elim⟩
    · exact fun _ hp => (List.not_mem_nil hp).elim
  · cases h
theorem pyxref1_Make.sound (k : Nat) : Sound Try.prog DD 58 (pyxref1_Make.D k) :=
  fun_sound (E := pyxref1_Make.E k) (fn := Try.f58) (c := codeOf Try.f58) (pyxref1_Make.ok k) mixed rfl Try.func58 (by kernel_rfl) (by kernel_rfl) (allL_of (l := []) (by kernel_rfl) allL_nil) (pyxref1_Make.D k) pyxref1_Make.mk pyxref1_Make.re (by kernel_rfl) (by kernel_rfl) pyxref1_Make.fit pyxref1_Make.fitR (pyxref1_Make.eq k)
/-! ### pyx/pyxref1.Of: function 17 -/
noncomputable def pyxref1_Of.f (k : Nat) (a0 : Int) (a1 : Int) : Option Sapi_Dec := ((cond (decide (a0 < 0)) (some (a1, decide (a0 < 0), IntKind.wrap .u64 (0 - (IntKind.wrap .u64 (a0))), false, 0, 0, 0)) (some (a1, decide (a0 < 0), IntKind.wrap .u64 (a0), false, 0, 0, 0))) : Option (Int × Bool × Int × Bool × Int × Int × Int)).bind fun y8 => ((pyxref1_Word.f k y8.2.2.1).bind fun t9 => ((pyxref1_Within.f k y8.1 0 9).bind fun t10 => ((pyxref1_Make.f k y8.2.1 t9 t10).bind fun t11 => (some (⟨t11.1.f_Neg, (t11.1.f_C.1, t11.1.f_C.2), t11.1.f_Scale⟩ : Sapi_Dec)))))
noncomputable def pyxref1_Of.un (s : St U) : Option (Int × Int) := match s.get 0, s.get 1 with | .flat (.int .i64 x1), .flat (.int .i64 x2) => some (x1, x2) | _, _ => none
noncomputable def pyxref1_Of.mk (x : (Int × Int)) : St U := ⟨[(0, .flat (.int .i64 x.1)), (1, .flat (.int .i64 x.2))], []⟩
noncomputable def pyxref1_Of.fin (y : Sapi_Dec) : St U := ⟨[(0, .agg [.flat (.bool y.f_Neg), .flat (.int .u64 y.f_C.1), .flat (.int .u64 y.f_C.2), .flat (.int .i64 y.f_Scale)])], []⟩
noncomputable def pyxref1_Of.D (k : Nat) : FDen U := { X := (Int × Int), Y := Sapi_Dec, nt := 26, gh := [], un := pyxref1_Of.un, f := fun x => pyxref1_Of.f k (x.1) (x.2), fin := pyxref1_Of.fin, cl := true, clo := fun _ _ => rfl }
noncomputable def pyxref1_Of.re (s : St U) : Option Sapi_Dec := match s.get 0 with | .agg [.flat (.bool x1), .flat (.int .u64 x2), .flat (.int .u64 x3), .flat (.int .i64 x4)] => some (⟨x1, (x2, x3), x4⟩ : Sapi_Dec) | _ => none
noncomputable def pyxref1_Of.j4001.fin (y : (Int × Bool × Int × Bool × Int × Int × Int)) : Out U := match y with | (x1, x6, x7, x2, x3, x4, x5) => .norm ⟨[(4, .ptr 4 0), (1, .flat (.int .i64 x1)), (5, .flat (.bool x6)), (6, .flat (.int .u64 x7))], [(4, .lit [.flat (.bool x2), .flat (.int .u64 x3), .flat (.int .u64 x4), .flat (.int .i64 x5)])]⟩
noncomputable def pyxref1_Of.j4001.finK {ρ : Type} (y : (Int × Bool × Int × Bool × Int × Int × Int)) (K : Out U → Option ρ) : Option ρ := match y with | (x1, x6, x7, x2, x3, x4, x5) => K (.norm ⟨[(4, .ptr 4 0), (1, .flat (.int .i64 x1)), (5, .flat (.bool x6)), (6, .flat (.int .u64 x7))], [(4, .lit [.flat (.bool x2), .flat (.int .u64 x3), .flat (.int .u64 x4), .flat (.int .i64 x5)])]⟩)
theorem pyxref1_Of.j4001.finK_eq {ρ : Type} (y : (Int × Bool × Int × Bool × Int × Int × Int)) (K : Out U → Option ρ) : pyxref1_Of.j4001.finK y K = K (pyxref1_Of.j4001.fin y) := by
  unfold pyxref1_Of.j4001.finK pyxref1_Of.j4001.fin
  first | rfl | (split <;> rfl)
noncomputable def pyxref1_Of.j4001.re : Out U → Option ((Int × Bool × Int × Bool × Int × Int × Int)) | .norm s => (match s.get 4, s.get 1, s.get 5, s.get 6, lk s.o 4 with | .ptr 4 0, .flat (.int .i64 x1), .flat (.bool x6), .flat (.int .u64 x7), some (.lit [.flat (.bool x2), .flat (.int .u64 x3), .flat (.int .u64 x4), .flat (.int .i64 x5)]) => some (x1, x6, x7, x2, x3, x4, x5) | _, _, _, _, _ => none) | _ => none
noncomputable def pyxref1_Of.j4001.J : JDen U := { Y := (Int × Bool × Int × Bool × Int × Int × Int), re := pyxref1_Of.j4001.re, fin := pyxref1_Of.j4001.fin, finK := pyxref1_Of.j4001.finK, finK_eq := pyxref1_Of.j4001.finK_eq }
theorem pyxref1_Of.j4001.fit (o : Out U) (y : (Int × Bool × Int × Bool × Int × Int × Int)) (h : pyxref1_Of.j4001.re o = some y) : FitsO o (pyxref1_Of.j4001.fin y) := by
  unfold pyxref1_Of.j4001.re at h
  split at h
  · split at h
    · cases h
      refine fitsO_norm (fits_ren [] ?_ ?_ ren_nil rfl)
      · exact List.forall_mem_cons.2 ⟨FV.one (FV.ptr (by assumption)), List.forall_mem_cons.2 ⟨FV.one (FV.same (by assumption) rfl), List.forall_mem_cons.2 ⟨FV.one (FV.same (by assumption) rfl), List.forall_mem_cons.2 ⟨FV.one (FV.same (by assumption) rfl), fun _ hp => (List.not_mem_nil hp).elim⟩⟩⟩⟩
      · exact List.forall_mem_cons.2 ⟨(FO.same (show lk (St.o _) 4 = some _ from by assumption) rfl), fun _ hp => (List.not_mem_nil hp).elim⟩
    · cases h
  · cases h
noncomputable def pyxref1_Of.jl : List (Nat × JDen U) := [(4001, pyxref1_Of.j4001.J)]
noncomputable def pyxref1_Of.fl (k : Nat) : List (Nat × FDen U) := [(59, pyxref1_Word.D k), (60, pyxref1_Within.D k), (58, pyxref1_Make.D k)]
noncomputable def pyxref1_Of.ll (k : Nat) : List (Nat × LDen U) := []
noncomputable def pyxref1_Of.E (k : Nat) : Env U := { P := Try.prog, D := DD, fd := lk (pyxref1_Of.fl k), ld := lk (pyxref1_Of.ll k), jd := lk pyxref1_Of.jl, mode := lk [], elc := lk ec, mpc := lk mc, rts := Try.f17.resultTypes.toList, dyn := fun t => false, vecs := fun d => false, results := Try.f17.results.toList, gh := [], own := false, io := fun g i => false }
theorem pyxref1_Of.ok (k : Nat) : EnvOk (pyxref1_Of.E k) := envOk lawful (pyxref1_Of.fl k) (pyxref1_Of.ll k) pyxref1_Of.jl _ _ _ _ _ _ _ _ _ _ (by
  intro p hp
  simp only [pyxref1_Of.fl, List.mem_cons, List.not_mem_nil, or_false] at hp
  rcases hp with rfl | rfl | rfl
  · exact ⟨pyxref1_Word.sound k, enter_of Try.func59 (by kernel_rfl) (by kernel_rfl)⟩
  · exact ⟨pyxref1_Within.sound k, enter_of Try.func60 (by kernel_rfl) (by kernel_rfl)⟩
  · exact ⟨pyxref1_Make.sound k, enter_of Try.func58 (by kernel_rfl) (by kernel_rfl)⟩) (by
  intro p hp
  simp only [pyxref1_Of.jl, List.mem_cons, List.not_mem_nil, or_false] at hp
  rcases hp with rfl
  · exact pyxref1_Of.j4001.fit)
theorem pyxref1_Of.eq (k : Nat) (x : (Int × Int)) : runF (pyxref1_Of.E k) (codeOf Try.f17) (pyxref1_Of.mk x) pyxref1_Of.re = (pyxref1_Of.D k).f x := by kernel_rfl
theorem pyxref1_Of.fit (s : St U) (x : (Int × Int)) (h : pyxref1_Of.un s = some x) : Fits s (pyxref1_Of.mk x) := by
  unfold pyxref1_Of.un at h
  split at h
  · cases h
    refine fits_ren [] ?_ ?_ ren_nil rfl
    · exact List.forall_mem_cons.2 ⟨FV.one (FV.same (by assumption) rfl), List.forall_mem_cons.2 ⟨FV.one (FV.same (by assumption) rfl), fun _ hp => (List.not_mem_nil hp).elim⟩⟩
    · exact fun _ hp => (List.not_mem_nil hp).elim
  · cases h
theorem pyxref1_Of.fitR (s : St U) (y : Sapi_Dec) (h : pyxref1_Of.re s = some y) : Fits s (pyxref1_Of.fin y) := by
  unfold pyxref1_Of.re at h
  split at h
  · cases h
    refine fits_ren [] ?_ ?_ ren_nil rfl
    · exact List.forall_mem_cons.2 ⟨FV.one (FV.same (by assumption) rfl), fun _ hp => (List.not_mem_nil hp).elim⟩
    · exact fun _ hp => (List.not_mem_nil hp).elim
  · cases h
theorem pyxref1_Of.sound (k : Nat) : Sound Try.prog DD 17 (pyxref1_Of.D k) :=
  fun_sound (E := pyxref1_Of.E k) (fn := Try.f17) (c := codeOf Try.f17) (pyxref1_Of.ok k) mixed rfl Try.func17 (by kernel_rfl) (by kernel_rfl) (allL_of (l := []) (by kernel_rfl) allL_nil) (pyxref1_Of.D k) pyxref1_Of.mk pyxref1_Of.re (by kernel_rfl) (by kernel_rfl) pyxref1_Of.fit pyxref1_Of.fitR (pyxref1_Of.eq k)
/-! ### pyx/quant.right: function 140 -/
noncomputable def quant_right.l2.once (k : Nat) (x : (Int × Int × List Sapi_Dec × Int × Int)) : Option ((Int × Int × List Sapi_Dec × Int × Int) ⊕ ((Int × Int) ⊕ Bool)) := match x with | (x1, x2, x3, x4, x5) => cond (decide (x5 < x4)) (cond (inb x5 (List.length x3)) ((dec_Right.f k (⟨(List.getD x3 (Int.toNat x5) Sapi_Dec.zero).f_Neg, (((List.getD x3 (Int.toNat x5) Sapi_Dec.zero).f_C).1, ((List.getD x3 (Int.toNat x5) Sapi_Dec.zero).f_C).2), (List.getD x3 (Int.toNat x5) Sapi_Dec.zero).f_Scale⟩ : Sapi_Dec)).bind fun t6 => (cond (!t6) (some (.inr (.inr false))) (some (.inl (x1, x2, x3, x4, IntKind.wrap .i64 (x5 + 1)))))) none) (some (.inr (.inl (x1, x2))))
noncomputable def quant_right.f (k : Nat) (a0 : Int) (a1 : Int) (a2 : List Sapi_Dec) : Option Bool := (iter (quant_right.l2.once k) k (a0, a1, a2, (List.length a2 : Int), 0)).bind fun | .inl y10 => (cond (decide (y10.1 ≥ 0)) (cond (decide (y10.1 ≤ 9)) (cond (decide (y10.2 ≥ 0)) (some (decide (y10.2 ≤ 4))) (some false)) (some false)) (some false)) | .inr y11 => (some y11)
noncomputable def quant_right.un (s : St U) : Option (Int × Int × List Sapi_Dec) := match s.get 0, s.get 1, s.get 2 with | .flat (.int .i64 x1), .flat (.int .i64 x2), .row C.Sapi_Dec x3 => some (x1, x2, x3) | _, _, _ => none
noncomputable def quant_right.mk (x : (Int × Int × List Sapi_Dec)) : St U := ⟨[(0, .flat (.int .i64 x.1)), (1, .flat (.int .i64 x.2.1)), (2, .row C.Sapi_Dec x.2.2)], []⟩
noncomputable def quant_right.fin (y : Bool) : St U := ⟨[(0, .flat (.bool y))], []⟩
noncomputable def quant_right.D (k : Nat) : FDen U := { X := (Int × Int × List Sapi_Dec), Y := Bool, nt := 33, gh := [], un := quant_right.un, f := fun x => quant_right.f k (x.1) (x.2.1) (x.2.2), fin := quant_right.fin, cl := true, clo := fun _ _ => rfl }
noncomputable def quant_right.re (s : St U) : Option Bool := match s.get 0 with | .flat (.bool x1) => some x1 | _ => none
noncomputable def quant_right.l2.mk (x : (Int × Int × List Sapi_Dec × Int × Int)) : St U := match x with | (x1, x2, x3, x4, x5) => ⟨[(0, .flat (.int .i64 x1)), (1, .flat (.int .i64 x2)), (9, .row C.Sapi_Dec x3), (10, .flat (.int .i64 x4)), (11, .flat (.int .i64 x5))], []⟩
noncomputable def quant_right.l2.un (s : St U) : Option (Int × Int × List Sapi_Dec × Int × Int) := (row_Sapi_Dec (s.get 9)).bind fun q0 => (match s.get 0, s.get 1, s.get 10, s.get 11 with | .flat (.int .i64 x1), .flat (.int .i64 x2), .flat (.int .i64 x4), .flat (.int .i64 x5) => some (x1, x2, q0, x4, x5) | _, _, _, _ => none)
noncomputable def quant_right.l2.fin (y : (Int × Int) ⊕ Bool) : Out U := match y with | .inl (x7, x8) => .exit 0 ⟨[(0, .flat (.int .i64 x7)), (1, .flat (.int .i64 x8))], []⟩ | .inr z => .ret (⟨[(0, .flat (.bool z))], []⟩)
noncomputable def quant_right.l2.finK {ρ : Type} (y : (Int × Int) ⊕ Bool) (K : Out U → Option ρ) : Option ρ := match y with | .inl (x7, x8) => K (.exit 0 ⟨[(0, .flat (.int .i64 x7)), (1, .flat (.int .i64 x8))], []⟩) | .inr z => K (.ret (⟨[(0, .flat (.bool z))], []⟩))
theorem quant_right.l2.finK_eq {ρ : Type} (y : (Int × Int) ⊕ Bool) (K : Out U → Option ρ) : quant_right.l2.finK y K = K (quant_right.l2.fin y) := by
  unfold quant_right.l2.finK quant_right.l2.fin
  first | rfl | (split <;> rfl)
noncomputable def quant_right.l2.re : Out U → Option ((Int × Int) ⊕ Bool) | .exit 0 s => (match s.get 0, s.get 1 with | .flat (.int .i64 x7), .flat (.int .i64 x8) => some (.inl (x7, x8)) | _, _ => none) | .ret s => (match s.get 0 with | .flat (.bool x1) => some (.inr x1) | _ => none) | _ => none
noncomputable def quant_right.l2.L (k : Nat) : LDen U := { X := (Int × Int × List Sapi_Dec × Int × Int), Y := (Int × Int) ⊕ Bool, un := quant_right.l2.un, f := iter (quant_right.l2.once k) k, fin := quant_right.l2.fin, finK := quant_right.l2.finK, finK_eq := quant_right.l2.finK_eq }
noncomputable def quant_right.jl : List (Nat × JDen U) := []
noncomputable def quant_right.fl (k : Nat) : List (Nat × FDen U) := [(82, dec_Right.D k)]
noncomputable def quant_right.ll (k : Nat) : List (Nat × LDen U) := [(2, quant_right.l2.L k)]
noncomputable def quant_right.E (k : Nat) : Env U := { P := Try.prog, D := DD, fd := lk (quant_right.fl k), ld := lk (quant_right.ll k), jd := lk quant_right.jl, mode := lk [], elc := lk ec, mpc := lk mc, rts := Try.f140.resultTypes.toList, dyn := fun t => false, vecs := fun d => false, results := Try.f140.results.toList, gh := [], own := false, io := fun g i => false }
theorem quant_right.ok (k : Nat) : EnvOk (quant_right.E k) := envOk lawful (quant_right.fl k) (quant_right.ll k) quant_right.jl _ _ _ _ _ _ _ _ _ _ (by
  intro p hp
  simp only [quant_right.fl, List.mem_cons, List.not_mem_nil, or_false] at hp
  rcases hp with rfl
  · exact ⟨dec_Right.sound k, enter_of Try.func82 (by kernel_rfl) (by kernel_rfl)⟩) (by
  intro p hp
  simp [quant_right.jl] at hp)
theorem quant_right.l2.eq (k : Nat) (x : (Int × Int × List Sapi_Dec × Int × Int)) : evC (quant_right.E k) (loopAt Try.f140 2) (quant_right.l2.mk x) (headK quant_right.l2.un quant_right.l2.re) = quant_right.l2.once k x := by kernel_rfl
theorem quant_right.l2.fit (s : St U) (x : (Int × Int × List Sapi_Dec × Int × Int)) (h : quant_right.l2.un s = some x) : Fits s (quant_right.l2.mk x) := by
  unfold quant_right.l2.un at h
  obtain ⟨q0, eq0, h1⟩ := Option.bind_eq_some_iff.1 h
  split at h1
  · cases h1
    refine fits_ren [] ?_ ?_ ren_nil rfl
    · exact List.forall_mem_cons.2 ⟨FV.one (FV.same (by assumption) rfl), List.forall_mem_cons.2 ⟨FV.one (FV.same (by assumption) rfl), List.forall_mem_cons.2 ⟨FV.one (row_Sapi_Dec_fit eq0), List.forall_mem_cons.2 ⟨FV.one (FV.same (by assumption) rfl), List.forall_mem_cons.2 ⟨FV.one (FV.same (by assumption) rfl), fun _ hp => (List.not_mem_nil hp).elim⟩⟩⟩⟩⟩
    · exact fun _ hp => (List.not_mem_nil hp).elim
  · cases h1
theorem quant_right.l2.fitO (o : Out U) (y : (Int × Int) ⊕ Bool) (h : quant_right.l2.re o = some y) : FitsO o (quant_right.l2.fin y) := by
  unfold quant_right.l2.re at h
  split at h
  · split at h
    · cases h
      refine fitsO_exit (fits_ren [] ?_ ?_ ren_nil rfl)
      · exact List.forall_mem_cons.2 ⟨FV.one (FV.same (by assumption) rfl), List.forall_mem_cons.2 ⟨FV.one (FV.same (by assumption) rfl), fun _ hp => (List.not_mem_nil hp).elim⟩⟩
      · exact fun _ hp => (List.not_mem_nil hp).elim
    · cases h
  · split at h
    · cases h
      refine fitsO_ret (fits_ren [] ?_ ?_ ren_nil rfl)
      · exact List.forall_mem_cons.2 ⟨FV.one (FV.same (by assumption) rfl), fun _ hp => (List.not_mem_nil hp).elim⟩
      · exact fun _ hp => (List.not_mem_nil hp).elim
    · cases h
  · cases h
theorem quant_right.l2.sound (k : Nat) : LSound (quant_right.E k) Try.f140.ntmps Try.f140 (loopAt Try.f140 2) (quant_right.l2.L k) :=
  loop_sound (quant_right.ok k) mixed rfl (by kernel_rfl) (allL_of (l := []) (by kernel_rfl) allL_nil) quant_right.l2.un quant_right.l2.mk quant_right.l2.fin quant_right.l2.re (quant_right.l2.once k) k quant_right.l2.fit quant_right.l2.fitO (quant_right.l2.eq k) quant_right.l2.finK quant_right.l2.finK_eq
theorem quant_right.eq (k : Nat) (x : (Int × Int × List Sapi_Dec)) : runF (quant_right.E k) (codeOf Try.f140) (quant_right.mk x) quant_right.re = (quant_right.D k).f x := by kernel_rfl
theorem quant_right.fit (s : St U) (x : (Int × Int × List Sapi_Dec)) (h : quant_right.un s = some x) : Fits s (quant_right.mk x) := by
  unfold quant_right.un at h
  split at h
  · cases h
    refine fits_ren [] ?_ ?_ ren_nil rfl
    · exact List.forall_mem_cons.2 ⟨FV.one (FV.same (by assumption) rfl), List.forall_mem_cons.2 ⟨FV.one (FV.same (by assumption) rfl), List.forall_mem_cons.2 ⟨FV.one (FV.same (by assumption) rfl), fun _ hp => (List.not_mem_nil hp).elim⟩⟩⟩
    · exact fun _ hp => (List.not_mem_nil hp).elim
  · cases h
theorem quant_right.fitR (s : St U) (y : Bool) (h : quant_right.re s = some y) : Fits s (quant_right.fin y) := by
  unfold quant_right.re at h
  split at h
  · cases h
    refine fits_ren [] ?_ ?_ ren_nil rfl
    · exact List.forall_mem_cons.2 ⟨FV.one (FV.same (by assumption) rfl), fun _ hp => (List.not_mem_nil hp).elim⟩
    · exact fun _ hp => (List.not_mem_nil hp).elim
  · cases h
theorem quant_right.sound (k : Nat) : Sound Try.prog DD 140 (quant_right.D k) :=
  fun_sound (E := quant_right.E k) (fn := Try.f140) (c := codeOf Try.f140) (quant_right.ok k) mixed rfl Try.func140 (by kernel_rfl) (by kernel_rfl) (allL_of (l := [loopAt Try.f140 2]) (by kernel_rfl) (allL_cons (key := 2) (by kernel_rfl) rfl (quant_right.l2.sound k) allL_nil)) (quant_right.D k) quant_right.mk quant_right.re (by kernel_rfl) (by kernel_rfl) quant_right.fit quant_right.fitR (quant_right.eq k)
/-! ### pyx/quant.ten: function 142 -/
noncomputable def quant_ten.f (k : Nat) (a0 : Int) : Option (Int × Int) := (limb_Ten.f k a0).bind fun t1 => (some (t1.1.1, t1.1.2))
noncomputable def quant_ten.un (s : St U) : Option Int := match s.get 0 with | .flat (.int .i64 x1) => some x1 | _ => none
noncomputable def quant_ten.mk (x : Int) : St U := ⟨[(0, .flat (.int .i64 x))], []⟩
noncomputable def quant_ten.fin (y : (Int × Int)) : St U := ⟨[(0, .agg [.flat (.int .u64 y.1), .flat (.int .u64 y.2)])], []⟩
noncomputable def quant_ten.D (k : Nat) : FDen U := { X := Int, Y := (Int × Int), nt := 11, gh := [], un := quant_ten.un, f := fun x => quant_ten.f k (x), fin := quant_ten.fin, cl := true, clo := fun _ _ => rfl }
noncomputable def quant_ten.re (s : St U) : Option (Int × Int) := match s.get 0 with | .agg [.flat (.int .u64 x1), .flat (.int .u64 x2)] => some (x1, x2) | _ => none
noncomputable def quant_ten.jl : List (Nat × JDen U) := []
noncomputable def quant_ten.fl (k : Nat) : List (Nat × FDen U) := [(150, limb_Ten.D k)]
noncomputable def quant_ten.ll (k : Nat) : List (Nat × LDen U) := []
noncomputable def quant_ten.E (k : Nat) : Env U := { P := Try.prog, D := DD, fd := lk (quant_ten.fl k), ld := lk (quant_ten.ll k), jd := lk quant_ten.jl, mode := lk [], elc := lk ec, mpc := lk mc, rts := Try.f142.resultTypes.toList, dyn := fun t => false, vecs := fun d => false, results := Try.f142.results.toList, gh := [], own := false, io := fun g i => false }
theorem quant_ten.ok (k : Nat) : EnvOk (quant_ten.E k) := envOk lawful (quant_ten.fl k) (quant_ten.ll k) quant_ten.jl _ _ _ _ _ _ _ _ _ _ (by
  intro p hp
  simp only [quant_ten.fl, List.mem_cons, List.not_mem_nil, or_false] at hp
  rcases hp with rfl
  · exact ⟨limb_Ten.sound k, enter_of Try.func150 (by kernel_rfl) (by kernel_rfl)⟩) (by
  intro p hp
  simp [quant_ten.jl] at hp)
theorem quant_ten.eq (k : Nat) (x : Int) : runF (quant_ten.E k) (codeOf Try.f142) (quant_ten.mk x) quant_ten.re = (quant_ten.D k).f x := by kernel_rfl
theorem quant_ten.fit (s : St U) (x : Int) (h : quant_ten.un s = some x) : Fits s (quant_ten.mk x) := by
  unfold quant_ten.un at h
  split at h
  · cases h
    refine fits_ren [] ?_ ?_ ren_nil rfl
    · exact List.forall_mem_cons.2 ⟨FV.one (FV.same (by assumption) rfl), fun _ hp => (List.not_mem_nil hp).elim⟩
    · exact fun _ hp => (List.not_mem_nil hp).elim
  · cases h
theorem quant_ten.fitR (s : St U) (y : (Int × Int)) (h : quant_ten.re s = some y) : Fits s (quant_ten.fin y) := by
  unfold quant_ten.re at h
  split at h
  · cases h
    refine fits_ren [] ?_ ?_ ren_nil rfl
    · exact List.forall_mem_cons.2 ⟨FV.one (FV.same (by assumption) rfl), fun _ hp => (List.not_mem_nil hp).elim⟩
    · exact fun _ hp => (List.not_mem_nil hp).elim
  · cases h
theorem quant_ten.sound (k : Nat) : Sound Try.prog DD 142 (quant_ten.D k) :=
  fun_sound (E := quant_ten.E k) (fn := Try.f142) (c := codeOf Try.f142) (quant_ten.ok k) mixed rfl Try.func142 (by kernel_rfl) (by kernel_rfl) (allL_of (l := []) (by kernel_rfl) allL_nil) (quant_ten.D k) quant_ten.mk quant_ten.re (by kernel_rfl) (by kernel_rfl) quant_ten.fit quant_ten.fitR (quant_ten.eq k)
/-! ### pyx/limb.Div: function 156 -/
noncomputable def limb_Div.l4.once (k : Nat) (x : (Int × List Int × Int × Int × List Int × Int × Int)) : Option ((Int × List Int × Int × Int × List Int × Int × Int) ⊕ ((List Int × Int × Int))) := match x with | (x7, x1, x2, x3, x4, x5, x6) => cond (decide (x7 ≥ 0)) (((cond (inb (IntKind.wrap .i64 (Int.tdiv x7 64)) 4) (cond (Nat.blt (Int.toNat (IntKind.wrap .i64 (Int.tdiv x7 64))) 4) (cond (decide (Int.tmod x7 64 < 0)) none (((cond (decide ((Int.fdiv x6 (2 ^ 63)) > 0)) (some (x7, true, x1, x2, x3, x4, bits .or .u64 (IntKind.wrap .u64 (x5 * 2 ^ 1)) (bits .and .u64 (Int.fdiv (List.getD x1 (Int.toNat (IntKind.wrap .i64 (Int.tdiv x7 64))) 0) (2 ^ (min (Int.toNat (Int.tmod x7 64)) 64))) 1), bits .or .u64 (IntKind.wrap .u64 (x6 * 2 ^ 1)) (Int.fdiv x5 (2 ^ 63)))) ((limb_Cmp.f k (bits .or .u64 (IntKind.wrap .u64 (x5 * 2 ^ 1)) (bits .and .u64 (Int.fdiv (List.getD x1 (Int.toNat (IntKind.wrap .i64 (Int.tdiv x7 64))) 0) (2 ^ (min (Int.toNat (Int.tmod x7 64)) 64))) 1), bits .or .u64 (IntKind.wrap .u64 (x6 * 2 ^ 1)) (Int.fdiv x5 (2 ^ 63))) (x2, x3)).bind fun t16 => (some (x7, decide (t16 ≥ 0), x1, x2, x3, x4, bits .or .u64 (IntKind.wrap .u64 (x5 * 2 ^ 1)) (bits .and .u64 (Int.fdiv (List.getD x1 (Int.toNat (IntKind.wrap .i64 (Int.tdiv x7 64))) 0) (2 ^ (min (Int.toNat (Int.tmod x7 64)) 64))) 1), bits .or .u64 (IntKind.wrap .u64 (x6 * 2 ^ 1)) (Int.fdiv x5 (2 ^ 63)))))) : Option (Int × Bool × List Int × Int × Int × List Int × Int × Int)).bind fun y17 => (cond (y17.2.1) ((limb_less.f k y17.2.2.2.2.2.2.1 y17.2.2.2.1 0).bind fun t18 => ((limb_less.f k y17.2.2.2.2.2.2.2 y17.2.2.2.2.1 t18.2).bind fun t19 => (cond (inb (IntKind.wrap .i64 (Int.tdiv y17.1 64)) 4) (cond (Nat.blt (Int.toNat (IntKind.wrap .i64 (Int.tdiv y17.1 64))) 4) (cond (decide (Int.tmod y17.1 64 < 0)) none (cond (inb (IntKind.wrap .i64 (Int.tdiv y17.1 64)) 4) (cond (Nat.blt (Int.toNat (IntKind.wrap .i64 (Int.tdiv y17.1 64))) 4) (some (y17.1, y17.2.2.1, y17.2.2.2.1, y17.2.2.2.2.1, List.set y17.2.2.2.2.2.1 (Int.toNat (IntKind.wrap .i64 (Int.tdiv y17.1 64))) (bits .or .u64 (List.getD y17.2.2.2.2.2.1 (Int.toNat (IntKind.wrap .i64 (Int.tdiv y17.1 64))) 0) (IntKind.wrap .u64 (1 * 2 ^ (min (Int.toNat (Int.tmod y17.1 64)) 64)))), t18.1, t19.1)) none) none)) none) none))) (some (y17.1, y17.2.2.1, y17.2.2.2.1, y17.2.2.2.2.1, y17.2.2.2.2.2.1, y17.2.2.2.2.2.2.1, y17.2.2.2.2.2.2.2))))) none) none) : Option (Int × List Int × Int × Int × List Int × Int × Int)).bind fun y27 => (some (.inl (IntKind.wrap .i64 (y27.1 - 1), y27.2.1, y27.2.2.1, y27.2.2.2.1, y27.2.2.2.2.1, y27.2.2.2.2.2.1, y27.2.2.2.2.2.2)))) (some (.inr (x4, x5, x6)))
noncomputable def limb_Div.f (k : Nat) (a0 : (Int × Int × Int × Int)) (a1 : (Int × Int)) : Option ((Int × Int × Int × Int) × (Int × Int) × Bool) := cond ((a1.1 == 0) && (a1.2 == 0)) (some ((List.getD [List.getD [0, 0, 0, 0] 0 0, List.getD [0, 0, 0, 0] 1 0, List.getD [0, 0, 0, 0] 2 0, List.getD [0, 0, 0, 0] 3 0] 0 0, List.getD [List.getD [0, 0, 0, 0] 0 0, List.getD [0, 0, 0, 0] 1 0, List.getD [0, 0, 0, 0] 2 0, List.getD [0, 0, 0, 0] 3 0] 1 0, List.getD [List.getD [0, 0, 0, 0] 0 0, List.getD [0, 0, 0, 0] 1 0, List.getD [0, 0, 0, 0] 2 0, List.getD [0, 0, 0, 0] 3 0] 2 0, List.getD [List.getD [0, 0, 0, 0] 0 0, List.getD [0, 0, 0, 0] 1 0, List.getD [0, 0, 0, 0] 2 0, List.getD [0, 0, 0, 0] 3 0] 3 0), (0, 0), false)) ((iter (limb_Div.l4.once k) k (255, [a0.1, a0.2.1, a0.2.2.1, a0.2.2.2], a1.1, a1.2, [0, 0, 0, 0], 0, 0)).bind fun y31 => (some ((List.getD [List.getD y31.1 0 0, List.getD y31.1 1 0, List.getD y31.1 2 0, List.getD y31.1 3 0] 0 0, List.getD [List.getD y31.1 0 0, List.getD y31.1 1 0, List.getD y31.1 2 0, List.getD y31.1 3 0] 1 0, List.getD [List.getD y31.1 0 0, List.getD y31.1 1 0, List.getD y31.1 2 0, List.getD y31.1 3 0] 2 0, List.getD [List.getD y31.1 0 0, List.getD y31.1 1 0, List.getD y31.1 2 0, List.getD y31.1 3 0] 3 0), (y31.2.1, y31.2.2), true)))
noncomputable def limb_Div.un (s : St U) : Option ((Int × Int × Int × Int) × (Int × Int)) := match s.get 0, s.get 1 with | .agg [.flat (.int .u64 x1), .flat (.int .u64 x2), .flat (.int .u64 x3), .flat (.int .u64 x4)], .agg [.flat (.int .u64 x5), .flat (.int .u64 x6)] => some ((x1, x2, x3, x4), (x5, x6)) | _, _ => none
noncomputable def limb_Div.mk (x : ((Int × Int × Int × Int) × (Int × Int))) : St U := ⟨[(0, .agg [.flat (.int .u64 x.1.1), .flat (.int .u64 x.1.2.1), .flat (.int .u64 x.1.2.2.1), .flat (.int .u64 x.1.2.2.2)]), (1, .agg [.flat (.int .u64 x.2.1), .flat (.int .u64 x.2.2)])], []⟩
noncomputable def limb_Div.fin (y : ((Int × Int × Int × Int) × (Int × Int) × Bool)) : St U := ⟨[(0, .tup [.agg [.flat (.int .u64 y.1.1), .flat (.int .u64 y.1.2.1), .flat (.int .u64 y.1.2.2.1), .flat (.int .u64 y.1.2.2.2)], .agg [.flat (.int .u64 y.2.1.1), .flat (.int .u64 y.2.1.2)], .flat (.bool y.2.2)])], []⟩
noncomputable def limb_Div.D (k : Nat) : FDen U := { X := ((Int × Int × Int × Int) × (Int × Int)), Y := ((Int × Int × Int × Int) × (Int × Int) × Bool), nt := 85, gh := [], un := limb_Div.un, f := fun x => limb_Div.f k (x.1) (x.2), fin := limb_Div.fin, cl := true, clo := fun _ _ => rfl }
noncomputable def limb_Div.re (s : St U) : Option ((Int × Int × Int × Int) × (Int × Int) × Bool) := match s.get 0 with | .tup [.agg [.flat (.int .u64 x1), .flat (.int .u64 x2), .flat (.int .u64 x3), .flat (.int .u64 x4)], .agg [.flat (.int .u64 x5), .flat (.int .u64 x6)], .flat (.bool x7)] => some ((x1, x2, x3, x4), (x5, x6), x7) | _ => none
noncomputable def limb_Div.l4.mk (x : (Int × List Int × Int × Int × List Int × Int × Int)) : St U := match x with | (x7, x1, x2, x3, x4, x5, x6) => ⟨[(2, .ptr 2 0), (3, .ptr 3 0), (4, .ptr 4 0), (5, .ptr 5 0), (7, .flat (.int .i64 x7))], [(2, .arr 4 C.u64 x1), (3, .lit [.flat (.int .u64 x2), .flat (.int .u64 x3)]), (4, .arr 4 C.u64 x4), (5, .lit [.flat (.int .u64 x5), .flat (.int .u64 x6)])]⟩
noncomputable def limb_Div.l4.un (s : St U) : Option (Int × List Int × Int × Int × List Int × Int × Int) := match s.get 2, s.get 3, s.get 4, s.get 5, s.get 7, lk s.o 2, lk s.o 3, lk s.o 4, lk s.o 5 with | .ptr 2 0, .ptr 3 0, .ptr 4 0, .ptr 5 0, .flat (.int .i64 x7), some (.arr 4 C.u64 x1), some (.lit [.flat (.int .u64 x2), .flat (.int .u64 x3)]), some (.arr 4 C.u64 x4), some (.lit [.flat (.int .u64 x5), .flat (.int .u64 x6)]) => some (x7, x1, x2, x3, x4, x5, x6) | _, _, _, _, _, _, _, _, _ => none
noncomputable def limb_Div.l4.fin (y : (List Int × Int × Int)) : Out U := match y with | (x28, x29, x30) => .exit 0 ⟨[(4, .ptr 4 0), (5, .ptr 5 0)], [(4, .arr 4 C.u64 x28), (5, .lit [.flat (.int .u64 x29), .flat (.int .u64 x30)])]⟩
noncomputable def limb_Div.l4.finK {ρ : Type} (y : (List Int × Int × Int)) (K : Out U → Option ρ) : Option ρ := match y with | (x28, x29, x30) => K (.exit 0 ⟨[(4, .ptr 4 0), (5, .ptr 5 0)], [(4, .arr 4 C.u64 x28), (5, .lit [.flat (.int .u64 x29), .flat (.int .u64 x30)])]⟩)
theorem limb_Div.l4.finK_eq {ρ : Type} (y : (List Int × Int × Int)) (K : Out U → Option ρ) : limb_Div.l4.finK y K = K (limb_Div.l4.fin y) := by
  unfold limb_Div.l4.finK limb_Div.l4.fin
  first | rfl | (split <;> rfl)
noncomputable def limb_Div.l4.re : Out U → Option ((List Int × Int × Int)) | .exit 0 s => (match s.get 4, s.get 5, lk s.o 4, lk s.o 5 with | .ptr 4 0, .ptr 5 0, some (.arr 4 C.u64 x28), some (.lit [.flat (.int .u64 x29), .flat (.int .u64 x30)]) => some (x28, x29, x30) | _, _, _, _ => none) | _ => none
noncomputable def limb_Div.l4.L (k : Nat) : LDen U := { X := (Int × List Int × Int × Int × List Int × Int × Int), Y := (List Int × Int × Int), un := limb_Div.l4.un, f := iter (limb_Div.l4.once k) k, fin := limb_Div.l4.fin, finK := limb_Div.l4.finK, finK_eq := limb_Div.l4.finK_eq }
noncomputable def limb_Div.j9000.fin (y : (Int × Bool × List Int × Int × Int × List Int × Int × Int)) : Out U := match y with | (x14, x15, x8, x9, x10, x11, x12, x13) => .norm ⟨[(2, .ptr 2 0), (3, .ptr 3 0), (4, .ptr 4 0), (5, .ptr 5 0), (7, .flat (.int .i64 x14)), (53, .flat (.bool x15))], [(2, .arr 4 C.u64 x8), (3, .lit [.flat (.int .u64 x9), .flat (.int .u64 x10)]), (4, .arr 4 C.u64 x11), (5, .lit [.flat (.int .u64 x12), .flat (.int .u64 x13)])]⟩
noncomputable def limb_Div.j9000.finK {ρ : Type} (y : (Int × Bool × List Int × Int × Int × List Int × Int × Int)) (K : Out U → Option ρ) : Option ρ := match y with | (x14, x15, x8, x9, x10, x11, x12, x13) => K (.norm ⟨[(2, .ptr 2 0), (3, .ptr 3 0), (4, .ptr 4 0), (5, .ptr 5 0), (7, .flat (.int .i64 x14)), (53, .flat (.bool x15))], [(2, .arr 4 C.u64 x8), (3, .lit [.flat (.int .u64 x9), .flat (.int .u64 x10)]), (4, .arr 4 C.u64 x11), (5, .lit [.flat (.int .u64 x12), .flat (.int .u64 x13)])]⟩)
theorem limb_Div.j9000.finK_eq {ρ : Type} (y : (Int × Bool × List Int × Int × Int × List Int × Int × Int)) (K : Out U → Option ρ) : limb_Div.j9000.finK y K = K (limb_Div.j9000.fin y) := by
  unfold limb_Div.j9000.finK limb_Div.j9000.fin
  first | rfl | (split <;> rfl)
noncomputable def limb_Div.j9000.re : Out U → Option ((Int × Bool × List Int × Int × Int × List Int × Int × Int)) | .norm s => (match s.get 2, s.get 3, s.get 4, s.get 5, s.get 7, s.get 53, lk s.o 2, lk s.o 3, lk s.o 4, lk s.o 5 with | .ptr 2 0, .ptr 3 0, .ptr 4 0, .ptr 5 0, .flat (.int .i64 x14), .flat (.bool x15), some (.arr 4 C.u64 x8), some (.lit [.flat (.int .u64 x9), .flat (.int .u64 x10)]), some (.arr 4 C.u64 x11), some (.lit [.flat (.int .u64 x12), .flat (.int .u64 x13)]) => some (x14, x15, x8, x9, x10, x11, x12, x13) | _, _, _, _, _, _, _, _, _, _ => none) | _ => none
noncomputable def limb_Div.j9000.J : JDen U := { Y := (Int × Bool × List Int × Int × Int × List Int × Int × Int), re := limb_Div.j9000.re, fin := limb_Div.j9000.fin, finK := limb_Div.j9000.finK, finK_eq := limb_Div.j9000.finK_eq }
theorem limb_Div.j9000.fit (o : Out U) (y : (Int × Bool × List Int × Int × Int × List Int × Int × Int)) (h : limb_Div.j9000.re o = some y) : FitsO o (limb_Div.j9000.fin y) := by
  unfold limb_Div.j9000.re at h
  split at h
  · split at h
    · cases h
      refine fitsO_norm (fits_ren [] ?_ ?_ ren_nil rfl)
      · exact List.forall_mem_cons.2 ⟨FV.one (FV.ptr (by assumption)), List.forall_mem_cons.2 ⟨FV.one (FV.ptr (by assumption)), List.forall_mem_cons.2 ⟨FV.one (FV.ptr (by assumption)), List.forall_mem_cons.2 ⟨FV.one (FV.ptr (by assumption)), List.forall_mem_cons.2 ⟨FV.one (FV.same (by assumption) rfl), List.forall_mem_cons.2 ⟨FV.one (FV.same (by assumption) rfl), fun _ hp => (List.not_mem_nil hp).elim⟩⟩⟩⟩⟩⟩
      · exact List.forall_mem_cons.2 ⟨(show lk (St.o _) 2 = some _ from by assumption), List.forall_mem_cons.2 ⟨(FO.same (show lk (St.o _) 3 = some _ from by assumption) rfl), List.forall_mem_cons.2 ⟨(show lk (St.o _) 4 = some _ from by assumption), List.forall_mem_cons.2 ⟨(FO.same (show lk (St.o _) 5 = some _ from by assumption) rfl), fun _ hp => (List.not_mem_nil hp).elim⟩⟩⟩⟩
    · cases h
  · cases h
noncomputable def limb_Div.j6001.fin (y : (Int × List Int × Int × Int × List Int × Int × Int)) : Out U := match y with | (x26, x20, x21, x22, x23, x24, x25) => .norm ⟨[(2, .ptr 2 0), (3, .ptr 3 0), (4, .ptr 4 0), (5, .ptr 5 0), (7, .flat (.int .i64 x26))], [(2, .arr 4 C.u64 x20), (3, .lit [.flat (.int .u64 x21), .flat (.int .u64 x22)]), (4, .arr 4 C.u64 x23), (5, .lit [.flat (.int .u64 x24), .flat (.int .u64 x25)])]⟩
noncomputable def limb_Div.j6001.finK {ρ : Type} (y : (Int × List Int × Int × Int × List Int × Int × Int)) (K : Out U → Option ρ) : Option ρ := match y with | (x26, x20, x21, x22, x23, x24, x25) => K (.norm ⟨[(2, .ptr 2 0), (3, .ptr 3 0), (4, .ptr 4 0), (5, .ptr 5 0), (7, .flat (.int .i64 x26))], [(2, .arr 4 C.u64 x20), (3, .lit [.flat (.int .u64 x21), .flat (.int .u64 x22)]), (4, .arr 4 C.u64 x23), (5, .lit [.flat (.int .u64 x24), .flat (.int .u64 x25)])]⟩)
theorem limb_Div.j6001.finK_eq {ρ : Type} (y : (Int × List Int × Int × Int × List Int × Int × Int)) (K : Out U → Option ρ) : limb_Div.j6001.finK y K = K (limb_Div.j6001.fin y) := by
  unfold limb_Div.j6001.finK limb_Div.j6001.fin
  first | rfl | (split <;> rfl)
noncomputable def limb_Div.j6001.re : Out U → Option ((Int × List Int × Int × Int × List Int × Int × Int)) | .norm s => (match s.get 2, s.get 3, s.get 4, s.get 5, s.get 7, lk s.o 2, lk s.o 3, lk s.o 4, lk s.o 5 with | .ptr 2 0, .ptr 3 0, .ptr 4 0, .ptr 5 0, .flat (.int .i64 x26), some (.arr 4 C.u64 x20), some (.lit [.flat (.int .u64 x21), .flat (.int .u64 x22)]), some (.arr 4 C.u64 x23), some (.lit [.flat (.int .u64 x24), .flat (.int .u64 x25)]) => some (x26, x20, x21, x22, x23, x24, x25) | _, _, _, _, _, _, _, _, _ => none) | _ => none
noncomputable def limb_Div.j6001.J : JDen U := { Y := (Int × List Int × Int × Int × List Int × Int × Int), re := limb_Div.j6001.re, fin := limb_Div.j6001.fin, finK := limb_Div.j6001.finK, finK_eq := limb_Div.j6001.finK_eq }
theorem limb_Div.j6001.fit (o : Out U) (y : (Int × List Int × Int × Int × List Int × Int × Int)) (h : limb_Div.j6001.re o = some y) : FitsO o (limb_Div.j6001.fin y) := by
  unfold limb_Div.j6001.re at h
  split at h
  · split at h
    · cases h
      refine fitsO_norm (fits_ren [] ?_ ?_ ren_nil rfl)
      · exact List.forall_mem_cons.2 ⟨FV.one (FV.ptr (by assumption)), List.forall_mem_cons.2 ⟨FV.one (FV.ptr (by assumption)), List.forall_mem_cons.2 ⟨FV.one (FV.ptr (by assumption)), List.forall_mem_cons.2 ⟨FV.one (FV.ptr (by assumption)), List.forall_mem_cons.2 ⟨FV.one (FV.same (by assumption) rfl), fun _ hp => (List.not_mem_nil hp).elim⟩⟩⟩⟩⟩
      · exact List.forall_mem_cons.2 ⟨(show lk (St.o _) 2 = some _ from by assumption), List.forall_mem_cons.2 ⟨(FO.same (show lk (St.o _) 3 = some _ from by assumption) rfl), List.forall_mem_cons.2 ⟨(show lk (St.o _) 4 = some _ from by assumption), List.forall_mem_cons.2 ⟨(FO.same (show lk (St.o _) 5 = some _ from by assumption) rfl), fun _ hp => (List.not_mem_nil hp).elim⟩⟩⟩⟩
    · cases h
  · cases h
noncomputable def limb_Div.jl : List (Nat × JDen U) := [(9000, limb_Div.j9000.J), (6001, limb_Div.j6001.J)]
noncomputable def limb_Div.fl (k : Nat) : List (Nat × FDen U) := [(149, limb_Cmp.D k), (152, limb_less.D k)]
noncomputable def limb_Div.ll (k : Nat) : List (Nat × LDen U) := [(4, limb_Div.l4.L k)]
noncomputable def limb_Div.E (k : Nat) : Env U := { P := Try.prog, D := DD, fd := lk (limb_Div.fl k), ld := lk (limb_Div.ll k), jd := lk limb_Div.jl, mode := lk [(149, (4, C.u64))], elc := lk ec, mpc := lk mc, rts := Try.f156.resultTypes.toList, dyn := fun t => false, vecs := fun d => false, results := Try.f156.results.toList, gh := [], own := false, io := fun g i => false }
theorem limb_Div.ok (k : Nat) : EnvOk (limb_Div.E k) := envOk lawful (limb_Div.fl k) (limb_Div.ll k) limb_Div.jl _ _ _ _ _ _ _ _ _ _ (by
  intro p hp
  simp only [limb_Div.fl, List.mem_cons, List.not_mem_nil, or_false] at hp
  rcases hp with rfl | rfl
  · exact ⟨limb_Cmp.sound k, enter_of Try.func149 (by kernel_rfl) (by kernel_rfl)⟩
  · exact ⟨limb_less.sound k, enter_of Try.func152 (by kernel_rfl) (by kernel_rfl)⟩) (by
  intro p hp
  simp only [limb_Div.jl, List.mem_cons, List.not_mem_nil, or_false] at hp
  rcases hp with rfl | rfl
  · exact limb_Div.j9000.fit
  · exact limb_Div.j6001.fit)
theorem limb_Div.l4.eq (k : Nat) (x : (Int × List Int × Int × Int × List Int × Int × Int)) : evC (limb_Div.E k) (loopAt Try.f156 4) (limb_Div.l4.mk x) (headK limb_Div.l4.un limb_Div.l4.re) = limb_Div.l4.once k x := by kernel_rfl
theorem limb_Div.l4.fit (s : St U) (x : (Int × List Int × Int × Int × List Int × Int × Int)) (h : limb_Div.l4.un s = some x) : Fits s (limb_Div.l4.mk x) := by
  unfold limb_Div.l4.un at h
  split at h
  · cases h
    refine fits_ren [] ?_ ?_ ren_nil rfl
    · exact List.forall_mem_cons.2 ⟨FV.one (FV.ptr (by assumption)), List.forall_mem_cons.2 ⟨FV.one (FV.ptr (by assumption)), List.forall_mem_cons.2 ⟨FV.one (FV.ptr (by assumption)), List.forall_mem_cons.2 ⟨FV.one (FV.ptr (by assumption)), List.forall_mem_cons.2 ⟨FV.one (FV.same (by assumption) rfl), fun _ hp => (List.not_mem_nil hp).elim⟩⟩⟩⟩⟩
    · exact List.forall_mem_cons.2 ⟨(show lk (St.o _) 2 = some _ from by assumption), List.forall_mem_cons.2 ⟨(FO.same (show lk (St.o _) 3 = some _ from by assumption) rfl), List.forall_mem_cons.2 ⟨(show lk (St.o _) 4 = some _ from by assumption), List.forall_mem_cons.2 ⟨(FO.same (show lk (St.o _) 5 = some _ from by assumption) rfl), fun _ hp => (List.not_mem_nil hp).elim⟩⟩⟩⟩
  · cases h
theorem limb_Div.l4.fitO (o : Out U) (y : (List Int × Int × Int)) (h : limb_Div.l4.re o = some y) : FitsO o (limb_Div.l4.fin y) := by
  unfold limb_Div.l4.re at h
  split at h
  · split at h
    · cases h
      refine fitsO_exit (fits_ren [] ?_ ?_ ren_nil rfl)
      · exact List.forall_mem_cons.2 ⟨FV.one (FV.ptr (by assumption)), List.forall_mem_cons.2 ⟨FV.one (FV.ptr (by assumption)), fun _ hp => (List.not_mem_nil hp).elim⟩⟩
      · exact List.forall_mem_cons.2 ⟨(show lk (St.o _) 4 = some _ from by assumption), List.forall_mem_cons.2 ⟨(FO.same (show lk (St.o _) 5 = some _ from by assumption) rfl), fun _ hp => (List.not_mem_nil hp).elim⟩⟩
    · cases h
  · cases h
theorem limb_Div.l4.sound (k : Nat) : LSound (limb_Div.E k) Try.f156.ntmps Try.f156 (loopAt Try.f156 4) (limb_Div.l4.L k) :=
  loop_sound (limb_Div.ok k) mixed rfl (by kernel_rfl) (allL_of (l := []) (by kernel_rfl) allL_nil) limb_Div.l4.un limb_Div.l4.mk limb_Div.l4.fin limb_Div.l4.re (limb_Div.l4.once k) k limb_Div.l4.fit limb_Div.l4.fitO (limb_Div.l4.eq k) limb_Div.l4.finK limb_Div.l4.finK_eq
theorem limb_Div.eq (k : Nat) (x : ((Int × Int × Int × Int) × (Int × Int))) : runF (limb_Div.E k) (codeOf Try.f156) (limb_Div.mk x) limb_Div.re = (limb_Div.D k).f x := by kernel_rfl
theorem limb_Div.fit (s : St U) (x : ((Int × Int × Int × Int) × (Int × Int))) (h : limb_Div.un s = some x) : Fits s (limb_Div.mk x) := by
  unfold limb_Div.un at h
  split at h
  · cases h
    refine fits_ren [] ?_ ?_ ren_nil rfl
    · exact List.forall_mem_cons.2 ⟨FV.one (FV.same (by assumption) rfl), List.forall_mem_cons.2 ⟨FV.one (FV.same (by assumption) rfl), fun _ hp => (List.not_mem_nil hp).elim⟩⟩
    · exact fun _ hp => (List.not_mem_nil hp).elim
  · cases h
theorem limb_Div.fitR (s : St U) (y : ((Int × Int × Int × Int) × (Int × Int) × Bool)) (h : limb_Div.re s = some y) : Fits s (limb_Div.fin y) := by
  unfold limb_Div.re at h
  split at h
  · cases h
    refine fits_ren [] ?_ ?_ ren_nil rfl
    · exact List.forall_mem_cons.2 ⟨FV.tup (by assumption) (FTs.cons (FVA.one (FV.same rfl rfl)) (FTs.cons (FVA.one (FV.same rfl rfl)) (FTs.cons (FVA.one (FV.same rfl rfl)) (FTs.nil)))), fun _ hp => (List.not_mem_nil hp).elim⟩
    · exact fun _ hp => (List.not_mem_nil hp).elim
  · cases h
theorem limb_Div.sound (k : Nat) : Sound Try.prog DD 156 (limb_Div.D k) :=
  fun_sound (E := limb_Div.E k) (fn := Try.f156) (c := codeOf Try.f156) (limb_Div.ok k) mixed rfl Try.func156 (by kernel_rfl) (by kernel_rfl) (allL_of (l := [loopAt Try.f156 4]) (by kernel_rfl) (allL_cons (key := 4) (by kernel_rfl) rfl (limb_Div.l4.sound k) allL_nil)) (limb_Div.D k) limb_Div.mk limb_Div.re (by kernel_rfl) (by kernel_rfl) limb_Div.fit limb_Div.fitR (limb_Div.eq k)
/-! ### pyx/quant.middle: function 168 -/
noncomputable def quant_middle.f (k : Nat) (a0 : (Int × Int)) (a1 : (Int × Int)) : Option Int := (limb_Sub.f k (a1.1, a1.2) (a0.1, a0.2)).bind fun t1 => ((limb_Cmp.f k (a0.1, a0.2) (t1.1.1, t1.1.2)).bind fun t2 => (some t2))
noncomputable def quant_middle.un (s : St U) : Option ((Int × Int) × (Int × Int)) := match s.get 0, s.get 1 with | .agg [.flat (.int .u64 x1), .flat (.int .u64 x2)], .agg [.flat (.int .u64 x3), .flat (.int .u64 x4)] => some ((x1, x2), (x3, x4)) | _, _ => none
noncomputable def quant_middle.mk (x : ((Int × Int) × (Int × Int))) : St U := ⟨[(0, .agg [.flat (.int .u64 x.1.1), .flat (.int .u64 x.1.2)]), (1, .agg [.flat (.int .u64 x.2.1), .flat (.int .u64 x.2.2)])], []⟩
noncomputable def quant_middle.fin (y : Int) : St U := ⟨[(0, .flat (.int .i64 y))], []⟩
noncomputable def quant_middle.D (k : Nat) : FDen U := { X := ((Int × Int) × (Int × Int)), Y := Int, nt := 16, gh := [], un := quant_middle.un, f := fun x => quant_middle.f k (x.1) (x.2), fin := quant_middle.fin, cl := true, clo := fun _ _ => rfl }
noncomputable def quant_middle.re (s : St U) : Option Int := match s.get 0 with | .flat (.int .i64 x1) => some x1 | _ => none
noncomputable def quant_middle.jl : List (Nat × JDen U) := []
noncomputable def quant_middle.fl (k : Nat) : List (Nat × FDen U) := [(128, limb_Sub.D k), (149, limb_Cmp.D k)]
noncomputable def quant_middle.ll (k : Nat) : List (Nat × LDen U) := []
noncomputable def quant_middle.E (k : Nat) : Env U := { P := Try.prog, D := DD, fd := lk (quant_middle.fl k), ld := lk (quant_middle.ll k), jd := lk quant_middle.jl, mode := lk [], elc := lk ec, mpc := lk mc, rts := Try.f168.resultTypes.toList, dyn := fun t => false, vecs := fun d => false, results := Try.f168.results.toList, gh := [], own := false, io := fun g i => false }
theorem quant_middle.ok (k : Nat) : EnvOk (quant_middle.E k) := envOk lawful (quant_middle.fl k) (quant_middle.ll k) quant_middle.jl _ _ _ _ _ _ _ _ _ _ (by
  intro p hp
  simp only [quant_middle.fl, List.mem_cons, List.not_mem_nil, or_false] at hp
  rcases hp with rfl | rfl
  · exact ⟨limb_Sub.sound k, enter_of Try.func128 (by kernel_rfl) (by kernel_rfl)⟩
  · exact ⟨limb_Cmp.sound k, enter_of Try.func149 (by kernel_rfl) (by kernel_rfl)⟩) (by
  intro p hp
  simp [quant_middle.jl] at hp)
theorem quant_middle.eq (k : Nat) (x : ((Int × Int) × (Int × Int))) : runF (quant_middle.E k) (codeOf Try.f168) (quant_middle.mk x) quant_middle.re = (quant_middle.D k).f x := by kernel_rfl
theorem quant_middle.fit (s : St U) (x : ((Int × Int) × (Int × Int))) (h : quant_middle.un s = some x) : Fits s (quant_middle.mk x) := by
  unfold quant_middle.un at h
  split at h
  · cases h
    refine fits_ren [] ?_ ?_ ren_nil rfl
    · exact List.forall_mem_cons.2 ⟨FV.one (FV.same (by assumption) rfl), List.forall_mem_cons.2 ⟨FV.one (FV.same (by assumption) rfl), fun _ hp => (List.not_mem_nil hp).elim⟩⟩
    · exact fun _ hp => (List.not_mem_nil hp).elim
  · cases h
theorem quant_middle.fitR (s : St U) (y : Int) (h : quant_middle.re s = some y) : Fits s (quant_middle.fin y) := by
  unfold quant_middle.re at h
  split at h
  · cases h
    refine fits_ren [] ?_ ?_ ren_nil rfl
    · exact List.forall_mem_cons.2 ⟨FV.one (FV.same (by assumption) rfl), fun _ hp => (List.not_mem_nil hp).elim⟩
    · exact fun _ hp => (List.not_mem_nil hp).elim
  · cases h
theorem quant_middle.sound (k : Nat) : Sound Try.prog DD 168 (quant_middle.D k) :=
  fun_sound (E := quant_middle.E k) (fn := Try.f168) (c := codeOf Try.f168) (quant_middle.ok k) mixed rfl Try.func168 (by kernel_rfl) (by kernel_rfl) (allL_of (l := []) (by kernel_rfl) allL_nil) (quant_middle.D k) quant_middle.mk quant_middle.re (by kernel_rfl) (by kernel_rfl) quant_middle.fit quant_middle.fitR (quant_middle.eq k)
/-! ### pyx/quant.farther: function 157 -/
noncomputable def quant_farther.f (k : Nat) (a0 : Bool) (a1 : Bool) (a2 : (Int × Int)) (a3 : (Int × Int)) (a4 : Int) : Option Bool := cond ((a2.1 == 0) && (a2.2 == 0)) (some false) (cond (a4 == 1) (some true) (cond (a4 == 2) (some a0) (cond (a4 == 3) ((quant_middle.f k (a2.1, a2.2) (a3.1, a3.2)).bind fun t1 => (some (decide (t1 ≥ 0)))) (cond (a4 == 4) ((quant_middle.f k (a2.1, a2.2) (a3.1, a3.2)).bind fun t2 => (cond (decide (t2 > 0)) (some true) (cond (t2 == 0) (some a1) (some false)))) (some false)))))
noncomputable def quant_farther.un (s : St U) : Option (Bool × Bool × (Int × Int) × (Int × Int) × Int) := match s.get 0, s.get 1, s.get 2, s.get 3, s.get 4 with | .flat (.bool x1), .flat (.bool x2), .agg [.flat (.int .u64 x3), .flat (.int .u64 x4)], .agg [.flat (.int .u64 x5), .flat (.int .u64 x6)], .flat (.int .i64 x7) => some (x1, x2, (x3, x4), (x5, x6), x7) | _, _, _, _, _ => none
noncomputable def quant_farther.mk (x : (Bool × Bool × (Int × Int) × (Int × Int) × Int)) : St U := ⟨[(0, .flat (.bool x.1)), (1, .flat (.bool x.2.1)), (2, .agg [.flat (.int .u64 x.2.2.1.1), .flat (.int .u64 x.2.2.1.2)]), (3, .agg [.flat (.int .u64 x.2.2.2.1.1), .flat (.int .u64 x.2.2.2.1.2)]), (4, .flat (.int .i64 x.2.2.2.2))], []⟩
noncomputable def quant_farther.fin (y : Bool) : St U := ⟨[(0, .flat (.bool y))], []⟩
noncomputable def quant_farther.D (k : Nat) : FDen U := { X := (Bool × Bool × (Int × Int) × (Int × Int) × Int), Y := Bool, nt := 41, gh := [], un := quant_farther.un, f := fun x => quant_farther.f k (x.1) (x.2.1) (x.2.2.1) (x.2.2.2.1) (x.2.2.2.2), fin := quant_farther.fin, cl := true, clo := fun _ _ => rfl }
noncomputable def quant_farther.re (s : St U) : Option Bool := match s.get 0 with | .flat (.bool x1) => some x1 | _ => none
noncomputable def quant_farther.jl : List (Nat × JDen U) := []
noncomputable def quant_farther.fl (k : Nat) : List (Nat × FDen U) := [(168, quant_middle.D k)]
noncomputable def quant_farther.ll (k : Nat) : List (Nat × LDen U) := []
noncomputable def quant_farther.E (k : Nat) : Env U := { P := Try.prog, D := DD, fd := lk (quant_farther.fl k), ld := lk (quant_farther.ll k), jd := lk quant_farther.jl, mode := lk [], elc := lk ec, mpc := lk mc, rts := Try.f157.resultTypes.toList, dyn := fun t => false, vecs := fun d => false, results := Try.f157.results.toList, gh := [], own := false, io := fun g i => false }
theorem quant_farther.ok (k : Nat) : EnvOk (quant_farther.E k) := envOk lawful (quant_farther.fl k) (quant_farther.ll k) quant_farther.jl _ _ _ _ _ _ _ _ _ _ (by
  intro p hp
  simp only [quant_farther.fl, List.mem_cons, List.not_mem_nil, or_false] at hp
  rcases hp with rfl
  · exact ⟨quant_middle.sound k, enter_of Try.func168 (by kernel_rfl) (by kernel_rfl)⟩) (by
  intro p hp
  simp [quant_farther.jl] at hp)
theorem quant_farther.eq (k : Nat) (x : (Bool × Bool × (Int × Int) × (Int × Int) × Int)) : runF (quant_farther.E k) (codeOf Try.f157) (quant_farther.mk x) quant_farther.re = (quant_farther.D k).f x := by kernel_rfl
theorem quant_farther.fit (s : St U) (x : (Bool × Bool × (Int × Int) × (Int × Int) × Int)) (h : quant_farther.un s = some x) : Fits s (quant_farther.mk x) := by
  unfold quant_farther.un at h
  split at h
  · cases h
    refine fits_ren [] ?_ ?_ ren_nil rfl
    · exact List.forall_mem_cons.2 ⟨FV.one (FV.same (by assumption) rfl), List.forall_mem_cons.2 ⟨FV.one (FV.same (by assumption) rfl), List.forall_mem_cons.2 ⟨FV.one (FV.same (by assumption) rfl), List.forall_mem_cons.2 ⟨FV.one (FV.same (by assumption) rfl), List.forall_mem_cons.2 ⟨FV.one (FV.same (by assumption) rfl), fun _ hp => (List.not_mem_nil hp).elim⟩⟩⟩⟩⟩
    · exact fun _ hp => (List.not_mem_nil hp).elim
  · cases h
theorem quant_farther.fitR (s : St U) (y : Bool) (h : quant_farther.re s = some y) : Fits s (quant_farther.fin y) := by
  unfold quant_farther.re at h
  split at h
  · cases h
    refine fits_ren [] ?_ ?_ ren_nil rfl
    · exact List.forall_mem_cons.2 ⟨FV.one (FV.same (by assumption) rfl), fun _ hp => (List.not_mem_nil hp).elim⟩
    · exact fun _ hp => (List.not_mem_nil hp).elim
  · cases h
theorem quant_farther.sound (k : Nat) : Sound Try.prog DD 157 (quant_farther.D k) :=
  fun_sound (E := quant_farther.E k) (fn := Try.f157) (c := codeOf Try.f157) (quant_farther.ok k) mixed rfl Try.func157 (by kernel_rfl) (by kernel_rfl) (allL_of (l := []) (by kernel_rfl) allL_nil) (quant_farther.D k) quant_farther.mk quant_farther.re (by kernel_rfl) (by kernel_rfl) quant_farther.fit quant_farther.fitR (quant_farther.eq k)
/-! ### pyx/limb.Wide: function 143 -/
noncomputable def limb_Wide.f (k : Nat) (a0 : (Int × Int)) : Option (Int × Int × Int × Int) := some (a0.1, a0.2, 0, 0)
noncomputable def limb_Wide.un (s : St U) : Option (Int × Int) := match s.get 0 with | .agg [.flat (.int .u64 x1), .flat (.int .u64 x2)] => some (x1, x2) | _ => none
noncomputable def limb_Wide.mk (x : (Int × Int)) : St U := ⟨[(0, .agg [.flat (.int .u64 x.1), .flat (.int .u64 x.2)])], []⟩
noncomputable def limb_Wide.fin (y : (Int × Int × Int × Int)) : St U := ⟨[(0, .agg [.flat (.int .u64 y.1), .flat (.int .u64 y.2.1), .flat (.int .u64 y.2.2.1), .flat (.int .u64 y.2.2.2)])], []⟩
noncomputable def limb_Wide.D (k : Nat) : FDen U := { X := (Int × Int), Y := (Int × Int × Int × Int), nt := 8, gh := [], un := limb_Wide.un, f := fun x => limb_Wide.f k (x), fin := limb_Wide.fin, cl := true, clo := fun _ _ => rfl }
noncomputable def limb_Wide.re (s : St U) : Option (Int × Int × Int × Int) := match s.get 0 with | .agg [.flat (.int .u64 x1), .flat (.int .u64 x2), .flat (.int .u64 x3), .flat (.int .u64 x4)] => some (x1, x2, x3, x4) | _ => none
noncomputable def limb_Wide.jl : List (Nat × JDen U) := []
noncomputable def limb_Wide.fl (k : Nat) : List (Nat × FDen U) := []
noncomputable def limb_Wide.ll (k : Nat) : List (Nat × LDen U) := []
noncomputable def limb_Wide.E (k : Nat) : Env U := { P := Try.prog, D := DD, fd := lk (limb_Wide.fl k), ld := lk (limb_Wide.ll k), jd := lk limb_Wide.jl, mode := lk [], elc := lk ec, mpc := lk mc, rts := Try.f143.resultTypes.toList, dyn := fun t => false, vecs := fun d => false, results := Try.f143.results.toList, gh := [], own := false, io := fun g i => false }
theorem limb_Wide.ok (k : Nat) : EnvOk (limb_Wide.E k) := envOk lawful (limb_Wide.fl k) (limb_Wide.ll k) limb_Wide.jl _ _ _ _ _ _ _ _ _ _ (by
  intro p hp
  simp [limb_Wide.fl] at hp) (by
  intro p hp
  simp [limb_Wide.jl] at hp)
theorem limb_Wide.eq (k : Nat) (x : (Int × Int)) : runF (limb_Wide.E k) (codeOf Try.f143) (limb_Wide.mk x) limb_Wide.re = (limb_Wide.D k).f x := by kernel_rfl
theorem limb_Wide.fit (s : St U) (x : (Int × Int)) (h : limb_Wide.un s = some x) : Fits s (limb_Wide.mk x) := by
  unfold limb_Wide.un at h
  split at h
  · cases h
    refine fits_ren [] ?_ ?_ ren_nil rfl
    · exact List.forall_mem_cons.2 ⟨FV.one (FV.same (by assumption) rfl), fun _ hp => (List.not_mem_nil hp).elim⟩
    · exact fun _ hp => (List.not_mem_nil hp).elim
  · cases h
theorem limb_Wide.fitR (s : St U) (y : (Int × Int × Int × Int)) (h : limb_Wide.re s = some y) : Fits s (limb_Wide.fin y) := by
  unfold limb_Wide.re at h
  split at h
  · cases h
    refine fits_ren [] ?_ ?_ ren_nil rfl
    · exact List.forall_mem_cons.2 ⟨FV.one (FV.same (by assumption) rfl), fun _ hp => (List.not_mem_nil hp).elim⟩
    · exact fun _ hp => (List.not_mem_nil hp).elim
  · cases h
theorem limb_Wide.sound (k : Nat) : Sound Try.prog DD 143 (limb_Wide.D k) :=
  fun_sound (E := limb_Wide.E k) (fn := Try.f143) (c := codeOf Try.f143) (limb_Wide.ok k) mixed rfl Try.func143 (by kernel_rfl) (by kernel_rfl) (allL_of (l := []) (by kernel_rfl) allL_nil) (limb_Wide.D k) limb_Wide.mk limb_Wide.re (by kernel_rfl) (by kernel_rfl) limb_Wide.fit limb_Wide.fitR (limb_Wide.eq k)
/-! ### pyx/quant.made: function 108 -/
noncomputable def quant_made.f (k : Nat) (a0 : Bool) (a1 : (Int × Int × Int × Int)) (a2 : Int) : Option (Sapi_Dec × Int) := (limb_Short.f k (a1.1, a1.2.1, a1.2.2.1, a1.2.2.2)).bind fun t1 => (((cond (a0) (some (t1.2, false, 0, 0, 0, !((t1.1.1 == 0) && (t1.1.2 == 0)), t1.1.1, t1.1.2, a2)) (some (t1.2, false, 0, 0, 0, false, t1.1.1, t1.1.2, a2))) : Option (Bool × Bool × Int × Int × Int × Bool × Int × Int × Int)).bind fun y11 => (((cond (!y11.1) (some (true, y11.2.1, y11.2.2.1, y11.2.2.2.1, y11.2.2.2.2.1, y11.2.2.2.2.2.1, y11.2.2.2.2.2.2.1, y11.2.2.2.2.2.2.2.1, y11.2.2.2.2.2.2.2.2)) ((dec_Right.f k (⟨y11.2.2.2.2.2.1, (y11.2.2.2.2.2.2.1, y11.2.2.2.2.2.2.2.1), y11.2.2.2.2.2.2.2.2⟩ : Sapi_Dec)).bind fun t21 => (some (!t21, y11.2.1, y11.2.2.1, y11.2.2.2.1, y11.2.2.2.2.1, y11.2.2.2.2.2.1, y11.2.2.2.2.2.2.1, y11.2.2.2.2.2.2.2.1, y11.2.2.2.2.2.2.2.2)))) : Option (Bool × Bool × Int × Int × Int × Bool × Int × Int × Int)).bind fun y22 => (cond (y22.1) (some ((⟨false, (0, 0), 0⟩ : Sapi_Dec), 3)) (some ((⟨y22.2.2.2.2.2.1, (y22.2.2.2.2.2.2.1, y22.2.2.2.2.2.2.2.1), y22.2.2.2.2.2.2.2.2⟩ : Sapi_Dec), 0)))))
noncomputable def quant_made.un (s : St U) : Option (Bool × (Int × Int × Int × Int) × Int) := match s.get 0, s.get 1, s.get 2 with | .flat (.bool x1), .agg [.flat (.int .u64 x2), .flat (.int .u64 x3), .flat (.int .u64 x4), .flat (.int .u64 x5)], .flat (.int .i64 x6) => some (x1, (x2, x3, x4, x5), x6) | _, _, _ => none
noncomputable def quant_made.mk (x : (Bool × (Int × Int × Int × Int) × Int)) : St U := ⟨[(0, .flat (.bool x.1)), (1, .agg [.flat (.int .u64 x.2.1.1), .flat (.int .u64 x.2.1.2.1), .flat (.int .u64 x.2.1.2.2.1), .flat (.int .u64 x.2.1.2.2.2)]), (2, .flat (.int .i64 x.2.2))], []⟩
noncomputable def quant_made.fin (y : (Sapi_Dec × Int)) : St U := ⟨[(0, .tup [.agg [.flat (.bool y.1.f_Neg), .flat (.int .u64 y.1.f_C.1), .flat (.int .u64 y.1.f_C.2), .flat (.int .i64 y.1.f_Scale)], .flat (.int .i64 y.2)])], []⟩
noncomputable def quant_made.D (k : Nat) : FDen U := { X := (Bool × (Int × Int × Int × Int) × Int), Y := (Sapi_Dec × Int), nt := 34, gh := [], un := quant_made.un, f := fun x => quant_made.f k (x.1) (x.2.1) (x.2.2), fin := quant_made.fin, cl := true, clo := fun _ _ => rfl }
noncomputable def quant_made.re (s : St U) : Option (Sapi_Dec × Int) := match s.get 0 with | .tup [.agg [.flat (.bool x1), .flat (.int .u64 x2), .flat (.int .u64 x3), .flat (.int .i64 x4)], .flat (.int .i64 x5)] => some ((⟨x1, (x2, x3), x4⟩ : Sapi_Dec), x5) | _ => none
noncomputable def quant_made.j2000.fin (y : (Bool × Bool × Int × Int × Int × Bool × Int × Int × Int)) : Out U := match y with | (x6, x2, x3, x4, x5, x7, x8, x9, x10) => .norm ⟨[(6, .ptr 6 0), (10, .ptr 10 0), (9, .flat (.bool x6))], [(6, .lit [.flat (.bool x2), .flat (.int .u64 x3), .flat (.int .u64 x4), .flat (.int .i64 x5)]), (10, .lit [.flat (.bool x7), .flat (.int .u64 x8), .flat (.int .u64 x9), .flat (.int .i64 x10)])]⟩
noncomputable def quant_made.j2000.finK {ρ : Type} (y : (Bool × Bool × Int × Int × Int × Bool × Int × Int × Int)) (K : Out U → Option ρ) : Option ρ := match y with | (x6, x2, x3, x4, x5, x7, x8, x9, x10) => K (.norm ⟨[(6, .ptr 6 0), (10, .ptr 10 0), (9, .flat (.bool x6))], [(6, .lit [.flat (.bool x2), .flat (.int .u64 x3), .flat (.int .u64 x4), .flat (.int .i64 x5)]), (10, .lit [.flat (.bool x7), .flat (.int .u64 x8), .flat (.int .u64 x9), .flat (.int .i64 x10)])]⟩)
theorem quant_made.j2000.finK_eq {ρ : Type} (y : (Bool × Bool × Int × Int × Int × Bool × Int × Int × Int)) (K : Out U → Option ρ) : quant_made.j2000.finK y K = K (quant_made.j2000.fin y) := by
  unfold quant_made.j2000.finK quant_made.j2000.fin
  first | rfl | (split <;> rfl)
noncomputable def quant_made.j2000.re : Out U → Option ((Bool × Bool × Int × Int × Int × Bool × Int × Int × Int)) | .norm s => (match s.get 6, s.get 10, s.get 9, lk s.o 6, lk s.o 10 with | .ptr 6 0, .ptr 10 0, .flat (.bool x6), some (.lit [.flat (.bool x2), .flat (.int .u64 x3), .flat (.int .u64 x4), .flat (.int .i64 x5)]), some (.lit [.flat (.bool x7), .flat (.int .u64 x8), .flat (.int .u64 x9), .flat (.int .i64 x10)]) => some (x6, x2, x3, x4, x5, x7, x8, x9, x10) | _, _, _, _, _ => none) | _ => none
noncomputable def quant_made.j2000.J : JDen U := { Y := (Bool × Bool × Int × Int × Int × Bool × Int × Int × Int), re := quant_made.j2000.re, fin := quant_made.j2000.fin, finK := quant_made.j2000.finK, finK_eq := quant_made.j2000.finK_eq }
theorem quant_made.j2000.fit (o : Out U) (y : (Bool × Bool × Int × Int × Int × Bool × Int × Int × Int)) (h : quant_made.j2000.re o = some y) : FitsO o (quant_made.j2000.fin y) := by
  unfold quant_made.j2000.re at h
  split at h
  · split at h
    · cases h
      refine fitsO_norm (fits_ren [] ?_ ?_ ren_nil rfl)
      · exact List.forall_mem_cons.2 ⟨FV.one (FV.ptr (by assumption)), List.forall_mem_cons.2 ⟨FV.one (FV.ptr (by assumption)), List.forall_mem_cons.2 ⟨FV.one (FV.same (by assumption) rfl), fun _ hp => (List.not_mem_nil hp).elim⟩⟩⟩
      · exact List.forall_mem_cons.2 ⟨(FO.same (show lk (St.o _) 6 = some _ from by assumption) rfl), List.forall_mem_cons.2 ⟨(FO.same (show lk (St.o _) 10 = some _ from by assumption) rfl), fun _ hp => (List.not_mem_nil hp).elim⟩⟩
    · cases h
  · cases h
noncomputable def quant_made.j3000.fin (y : (Bool × Bool × Int × Int × Int × Bool × Int × Int × Int)) : Out U := match y with | (x20, x12, x13, x14, x15, x16, x17, x18, x19) => .norm ⟨[(6, .ptr 6 0), (10, .ptr 10 0), (31, .flat (.bool x20))], [(6, .lit [.flat (.bool x12), .flat (.int .u64 x13), .flat (.int .u64 x14), .flat (.int .i64 x15)]), (10, .lit [.flat (.bool x16), .flat (.int .u64 x17), .flat (.int .u64 x18), .flat (.int .i64 x19)])]⟩
noncomputable def quant_made.j3000.finK {ρ : Type} (y : (Bool × Bool × Int × Int × Int × Bool × Int × Int × Int)) (K : Out U → Option ρ) : Option ρ := match y with | (x20, x12, x13, x14, x15, x16, x17, x18, x19) => K (.norm ⟨[(6, .ptr 6 0), (10, .ptr 10 0), (31, .flat (.bool x20))], [(6, .lit [.flat (.bool x12), .flat (.int .u64 x13), .flat (.int .u64 x14), .flat (.int .i64 x15)]), (10, .lit [.flat (.bool x16), .flat (.int .u64 x17), .flat (.int .u64 x18), .flat (.int .i64 x19)])]⟩)
theorem quant_made.j3000.finK_eq {ρ : Type} (y : (Bool × Bool × Int × Int × Int × Bool × Int × Int × Int)) (K : Out U → Option ρ) : quant_made.j3000.finK y K = K (quant_made.j3000.fin y) := by
  unfold quant_made.j3000.finK quant_made.j3000.fin
  first | rfl | (split <;> rfl)
noncomputable def quant_made.j3000.re : Out U → Option ((Bool × Bool × Int × Int × Int × Bool × Int × Int × Int)) | .norm s => (match s.get 6, s.get 10, s.get 31, lk s.o 6, lk s.o 10 with | .ptr 6 0, .ptr 10 0, .flat (.bool x20), some (.lit [.flat (.bool x12), .flat (.int .u64 x13), .flat (.int .u64 x14), .flat (.int .i64 x15)]), some (.lit [.flat (.bool x16), .flat (.int .u64 x17), .flat (.int .u64 x18), .flat (.int .i64 x19)]) => some (x20, x12, x13, x14, x15, x16, x17, x18, x19) | _, _, _, _, _ => none) | _ => none
noncomputable def quant_made.j3000.J : JDen U := { Y := (Bool × Bool × Int × Int × Int × Bool × Int × Int × Int), re := quant_made.j3000.re, fin := quant_made.j3000.fin, finK := quant_made.j3000.finK, finK_eq := quant_made.j3000.finK_eq }
theorem quant_made.j3000.fit (o : Out U) (y : (Bool × Bool × Int × Int × Int × Bool × Int × Int × Int)) (h : quant_made.j3000.re o = some y) : FitsO o (quant_made.j3000.fin y) := by
  unfold quant_made.j3000.re at h
  split at h
  · split at h
    · cases h
      refine fitsO_norm (fits_ren [] ?_ ?_ ren_nil rfl)
      · exact List.forall_mem_cons.2 ⟨FV.one (FV.ptr (by assumption)), List.forall_mem_cons.2 ⟨FV.one (FV.ptr (by assumption)), List.forall_mem_cons.2 ⟨FV.one (FV.same (by assumption) rfl), fun _ hp => (List.not_mem_nil hp).elim⟩⟩⟩
      · exact List.forall_mem_cons.2 ⟨(FO.same (show lk (St.o _) 6 = some _ from by assumption) rfl), List.forall_mem_cons.2 ⟨(FO.same (show lk (St.o _) 10 = some _ from by assumption) rfl), fun _ hp => (List.not_mem_nil hp).elim⟩⟩
    · cases h
  · cases h
noncomputable def quant_made.jl : List (Nat × JDen U) := [(2000, quant_made.j2000.J), (3000, quant_made.j3000.J)]
noncomputable def quant_made.fl (k : Nat) : List (Nat × FDen U) := [(125, limb_Short.D k), (82, dec_Right.D k)]
noncomputable def quant_made.ll (k : Nat) : List (Nat × LDen U) := []
noncomputable def quant_made.E (k : Nat) : Env U := { P := Try.prog, D := DD, fd := lk (quant_made.fl k), ld := lk (quant_made.ll k), jd := lk quant_made.jl, mode := lk [], elc := lk ec, mpc := lk mc, rts := Try.f108.resultTypes.toList, dyn := fun t => false, vecs := fun d => false, results := Try.f108.results.toList, gh := [], own := false, io := fun g i => false }
theorem quant_made.ok (k : Nat) : EnvOk (quant_made.E k) := envOk lawful (quant_made.fl k) (quant_made.ll k) quant_made.jl _ _ _ _ _ _ _ _ _ _ (by
  intro p hp
  simp only [quant_made.fl, List.mem_cons, List.not_mem_nil, or_false] at hp
  rcases hp with rfl | rfl
  · exact ⟨limb_Short.sound k, enter_of Try.func125 (by kernel_rfl) (by kernel_rfl)⟩
  · exact ⟨dec_Right.sound k, enter_of Try.func82 (by kernel_rfl) (by kernel_rfl)⟩) (by
  intro p hp
  simp only [quant_made.jl, List.mem_cons, List.not_mem_nil, or_false] at hp
  rcases hp with rfl | rfl
  · exact quant_made.j2000.fit
  · exact quant_made.j3000.fit)
theorem quant_made.eq (k : Nat) (x : (Bool × (Int × Int × Int × Int) × Int)) : runF (quant_made.E k) (codeOf Try.f108) (quant_made.mk x) quant_made.re = (quant_made.D k).f x := by kernel_rfl
theorem quant_made.fit (s : St U) (x : (Bool × (Int × Int × Int × Int) × Int)) (h : quant_made.un s = some x) : Fits s (quant_made.mk x) := by
  unfold quant_made.un at h
  split at h
  · cases h
    refine fits_ren [] ?_ ?_ ren_nil rfl
    · exact List.forall_mem_cons.2 ⟨FV.one (FV.same (by assumption) rfl), List.forall_mem_cons.2 ⟨FV.one (FV.same (by assumption) rfl), List.forall_mem_cons.2 ⟨FV.one (FV.same (by assumption) rfl), fun _ hp => (List.not_mem_nil hp).elim⟩⟩⟩
    · exact fun _ hp => (List.not_mem_nil hp).elim
  · cases h
theorem quant_made.fitR (s : St U) (y : (Sapi_Dec × Int)) (h : quant_made.re s = some y) : Fits s (quant_made.fin y) := by
  unfold quant_made.re at h
  split at h
  · cases h
    refine fits_ren [] ?_ ?_ ren_nil rfl
    · exact List.forall_mem_cons.2 ⟨FV.tup (by assumption) (FTs.cons (FVA.one (FV.same rfl rfl)) (FTs.cons (FVA.one (FV.same rfl rfl)) (FTs.nil))), fun _ hp => (List.not_mem_nil hp).elim⟩
    · exact fun _ hp => (List.not_mem_nil hp).elim
  · cases h
theorem quant_made.sound (k : Nat) : Sound Try.prog DD 108 (quant_made.D k) :=
  fun_sound (E := quant_made.E k) (fn := Try.f108) (c := codeOf Try.f108) (quant_made.ok k) mixed rfl Try.func108 (by kernel_rfl) (by kernel_rfl) (allL_of (l := []) (by kernel_rfl) allL_nil) (quant_made.D k) quant_made.mk quant_made.re (by kernel_rfl) (by kernel_rfl) quant_made.fit quant_made.fitR (quant_made.eq k)
/-! ### pyx/quant.rounded: function 141 -/
noncomputable def quant_rounded.f (k : Nat) (a0 : Bool) (a1 : (Int × Int × Int × Int)) (a2 : (Int × Int)) (a3 : Int) (a4 : Int) : Option (Sapi_Dec × Int) := (limb_Div.f k (a1.1, a1.2.1, a1.2.2.1, a1.2.2.2) (a2.1, a2.2)).bind fun t1 => ((limb_Short.f k (t1.1.1, t1.1.2.1, t1.1.2.2.1, t1.1.2.2.2)).bind fun t2 => (cond (!t2.2) (some ((⟨false, (0, 0), 0⟩ : Sapi_Dec), 3)) ((quant_farther.f k a0 (decide ((bits .and .u64 t2.1.1 1) > 0)) (t1.2.1.1, t1.2.1.2) (a2.1, a2.2) a4).bind fun t3 => (((cond (t3) ((limb_Of.f k 1).bind fun t4 => ((limb_Add.f k (t2.1.1, t2.1.2) (t4.1, t4.2)).bind fun t5 => (cond (!t5.2) (some (.inr ((⟨false, (0, 0), 0⟩ : Sapi_Dec), 3))) (some (.inl (a0, a3, false, 0, 0, 0, t5.1.1, t5.1.2)))))) (some (.inl (a0, a3, false, 0, 0, 0, t2.1.1, t2.1.2)))) : Option ((Bool × Int × Bool × Int × Int × Int × Int × Int) ⊕ (Sapi_Dec × Int))).bind fun | .inl y15 => ((limb_Wide.f k (y15.2.2.2.2.2.2.1, y15.2.2.2.2.2.2.2)).bind fun t16 => ((quant_made.f k y15.1 (t16.1, t16.2.1, t16.2.2.1, t16.2.2.2) y15.2.1).bind fun t17 => (some ((⟨t17.1.f_Neg, (t17.1.f_C.1, t17.1.f_C.2), t17.1.f_Scale⟩ : Sapi_Dec), t17.2)))) | .inr y18 => (some ((⟨y18.1.f_Neg, (y18.1.f_C.1, y18.1.f_C.2), y18.1.f_Scale⟩ : Sapi_Dec), y18.2))))))
noncomputable def quant_rounded.un (s : St U) : Option (Bool × (Int × Int × Int × Int) × (Int × Int) × Int × Int) := match s.get 0, s.get 1, s.get 2, s.get 3, s.get 4 with | .flat (.bool x1), .agg [.flat (.int .u64 x2), .flat (.int .u64 x3), .flat (.int .u64 x4), .flat (.int .u64 x5)], .agg [.flat (.int .u64 x6), .flat (.int .u64 x7)], .flat (.int .i64 x8), .flat (.int .i64 x9) => some (x1, (x2, x3, x4, x5), (x6, x7), x8, x9) | _, _, _, _, _ => none
noncomputable def quant_rounded.mk (x : (Bool × (Int × Int × Int × Int) × (Int × Int) × Int × Int)) : St U := ⟨[(0, .flat (.bool x.1)), (1, .agg [.flat (.int .u64 x.2.1.1), .flat (.int .u64 x.2.1.2.1), .flat (.int .u64 x.2.1.2.2.1), .flat (.int .u64 x.2.1.2.2.2)]), (2, .agg [.flat (.int .u64 x.2.2.1.1), .flat (.int .u64 x.2.2.1.2)]), (3, .flat (.int .i64 x.2.2.2.1)), (4, .flat (.int .i64 x.2.2.2.2))], []⟩
noncomputable def quant_rounded.fin (y : (Sapi_Dec × Int)) : St U := ⟨[(0, .tup [.agg [.flat (.bool y.1.f_Neg), .flat (.int .u64 y.1.f_C.1), .flat (.int .u64 y.1.f_C.2), .flat (.int .i64 y.1.f_Scale)], .flat (.int .i64 y.2)])], []⟩
noncomputable def quant_rounded.D (k : Nat) : FDen U := { X := (Bool × (Int × Int × Int × Int) × (Int × Int) × Int × Int), Y := (Sapi_Dec × Int), nt := 57, gh := [], un := quant_rounded.un, f := fun x => quant_rounded.f k (x.1) (x.2.1) (x.2.2.1) (x.2.2.2.1) (x.2.2.2.2), fin := quant_rounded.fin, cl := true, clo := fun _ _ => rfl }
noncomputable def quant_rounded.re (s : St U) : Option (Sapi_Dec × Int) := match s.get 0 with | .tup [.agg [.flat (.bool x1), .flat (.int .u64 x2), .flat (.int .u64 x3), .flat (.int .i64 x4)], .flat (.int .i64 x5)] => some ((⟨x1, (x2, x3), x4⟩ : Sapi_Dec), x5) | _ => none
noncomputable def quant_rounded.j6001.fin (y : (Bool × Int × Bool × Int × Int × Int × Int × Int) ⊕ (Sapi_Dec × Int)) : Out U := match y with | .inl (x6, x7, x8, x9, x10, x11, x12, x13) => .norm ⟨[(10, .ptr 10 0), (15, .ptr 15 0), (0, .flat (.bool x6)), (3, .flat (.int .i64 x7))], [(10, .lit [.flat (.bool x8), .flat (.int .u64 x9), .flat (.int .u64 x10), .flat (.int .i64 x11)]), (15, .lit [.flat (.int .u64 x12), .flat (.int .u64 x13)])]⟩ | .inr z => .ret (⟨[(0, .tup [.agg [.flat (.bool z.1.f_Neg), .flat (.int .u64 z.1.f_C.1), .flat (.int .u64 z.1.f_C.2), .flat (.int .i64 z.1.f_Scale)], .flat (.int .i64 z.2)])], []⟩)
noncomputable def quant_rounded.j6001.finK {ρ : Type} (y : (Bool × Int × Bool × Int × Int × Int × Int × Int) ⊕ (Sapi_Dec × Int)) (K : Out U → Option ρ) : Option ρ := match y with | .inl (x6, x7, x8, x9, x10, x11, x12, x13) => K (.norm ⟨[(10, .ptr 10 0), (15, .ptr 15 0), (0, .flat (.bool x6)), (3, .flat (.int .i64 x7))], [(10, .lit [.flat (.bool x8), .flat (.int .u64 x9), .flat (.int .u64 x10), .flat (.int .i64 x11)]), (15, .lit [.flat (.int .u64 x12), .flat (.int .u64 x13)])]⟩) | .inr z => K (.ret (⟨[(0, .tup [.agg [.flat (.bool z.1.f_Neg), .flat (.int .u64 z.1.f_C.1), .flat (.int .u64 z.1.f_C.2), .flat (.int .i64 z.1.f_Scale)], .flat (.int .i64 z.2)])], []⟩))
theorem quant_rounded.j6001.finK_eq {ρ : Type} (y : (Bool × Int × Bool × Int × Int × Int × Int × Int) ⊕ (Sapi_Dec × Int)) (K : Out U → Option ρ) : quant_rounded.j6001.finK y K = K (quant_rounded.j6001.fin y) := by
  unfold quant_rounded.j6001.finK quant_rounded.j6001.fin
  first | rfl | (split <;> rfl)
noncomputable def quant_rounded.j6001.re : Out U → Option ((Bool × Int × Bool × Int × Int × Int × Int × Int) ⊕ (Sapi_Dec × Int)) | .norm s => (match s.get 10, s.get 15, s.get 0, s.get 3, lk s.o 10, lk s.o 15 with | .ptr 10 0, .ptr 15 0, .flat (.bool x6), .flat (.int .i64 x7), some (.lit [.flat (.bool x8), .flat (.int .u64 x9), .flat (.int .u64 x10), .flat (.int .i64 x11)]), some (.lit [.flat (.int .u64 x12), .flat (.int .u64 x13)]) => some (.inl (x6, x7, x8, x9, x10, x11, x12, x13)) | _, _, _, _, _, _ => none) | .ret s => (match s.get 0 with | .tup [.agg [.flat (.bool x1), .flat (.int .u64 x2), .flat (.int .u64 x3), .flat (.int .i64 x4)], .flat (.int .i64 x5)] => some (.inr ((⟨x1, (x2, x3), x4⟩ : Sapi_Dec), x5)) | _ => none) | _ => none
noncomputable def quant_rounded.j6001.J : JDen U := { Y := (Bool × Int × Bool × Int × Int × Int × Int × Int) ⊕ (Sapi_Dec × Int), re := quant_rounded.j6001.re, fin := quant_rounded.j6001.fin, finK := quant_rounded.j6001.finK, finK_eq := quant_rounded.j6001.finK_eq }
theorem quant_rounded.j6001.fit (o : Out U) (y : (Bool × Int × Bool × Int × Int × Int × Int × Int) ⊕ (Sapi_Dec × Int)) (h : quant_rounded.j6001.re o = some y) : FitsO o (quant_rounded.j6001.fin y) := by
  unfold quant_rounded.j6001.re at h
  split at h
  · split at h
    · cases h
      refine fitsO_norm (fits_ren [] ?_ ?_ ren_nil rfl)
      · exact List.forall_mem_cons.2 ⟨FV.one (FV.ptr (by assumption)), List.forall_mem_cons.2 ⟨FV.one (FV.ptr (by assumption)), List.forall_mem_cons.2 ⟨FV.one (FV.same (by assumption) rfl), List.forall_mem_cons.2 ⟨FV.one (FV.same (by assumption) rfl), fun _ hp => (List.not_mem_nil hp).elim⟩⟩⟩⟩
      · exact List.forall_mem_cons.2 ⟨(FO.same (show lk (St.o _) 10 = some _ from by assumption) rfl), List.forall_mem_cons.2 ⟨(FO.same (show lk (St.o _) 15 = some _ from by assumption) rfl), fun _ hp => (List.not_mem_nil hp).elim⟩⟩
    · cases h
  · split at h
    · cases h
      refine fitsO_ret (fits_ren [] ?_ ?_ ren_nil rfl)
      · exact List.forall_mem_cons.2 ⟨FV.tup (by assumption) (FTs.cons (FVA.one (FV.same rfl rfl)) (FTs.cons (FVA.one (FV.same rfl rfl)) (FTs.nil))), fun _ hp => (List.not_mem_nil hp).elim⟩
      · exact fun _ hp => (List.not_mem_nil hp).elim
    · cases h
  · cases h
noncomputable def quant_rounded.jl : List (Nat × JDen U) := [(6001, quant_rounded.j6001.J)]
noncomputable def quant_rounded.fl (k : Nat) : List (Nat × FDen U) := [(156, limb_Div.D k), (125, limb_Short.D k), (157, quant_farther.D k), (129, limb_Of.D k), (127, limb_Add.D k), (143, limb_Wide.D k), (108, quant_made.D k)]
noncomputable def quant_rounded.ll (k : Nat) : List (Nat × LDen U) := []
noncomputable def quant_rounded.E (k : Nat) : Env U := { P := Try.prog, D := DD, fd := lk (quant_rounded.fl k), ld := lk (quant_rounded.ll k), jd := lk quant_rounded.jl, mode := lk [], elc := lk ec, mpc := lk mc, rts := Try.f141.resultTypes.toList, dyn := fun t => false, vecs := fun d => false, results := Try.f141.results.toList, gh := [], own := false, io := fun g i => false }
theorem quant_rounded.ok (k : Nat) : EnvOk (quant_rounded.E k) := envOk lawful (quant_rounded.fl k) (quant_rounded.ll k) quant_rounded.jl _ _ _ _ _ _ _ _ _ _ (by
  intro p hp
  simp only [quant_rounded.fl, List.mem_cons, List.not_mem_nil, or_false] at hp
  rcases hp with rfl | rfl | rfl | rfl | rfl | rfl | rfl
  · exact ⟨limb_Div.sound k, enter_of Try.func156 (by kernel_rfl) (by kernel_rfl)⟩
  · exact ⟨limb_Short.sound k, enter_of Try.func125 (by kernel_rfl) (by kernel_rfl)⟩
  · exact ⟨quant_farther.sound k, enter_of Try.func157 (by kernel_rfl) (by kernel_rfl)⟩
  · exact ⟨limb_Of.sound k, enter_of Try.func129 (by kernel_rfl) (by kernel_rfl)⟩
  · exact ⟨limb_Add.sound k, enter_of Try.func127 (by kernel_rfl) (by kernel_rfl)⟩
  · exact ⟨limb_Wide.sound k, enter_of Try.func143 (by kernel_rfl) (by kernel_rfl)⟩
  · exact ⟨quant_made.sound k, enter_of Try.func108 (by kernel_rfl) (by kernel_rfl)⟩) (by
  intro p hp
  simp only [quant_rounded.jl, List.mem_cons, List.not_mem_nil, or_false] at hp
  rcases hp with rfl
  · exact quant_rounded.j6001.fit)
theorem quant_rounded.eq (k : Nat) (x : (Bool × (Int × Int × Int × Int) × (Int × Int) × Int × Int)) : runF (quant_rounded.E k) (codeOf Try.f141) (quant_rounded.mk x) quant_rounded.re = (quant_rounded.D k).f x := by kernel_rfl
theorem quant_rounded.fit (s : St U) (x : (Bool × (Int × Int × Int × Int) × (Int × Int) × Int × Int)) (h : quant_rounded.un s = some x) : Fits s (quant_rounded.mk x) := by
  unfold quant_rounded.un at h
  split at h
  · cases h
    refine fits_ren [] ?_ ?_ ren_nil rfl
    · exact List.forall_mem_cons.2 ⟨FV.one (FV.same (by assumption) rfl), List.forall_mem_cons.2 ⟨FV.one (FV.same (by assumption) rfl), List.forall_mem_cons.2 ⟨FV.one (FV.same (by assumption) rfl), List.forall_mem_cons.2 ⟨FV.one (FV.same (by assumption) rfl), List.forall_mem_cons.2 ⟨FV.one (FV.same (by assumption) rfl), fun _ hp => (List.not_mem_nil hp).elim⟩⟩⟩⟩⟩
    · exact fun _ hp => (List.not_mem_nil hp).elim
  · cases h
theorem quant_rounded.fitR (s : St U) (y : (Sapi_Dec × Int)) (h : quant_rounded.re s = some y) : Fits s (quant_rounded.fin y) := by
  unfold quant_rounded.re at h
  split at h
  · cases h
    refine fits_ren [] ?_ ?_ ren_nil rfl
    · exact List.forall_mem_cons.2 ⟨FV.tup (by assumption) (FTs.cons (FVA.one (FV.same rfl rfl)) (FTs.cons (FVA.one (FV.same rfl rfl)) (FTs.nil))), fun _ hp => (List.not_mem_nil hp).elim⟩
    · exact fun _ hp => (List.not_mem_nil hp).elim
  · cases h
theorem quant_rounded.sound (k : Nat) : Sound Try.prog DD 141 (quant_rounded.D k) :=
  fun_sound (E := quant_rounded.E k) (fn := Try.f141) (c := codeOf Try.f141) (quant_rounded.ok k) mixed rfl Try.func141 (by kernel_rfl) (by kernel_rfl) (allL_of (l := []) (by kernel_rfl) allL_nil) (quant_rounded.D k) quant_rounded.mk quant_rounded.re (by kernel_rfl) (by kernel_rfl) quant_rounded.fit quant_rounded.fitR (quant_rounded.eq k)
/-! ### pyx/quant.Div: function 107 -/
noncomputable def quant_Div.f (k : Nat) (a0 : Sapi_Dec) (a1 : Sapi_Dec) (a2 : Int) (a3 : Int) : Option (Sapi_Dec × Int) := (quant_right.f k a2 a3 [(⟨a0.f_Neg, (a0.f_C.1, a0.f_C.2), a0.f_Scale⟩ : Sapi_Dec), (⟨a1.f_Neg, (a1.f_C.1, a1.f_C.2), a1.f_Scale⟩ : Sapi_Dec)]).bind fun t1 => (cond (!t1) (some ((⟨false, (0, 0), 0⟩ : Sapi_Dec), 1)) ((dec_Sign.f k (⟨a1.f_Neg, (a1.f_C.1, a1.f_C.2), a1.f_Scale⟩ : Sapi_Dec)).bind fun t2 => (cond (t2 == 0) (some ((⟨false, (0, 0), 0⟩ : Sapi_Dec), 4)) (cond (decide ((IntKind.wrap .i64 ((IntKind.wrap .i64 (a2 + a1.f_Scale)) - a0.f_Scale)) ≥ 0)) ((quant_ten.f k (IntKind.wrap .i64 ((IntKind.wrap .i64 (a2 + a1.f_Scale)) - a0.f_Scale))).bind fun t3 => ((limb_Mul.f k (a0.f_C.1, a0.f_C.2) (t3.1, t3.2)).bind fun t4 => ((quant_rounded.f k (!(a0.f_Neg == a1.f_Neg)) (t4.1, t4.2.1, t4.2.2.1, t4.2.2.2) (a1.f_C.1, a1.f_C.2) a2 a3).bind fun t5 => (some ((⟨t5.1.f_Neg, (t5.1.f_C.1, t5.1.f_C.2), t5.1.f_Scale⟩ : Sapi_Dec), t5.2))))) ((quant_ten.f k (IntKind.wrap .i64 (0 - (IntKind.wrap .i64 ((IntKind.wrap .i64 (a2 + a1.f_Scale)) - a0.f_Scale))))).bind fun t6 => ((limb_Mul.f k (a1.f_C.1, a1.f_C.2) (t6.1, t6.2)).bind fun t7 => ((limb_Short.f k (t7.1, t7.2.1, t7.2.2.1, t7.2.2.2)).bind fun t8 => (((cond (!t8.2) (some (a2, a3, !(a0.f_Neg == a1.f_Neg), a0.f_Neg, a0.f_C.1, a0.f_C.2, a0.f_Scale, false, 0, 0, 0, 18446744073709551615, 18446744073709551615)) (some (a2, a3, !(a0.f_Neg == a1.f_Neg), a0.f_Neg, a0.f_C.1, a0.f_C.2, a0.f_Scale, false, 0, 0, 0, t8.1.1, t8.1.2))) : Option (Int × Int × Bool × Bool × Int × Int × Int × Bool × Int × Int × Int × Int × Int)).bind fun y22 => ((limb_Wide.f k (y22.2.2.2.2.1, y22.2.2.2.2.2.1)).bind fun t23 => ((quant_rounded.f k y22.2.2.1 (t23.1, t23.2.1, t23.2.2.1, t23.2.2.2) (y22.2.2.2.2.2.2.2.2.2.2.2.1, y22.2.2.2.2.2.2.2.2.2.2.2.2) y22.1 y22.2.1).bind fun t24 => (some ((⟨t24.1.f_Neg, (t24.1.f_C.1, t24.1.f_C.2), t24.1.f_Scale⟩ : Sapi_Dec), t24.2))))))))))))
noncomputable def quant_Div.un (s : St U) : Option (Sapi_Dec × Sapi_Dec × Int × Int) := match s.get 0, s.get 1, s.get 2, s.get 3 with | .agg [.flat (.bool x1), .flat (.int .u64 x2), .flat (.int .u64 x3), .flat (.int .i64 x4)], .agg [.flat (.bool x5), .flat (.int .u64 x6), .flat (.int .u64 x7), .flat (.int .i64 x8)], .flat (.int .i64 x9), .flat (.int .i64 x10) => some ((⟨x1, (x2, x3), x4⟩ : Sapi_Dec), (⟨x5, (x6, x7), x8⟩ : Sapi_Dec), x9, x10) | _, _, _, _ => none
noncomputable def quant_Div.mk (x : (Sapi_Dec × Sapi_Dec × Int × Int)) : St U := ⟨[(0, .agg [.flat (.bool x.1.f_Neg), .flat (.int .u64 x.1.f_C.1), .flat (.int .u64 x.1.f_C.2), .flat (.int .i64 x.1.f_Scale)]), (1, .agg [.flat (.bool x.2.1.f_Neg), .flat (.int .u64 x.2.1.f_C.1), .flat (.int .u64 x.2.1.f_C.2), .flat (.int .i64 x.2.1.f_Scale)]), (2, .flat (.int .i64 x.2.2.1)), (3, .flat (.int .i64 x.2.2.2))], []⟩
noncomputable def quant_Div.fin (y : (Sapi_Dec × Int)) : St U := ⟨[(0, .tup [.agg [.flat (.bool y.1.f_Neg), .flat (.int .u64 y.1.f_C.1), .flat (.int .u64 y.1.f_C.2), .flat (.int .i64 y.1.f_Scale)], .flat (.int .i64 y.2)])], []⟩
noncomputable def quant_Div.D (k : Nat) : FDen U := { X := (Sapi_Dec × Sapi_Dec × Int × Int), Y := (Sapi_Dec × Int), nt := 78, gh := [], un := quant_Div.un, f := fun x => quant_Div.f k (x.1) (x.2.1) (x.2.2.1) (x.2.2.2), fin := quant_Div.fin, cl := true, clo := fun _ _ => rfl }
noncomputable def quant_Div.re (s : St U) : Option (Sapi_Dec × Int) := match s.get 0 with | .tup [.agg [.flat (.bool x1), .flat (.int .u64 x2), .flat (.int .u64 x3), .flat (.int .i64 x4)], .flat (.int .i64 x5)] => some ((⟨x1, (x2, x3), x4⟩ : Sapi_Dec), x5) | _ => none
noncomputable def quant_Div.j10001.fin (y : (Int × Int × Bool × Bool × Int × Int × Int × Bool × Int × Int × Int × Int × Int)) : Out U := match y with | (x9, x10, x19, x11, x12, x13, x14, x15, x16, x17, x18, x20, x21) => .norm ⟨[(4, .ptr 4 0), (8, .ptr 8 0), (12, .ptr 12 0), (2, .flat (.int .i64 x9)), (3, .flat (.int .i64 x10)), (10, .flat (.bool x19))], [(4, .lit [.flat (.bool x11), .flat (.int .u64 x12), .flat (.int .u64 x13), .flat (.int .i64 x14)]), (8, .lit [.flat (.bool x15), .flat (.int .u64 x16), .flat (.int .u64 x17), .flat (.int .i64 x18)]), (12, .lit [.flat (.int .u64 x20), .flat (.int .u64 x21)])]⟩
noncomputable def quant_Div.j10001.finK {ρ : Type} (y : (Int × Int × Bool × Bool × Int × Int × Int × Bool × Int × Int × Int × Int × Int)) (K : Out U → Option ρ) : Option ρ := match y with | (x9, x10, x19, x11, x12, x13, x14, x15, x16, x17, x18, x20, x21) => K (.norm ⟨[(4, .ptr 4 0), (8, .ptr 8 0), (12, .ptr 12 0), (2, .flat (.int .i64 x9)), (3, .flat (.int .i64 x10)), (10, .flat (.bool x19))], [(4, .lit [.flat (.bool x11), .flat (.int .u64 x12), .flat (.int .u64 x13), .flat (.int .i64 x14)]), (8, .lit [.flat (.bool x15), .flat (.int .u64 x16), .flat (.int .u64 x17), .flat (.int .i64 x18)]), (12, .lit [.flat (.int .u64 x20), .flat (.int .u64 x21)])]⟩)
theorem quant_Div.j10001.finK_eq {ρ : Type} (y : (Int × Int × Bool × Bool × Int × Int × Int × Bool × Int × Int × Int × Int × Int)) (K : Out U → Option ρ) : quant_Div.j10001.finK y K = K (quant_Div.j10001.fin y) := by
  unfold quant_Div.j10001.finK quant_Div.j10001.fin
  first | rfl | (split <;> rfl)
noncomputable def quant_Div.j10001.re : Out U → Option ((Int × Int × Bool × Bool × Int × Int × Int × Bool × Int × Int × Int × Int × Int)) | .norm s => (match s.get 4, s.get 8, s.get 12, s.get 2, s.get 3, s.get 10, lk s.o 4, lk s.o 8, lk s.o 12 with | .ptr 4 0, .ptr 8 0, .ptr 12 0, .flat (.int .i64 x9), .flat (.int .i64 x10), .flat (.bool x19), some (.lit [.flat (.bool x11), .flat (.int .u64 x12), .flat (.int .u64 x13), .flat (.int .i64 x14)]), some (.lit [.flat (.bool x15), .flat (.int .u64 x16), .flat (.int .u64 x17), .flat (.int .i64 x18)]), some (.lit [.flat (.int .u64 x20), .flat (.int .u64 x21)]) => some (x9, x10, x19, x11, x12, x13, x14, x15, x16, x17, x18, x20, x21) | _, _, _, _, _, _, _, _, _ => none) | _ => none
noncomputable def quant_Div.j10001.J : JDen U := { Y := (Int × Int × Bool × Bool × Int × Int × Int × Bool × Int × Int × Int × Int × Int), re := quant_Div.j10001.re, fin := quant_Div.j10001.fin, finK := quant_Div.j10001.finK, finK_eq := quant_Div.j10001.finK_eq }
theorem quant_Div.j10001.fit (o : Out U) (y : (Int × Int × Bool × Bool × Int × Int × Int × Bool × Int × Int × Int × Int × Int)) (h : quant_Div.j10001.re o = some y) : FitsO o (quant_Div.j10001.fin y) := by
  unfold quant_Div.j10001.re at h
  split at h
  · split at h
    · cases h
      refine fitsO_norm (fits_ren [] ?_ ?_ ren_nil rfl)
      · exact List.forall_mem_cons.2 ⟨FV.one (FV.ptr (by assumption)), List.forall_mem_cons.2 ⟨FV.one (FV.ptr (by assumption)), List.forall_mem_cons.2 ⟨FV.one (FV.ptr (by assumption)), List.forall_mem_cons.2 ⟨FV.one (FV.same (by assumption) rfl), List.forall_mem_cons.2 ⟨FV.one (FV.same (by assumption) rfl), List.forall_mem_cons.2 ⟨FV.one (FV.same (by assumption) rfl), fun _ hp => (List.not_mem_nil hp).elim⟩⟩⟩⟩⟩⟩
      · exact List.forall_mem_cons.2 ⟨(FO.same (show lk (St.o _) 4 = some _ from by assumption) rfl), List.forall_mem_cons.2 ⟨(FO.same (show lk (St.o _) 8 = some _ from by assumption) rfl), List.forall_mem_cons.2 ⟨(FO.same (show lk (St.o _) 12 = some _ from by assumption) rfl), fun _ hp => (List.not_mem_nil hp).elim⟩⟩⟩
    · cases h
  · cases h
noncomputable def quant_Div.jl : List (Nat × JDen U) := [(10001, quant_Div.j10001.J)]
noncomputable def quant_Div.fl (k : Nat) : List (Nat × FDen U) := [(140, quant_right.D k), (37, dec_Sign.D k), (142, quant_ten.D k), (109, limb_Mul.D k), (141, quant_rounded.D k), (125, limb_Short.D k), (143, limb_Wide.D k)]
noncomputable def quant_Div.ll (k : Nat) : List (Nat × LDen U) := []
noncomputable def quant_Div.E (k : Nat) : Env U := { P := Try.prog, D := DD, fd := lk (quant_Div.fl k), ld := lk (quant_Div.ll k), jd := lk quant_Div.jl, mode := lk [], elc := lk ec, mpc := lk mc, rts := Try.f107.resultTypes.toList, dyn := fun t => false, vecs := fun d => false, results := Try.f107.results.toList, gh := [], own := false, io := fun g i => false }
theorem quant_Div.ok (k : Nat) : EnvOk (quant_Div.E k) := envOk lawful (quant_Div.fl k) (quant_Div.ll k) quant_Div.jl _ _ _ _ _ _ _ _ _ _ (by
  intro p hp
  simp only [quant_Div.fl, List.mem_cons, List.not_mem_nil, or_false] at hp
  rcases hp with rfl | rfl | rfl | rfl | rfl | rfl | rfl
  · exact ⟨quant_right.sound k, enter_of Try.func140 (by kernel_rfl) (by kernel_rfl)⟩
  · exact ⟨dec_Sign.sound k, enter_of Try.func37 (by kernel_rfl) (by kernel_rfl)⟩
  · exact ⟨quant_ten.sound k, enter_of Try.func142 (by kernel_rfl) (by kernel_rfl)⟩
  · exact ⟨limb_Mul.sound k, enter_of Try.func109 (by kernel_rfl) (by kernel_rfl)⟩
  · exact ⟨quant_rounded.sound k, enter_of Try.func141 (by kernel_rfl) (by kernel_rfl)⟩
  · exact ⟨limb_Short.sound k, enter_of Try.func125 (by kernel_rfl) (by kernel_rfl)⟩
  · exact ⟨limb_Wide.sound k, enter_of Try.func143 (by kernel_rfl) (by kernel_rfl)⟩) (by
  intro p hp
  simp only [quant_Div.jl, List.mem_cons, List.not_mem_nil, or_false] at hp
  rcases hp with rfl
  · exact quant_Div.j10001.fit)
theorem quant_Div.eq (k : Nat) (x : (Sapi_Dec × Sapi_Dec × Int × Int)) : runF (quant_Div.E k) (codeOf Try.f107) (quant_Div.mk x) quant_Div.re = (quant_Div.D k).f x := by kernel_rfl
theorem quant_Div.fit (s : St U) (x : (Sapi_Dec × Sapi_Dec × Int × Int)) (h : quant_Div.un s = some x) : Fits s (quant_Div.mk x) := by
  unfold quant_Div.un at h
  split at h
  · cases h
    refine fits_ren [] ?_ ?_ ren_nil rfl
    · exact List.forall_mem_cons.2 ⟨FV.one (FV.same (by assumption) rfl), List.forall_mem_cons.2 ⟨FV.one (FV.same (by assumption) rfl), List.forall_mem_cons.2 ⟨FV.one (FV.same (by assumption) rfl), List.forall_mem_cons.2 ⟨FV.one (FV.same (by assumption) rfl), fun _ hp => (List.not_mem_nil hp).elim⟩⟩⟩⟩
    · exact fun _ hp => (List.not_mem_nil hp).elim
  · cases h
theorem quant_Div.fitR (s : St U) (y : (Sapi_Dec × Int)) (h : quant_Div.re s = some y) : Fits s (quant_Div.fin y) := by
  unfold quant_Div.re at h
  split at h
  · cases h
    refine fits_ren [] ?_ ?_ ren_nil rfl
    · exact List.forall_mem_cons.2 ⟨FV.tup (by assumption) (FTs.cons (FVA.one (FV.same rfl rfl)) (FTs.cons (FVA.one (FV.same rfl rfl)) (FTs.nil))), fun _ hp => (List.not_mem_nil hp).elim⟩
    · exact fun _ hp => (List.not_mem_nil hp).elim
  · cases h
theorem quant_Div.sound (k : Nat) : Sound Try.prog DD 107 (quant_Div.D k) :=
  fun_sound (E := quant_Div.E k) (fn := Try.f107) (c := codeOf Try.f107) (quant_Div.ok k) mixed rfl Try.func107 (by kernel_rfl) (by kernel_rfl) (allL_of (l := []) (by kernel_rfl) allL_nil) (quant_Div.D k) quant_Div.mk quant_Div.re (by kernel_rfl) (by kernel_rfl) quant_Div.fit quant_Div.fitR (quant_Div.eq k)
/-! ### pyx/quant.Unit: function 61 -/
noncomputable def quant_Unit.f (k : Nat) (a0 : Sapi_Dec) (a1 : Sapi_Dec) (a2 : Int) : Option (Sapi_Dec × Int) := (dec_Sign.f k (⟨a1.f_Neg, (a1.f_C.1, a1.f_C.2), a1.f_Scale⟩ : Sapi_Dec)).bind fun t1 => (cond (decide (t1 ≤ 0)) (some ((⟨false, (0, 0), 0⟩ : Sapi_Dec), 1)) ((quant_Div.f k (⟨a0.f_Neg, (a0.f_C.1, a0.f_C.2), a0.f_Scale⟩ : Sapi_Dec) (⟨a1.f_Neg, (a1.f_C.1, a1.f_C.2), a1.f_Scale⟩ : Sapi_Dec) 0 a2).bind fun t2 => (cond (t2.2 != 0) (some ((⟨false, (0, 0), 0⟩ : Sapi_Dec), t2.2)) ((limb_Mul.f k (t2.1.f_C.1, t2.1.f_C.2) (a1.f_C.1, a1.f_C.2)).bind fun t3 => ((quant_made.f k a0.f_Neg (t3.1, t3.2.1, t3.2.2.1, t3.2.2.2) a1.f_Scale).bind fun t4 => (some ((⟨t4.1.f_Neg, (t4.1.f_C.1, t4.1.f_C.2), t4.1.f_Scale⟩ : Sapi_Dec), t4.2)))))))
noncomputable def quant_Unit.un (s : St U) : Option (Sapi_Dec × Sapi_Dec × Int) := match s.get 0, s.get 1, s.get 2 with | .agg [.flat (.bool x1), .flat (.int .u64 x2), .flat (.int .u64 x3), .flat (.int .i64 x4)], .agg [.flat (.bool x5), .flat (.int .u64 x6), .flat (.int .u64 x7), .flat (.int .i64 x8)], .flat (.int .i64 x9) => some ((⟨x1, (x2, x3), x4⟩ : Sapi_Dec), (⟨x5, (x6, x7), x8⟩ : Sapi_Dec), x9) | _, _, _ => none
noncomputable def quant_Unit.mk (x : (Sapi_Dec × Sapi_Dec × Int)) : St U := ⟨[(0, .agg [.flat (.bool x.1.f_Neg), .flat (.int .u64 x.1.f_C.1), .flat (.int .u64 x.1.f_C.2), .flat (.int .i64 x.1.f_Scale)]), (1, .agg [.flat (.bool x.2.1.f_Neg), .flat (.int .u64 x.2.1.f_C.1), .flat (.int .u64 x.2.1.f_C.2), .flat (.int .i64 x.2.1.f_Scale)]), (2, .flat (.int .i64 x.2.2))], []⟩
noncomputable def quant_Unit.fin (y : (Sapi_Dec × Int)) : St U := ⟨[(0, .tup [.agg [.flat (.bool y.1.f_Neg), .flat (.int .u64 y.1.f_C.1), .flat (.int .u64 y.1.f_C.2), .flat (.int .i64 y.1.f_Scale)], .flat (.int .i64 y.2)])], []⟩
noncomputable def quant_Unit.D (k : Nat) : FDen U := { X := (Sapi_Dec × Sapi_Dec × Int), Y := (Sapi_Dec × Int), nt := 37, gh := [], un := quant_Unit.un, f := fun x => quant_Unit.f k (x.1) (x.2.1) (x.2.2), fin := quant_Unit.fin, cl := true, clo := fun _ _ => rfl }
noncomputable def quant_Unit.re (s : St U) : Option (Sapi_Dec × Int) := match s.get 0 with | .tup [.agg [.flat (.bool x1), .flat (.int .u64 x2), .flat (.int .u64 x3), .flat (.int .i64 x4)], .flat (.int .i64 x5)] => some ((⟨x1, (x2, x3), x4⟩ : Sapi_Dec), x5) | _ => none
noncomputable def quant_Unit.jl : List (Nat × JDen U) := []
noncomputable def quant_Unit.fl (k : Nat) : List (Nat × FDen U) := [(37, dec_Sign.D k), (107, quant_Div.D k), (109, limb_Mul.D k), (108, quant_made.D k)]
noncomputable def quant_Unit.ll (k : Nat) : List (Nat × LDen U) := []
noncomputable def quant_Unit.E (k : Nat) : Env U := { P := Try.prog, D := DD, fd := lk (quant_Unit.fl k), ld := lk (quant_Unit.ll k), jd := lk quant_Unit.jl, mode := lk [], elc := lk ec, mpc := lk mc, rts := Try.f61.resultTypes.toList, dyn := fun t => false, vecs := fun d => false, results := Try.f61.results.toList, gh := [], own := false, io := fun g i => false }
theorem quant_Unit.ok (k : Nat) : EnvOk (quant_Unit.E k) := envOk lawful (quant_Unit.fl k) (quant_Unit.ll k) quant_Unit.jl _ _ _ _ _ _ _ _ _ _ (by
  intro p hp
  simp only [quant_Unit.fl, List.mem_cons, List.not_mem_nil, or_false] at hp
  rcases hp with rfl | rfl | rfl | rfl
  · exact ⟨dec_Sign.sound k, enter_of Try.func37 (by kernel_rfl) (by kernel_rfl)⟩
  · exact ⟨quant_Div.sound k, enter_of Try.func107 (by kernel_rfl) (by kernel_rfl)⟩
  · exact ⟨limb_Mul.sound k, enter_of Try.func109 (by kernel_rfl) (by kernel_rfl)⟩
  · exact ⟨quant_made.sound k, enter_of Try.func108 (by kernel_rfl) (by kernel_rfl)⟩) (by
  intro p hp
  simp [quant_Unit.jl] at hp)
theorem quant_Unit.eq (k : Nat) (x : (Sapi_Dec × Sapi_Dec × Int)) : runF (quant_Unit.E k) (codeOf Try.f61) (quant_Unit.mk x) quant_Unit.re = (quant_Unit.D k).f x := by kernel_rfl
theorem quant_Unit.fit (s : St U) (x : (Sapi_Dec × Sapi_Dec × Int)) (h : quant_Unit.un s = some x) : Fits s (quant_Unit.mk x) := by
  unfold quant_Unit.un at h
  split at h
  · cases h
    refine fits_ren [] ?_ ?_ ren_nil rfl
    · exact List.forall_mem_cons.2 ⟨FV.one (FV.same (by assumption) rfl), List.forall_mem_cons.2 ⟨FV.one (FV.same (by assumption) rfl), List.forall_mem_cons.2 ⟨FV.one (FV.same (by assumption) rfl), fun _ hp => (List.not_mem_nil hp).elim⟩⟩⟩
    · exact fun _ hp => (List.not_mem_nil hp).elim
  · cases h
theorem quant_Unit.fitR (s : St U) (y : (Sapi_Dec × Int)) (h : quant_Unit.re s = some y) : Fits s (quant_Unit.fin y) := by
  unfold quant_Unit.re at h
  split at h
  · cases h
    refine fits_ren [] ?_ ?_ ren_nil rfl
    · exact List.forall_mem_cons.2 ⟨FV.tup (by assumption) (FTs.cons (FVA.one (FV.same rfl rfl)) (FTs.cons (FVA.one (FV.same rfl rfl)) (FTs.nil))), fun _ hp => (List.not_mem_nil hp).elim⟩
    · exact fun _ hp => (List.not_mem_nil hp).elim
  · cases h
theorem quant_Unit.sound (k : Nat) : Sound Try.prog DD 61 (quant_Unit.D k) :=
  fun_sound (E := quant_Unit.E k) (fn := Try.f61) (c := codeOf Try.f61) (quant_Unit.ok k) mixed rfl Try.func61 (by kernel_rfl) (by kernel_rfl) (allL_of (l := []) (by kernel_rfl) allL_nil) (quant_Unit.D k) quant_Unit.mk quant_Unit.re (by kernel_rfl) (by kernel_rfl) quant_Unit.fit quant_Unit.fitR (quant_Unit.eq k)
/-! ### (*pyx/gate.Gate).Release: function 18 -/
noncomputable def gate_Gate_Release.f (k : Nat) (a0 : Sgate_Gate) (a1 : Sapi_Rule) (a2 : Int) (a3 : Sgate_Key) (a4 : Sapi_Dec) : Option (Sapi_Dec × Bool × Int × Sgate_Gate) := ((cond (a1.f_Tag != 3) (some (a2, true, a0.f_l, a0.f_at, (⟨a1.f_Tag, a1.f_Role, a1.f_Verb, a1.f_Ent, a1.f_Group, a1.f_Line, (⟨a1.f_Unit.f_Neg, (a1.f_Unit.f_C.1, a1.f_Unit.f_C.2), a1.f_Unit.f_Scale⟩ : Sapi_Dec), (⟨a1.f_To.f_Set, a1.f_To.f_Level⟩ : Sapi_Label)⟩ : Sapi_Rule), a3.f_Group, a3.f_Line, a3.f_Period, a3.f_Version, a4.f_Neg, a4.f_C.1, a4.f_C.2, a4.f_Scale, false, 0, 0, 0)) (cond (a1.f_Group != a3.f_Group) (some (a2, true, a0.f_l, a0.f_at, (⟨a1.f_Tag, a1.f_Role, a1.f_Verb, a1.f_Ent, a1.f_Group, a1.f_Line, (⟨a1.f_Unit.f_Neg, (a1.f_Unit.f_C.1, a1.f_Unit.f_C.2), a1.f_Unit.f_Scale⟩ : Sapi_Dec), (⟨a1.f_To.f_Set, a1.f_To.f_Level⟩ : Sapi_Label)⟩ : Sapi_Rule), a3.f_Group, a3.f_Line, a3.f_Period, a3.f_Version, a4.f_Neg, a4.f_C.1, a4.f_C.2, a4.f_Scale, false, 0, 0, 0)) (some (a2, a1.f_Line != a3.f_Line, a0.f_l, a0.f_at, (⟨a1.f_Tag, a1.f_Role, a1.f_Verb, a1.f_Ent, a1.f_Group, a1.f_Line, (⟨a1.f_Unit.f_Neg, (a1.f_Unit.f_C.1, a1.f_Unit.f_C.2), a1.f_Unit.f_Scale⟩ : Sapi_Dec), (⟨a1.f_To.f_Set, a1.f_To.f_Level⟩ : Sapi_Label)⟩ : Sapi_Rule), a3.f_Group, a3.f_Line, a3.f_Period, a3.f_Version, a4.f_Neg, a4.f_C.1, a4.f_C.2, a4.f_Scale, false, 0, 0, 0)))) : Option (Int × Bool × List Sgate_Out × List (Sgate_Key × Int) × Sapi_Rule × Int × Int × Int × Int × Bool × Int × Int × Int × Bool × Int × Int × Int)).bind fun y18 => (cond (y18.2.1) (some ((⟨false, (0, 0), 0⟩ : Sapi_Dec), false, 1, (⟨y18.2.2.1, y18.2.2.2.1⟩ : Sgate_Gate))) ((some (mget (keq_Sgate_Key (⟨y18.2.2.2.2.2.1, y18.2.2.2.2.2.2.1, y18.2.2.2.2.2.2.2.1, y18.2.2.2.2.2.2.2.2.1⟩ : Sgate_Key)) y18.2.2.2.1)).bind fun t19 => (cond (Option.isSome t19) (cond (inb (Option.getD t19 0) (List.length y18.2.2.1)) (some ((⟨((List.getD y18.2.2.1 (Int.toNat (Option.getD t19 0)) Sgate_Out.zero).f_Value).f_Neg, ((((List.getD y18.2.2.1 (Int.toNat (Option.getD t19 0)) Sgate_Out.zero).f_Value).f_C).1, (((List.getD y18.2.2.1 (Int.toNat (Option.getD t19 0)) Sgate_Out.zero).f_Value).f_C).2), ((List.getD y18.2.2.1 (Int.toNat (Option.getD t19 0)) Sgate_Out.zero).f_Value).f_Scale⟩ : Sapi_Dec), false, 0, (⟨y18.2.2.1, y18.2.2.2.1⟩ : Sgate_Gate))) none) ((quant_Unit.f k (⟨y18.2.2.2.2.2.2.2.2.2.1, (y18.2.2.2.2.2.2.2.2.2.2.1, y18.2.2.2.2.2.2.2.2.2.2.2.1), y18.2.2.2.2.2.2.2.2.2.2.2.2.1⟩ : Sapi_Dec) (⟨y18.2.2.2.2.1.f_Unit.f_Neg, (y18.2.2.2.2.1.f_Unit.f_C.1, y18.2.2.2.2.1.f_Unit.f_C.2), y18.2.2.2.2.1.f_Unit.f_Scale⟩ : Sapi_Dec) 4).bind fun t20 => (cond (t20.2 != 0) (some ((⟨false, (0, 0), 0⟩ : Sapi_Dec), false, t20.2, (⟨y18.2.2.1, y18.2.2.2.1⟩ : Sgate_Gate))) (cond (okLen (List.length y18.2.2.1 + List.length [(⟨(⟨y18.2.2.2.2.2.1, y18.2.2.2.2.2.2.1, y18.2.2.2.2.2.2.2.1, y18.2.2.2.2.2.2.2.2.1⟩ : Sgate_Key), y18.1, (⟨t20.1.f_Neg, (t20.1.f_C.1, t20.1.f_C.2), t20.1.f_Scale⟩ : Sapi_Dec), (⟨y18.2.2.2.2.1.f_To.f_Set, y18.2.2.2.2.1.f_To.f_Level⟩ : Sapi_Label)⟩ : Sgate_Out)]) 88) (some ((⟨t20.1.f_Neg, (t20.1.f_C.1, t20.1.f_C.2), t20.1.f_Scale⟩ : Sapi_Dec), true, 0, (⟨y18.2.2.1 ++ [(⟨(⟨y18.2.2.2.2.2.1, y18.2.2.2.2.2.2.1, y18.2.2.2.2.2.2.2.1, y18.2.2.2.2.2.2.2.2.1⟩ : Sgate_Key), y18.1, (⟨t20.1.f_Neg, (t20.1.f_C.1, t20.1.f_C.2), t20.1.f_Scale⟩ : Sapi_Dec), (⟨y18.2.2.2.2.1.f_To.f_Set, y18.2.2.2.2.1.f_To.f_Level⟩ : Sapi_Label)⟩ : Sgate_Out)], mput (keq_Sgate_Key (⟨y18.2.2.2.2.2.1, y18.2.2.2.2.2.2.1, y18.2.2.2.2.2.2.2.1, y18.2.2.2.2.2.2.2.2.1⟩ : Sgate_Key)) (⟨y18.2.2.2.2.2.1, y18.2.2.2.2.2.2.1, y18.2.2.2.2.2.2.2.1, y18.2.2.2.2.2.2.2.2.1⟩ : Sgate_Key) (List.length y18.2.2.1 : Int) y18.2.2.2.1⟩ : Sgate_Gate))) none))))))
noncomputable def gate_Gate_Release.un (s : St U) : Option (Sgate_Gate × Sapi_Rule × Int × Sgate_Key × Sapi_Dec) := match s.get 0, lk s.o 7000000000000, s.get 1, s.get 2, s.get 3, s.get 4, s.get 1000000000000000 with | .ptr 7000000000000 0, some (.lit [x3, x4]), .agg x5, .flat (.int .i64 x7), .agg [.flat (.int .i64 x8), .flat (.int .i64 x9), .flat (.int .i64 x10), .flat (.int .i64 x11)], .agg [.flat (.bool x12), .flat (.int .u64 x13), .flat (.int .u64 x14), .flat (.int .i64 x15)], .ptr 7000000000000 0 => (tip_Sgate_Out s.o 11 x3).bind fun ex1 => ((map_Sgate_Key_i64_t s.o x4).bind fun ex2 => ((cd_Sapi_Rule.full x5).bind fun x6 => (cond (apart [ex1.1, ex2.1]) (some ((⟨ex1.2, ex2.2⟩ : Sgate_Gate), x6, x7, (⟨x8, x9, x10, x11⟩ : Sgate_Key), (⟨x12, (x13, x14), x15⟩ : Sapi_Dec))) none))) | _, _, _, _, _, _, _ => none
noncomputable def gate_Gate_Release.mk (x : (Sgate_Gate × Sapi_Rule × Int × Sgate_Key × Sapi_Dec)) : St U := ⟨[(0, .ptr 7000000000000 0), (1, .agg (cd_Sapi_Rule.enc x.2.1)), (2, .flat (.int .i64 x.2.2.1)), (3, .agg [.flat (.int .i64 x.2.2.2.1.f_Group), .flat (.int .i64 x.2.2.2.1.f_Line), .flat (.int .i64 x.2.2.2.1.f_Period), .flat (.int .i64 x.2.2.2.1.f_Version)]), (4, .agg [.flat (.bool x.2.2.2.2.f_Neg), .flat (.int .u64 x.2.2.2.2.f_C.1), .flat (.int .u64 x.2.2.2.2.f_C.2), .flat (.int .i64 x.2.2.2.2.f_Scale)]), (1000000000000000, .ptr 7000000000000 0)], [(7000000000000, .lit [.tip 7000000000001 C.Sgate_Out x.1.f_l, .mp 7000000000002]), (7000000000001, .tip 11), (7000000000002, .map true true false C.Sgate_Key C.i64 x.1.f_at)]⟩
noncomputable def gate_Gate_Release.fin (y : (Sapi_Dec × Bool × Int × Sgate_Gate)) : St U := ⟨[(0, .tup [.agg [.flat (.bool y.1.f_Neg), .flat (.int .u64 y.1.f_C.1), .flat (.int .u64 y.1.f_C.2), .flat (.int .i64 y.1.f_Scale)], .flat (.bool y.2.1), .flat (.int .i64 y.2.2.1)]), (1000000000000000, .ptr 7000000000000 0)], [(7000000000000, .lit [.tip 7000000000001 C.Sgate_Out y.2.2.2.f_l, .mp 7000000000002]), (7000000000001, .tip 11), (7000000000002, .map true true false C.Sgate_Key C.i64 y.2.2.2.f_at)]⟩
noncomputable def gate_Gate_Release.D (k : Nat) : FDen U := { X := (Sgate_Gate × Sapi_Rule × Int × Sgate_Key × Sapi_Dec), Y := (Sapi_Dec × Bool × Int × Sgate_Gate), nt := 94, gh := [0], un := gate_Gate_Release.un, f := fun x => gate_Gate_Release.f k (x.1) (x.2.1) (x.2.2.1) (x.2.2.2.1) (x.2.2.2.2), fin := gate_Gate_Release.fin, cl := false, clo := fun h => by cases h }
noncomputable def gate_Gate_Release.re (s : St U) : Option (Sapi_Dec × Bool × Int × Sgate_Gate) := match s.get 0, s.get 1000000000000000, lk s.o 7000000000000 with | .tup [.agg [.flat (.bool x1), .flat (.int .u64 x2), .flat (.int .u64 x3), .flat (.int .i64 x4)], .flat (.bool x5), .flat (.int .i64 x6)], .ptr 7000000000000 0, some (.lit [x9, x10]) => (tip_Sgate_Out s.o 11 x9).bind fun ex7 => ((map_Sgate_Key_i64_t s.o x10).bind fun ex8 => (cond (apart [ex7.1, ex8.1]) (some ((⟨x1, (x2, x3), x4⟩ : Sapi_Dec), x5, x6, (⟨ex7.2, ex8.2⟩ : Sgate_Gate))) none)) | _, _, _ => none
noncomputable def gate_Gate_Release.j1000.fin (y : (Int × Bool × List Sgate_Out × List (Sgate_Key × Int) × Sapi_Rule × Int × Int × Int × Int × Bool × Int × Int × Int × Bool × Int × Int × Int)) : Out U := match y with | (x3, x17, x1, x2, x4, x5, x6, x7, x8, x9, x10, x11, x12, x13, x14, x15, x16) => .norm ⟨[(0, .ptr 7000000000000 0), (6, .ptr 6 0), (8, .ptr 8 0), (9, .ptr 9 0), (10, .ptr 10 0), (1000000000000000, .ptr 7000000000000 0), (2, .flat (.int .i64 x3)), (37, .flat (.bool x17))], [(7000000000000, .lit [.tip 700102100000000 C.Sgate_Out x1, .mp 700102100000001]), (700102100000000, .tip 11), (700102100000001, .map true true false C.Sgate_Key C.i64 x2), (6, .lit (cd_Sapi_Rule.enc x4)), (8, .lit [.flat (.int .i64 x5), .flat (.int .i64 x6), .flat (.int .i64 x7), .flat (.int .i64 x8)]), (9, .lit [.flat (.bool x9), .flat (.int .u64 x10), .flat (.int .u64 x11), .flat (.int .i64 x12)]), (10, .lit [.flat (.bool x13), .flat (.int .u64 x14), .flat (.int .u64 x15), .flat (.int .i64 x16)])]⟩
noncomputable def gate_Gate_Release.j1000.finK {ρ : Type} (y : (Int × Bool × List Sgate_Out × List (Sgate_Key × Int) × Sapi_Rule × Int × Int × Int × Int × Bool × Int × Int × Int × Bool × Int × Int × Int)) (K : Out U → Option ρ) : Option ρ := match y with | (x3, x17, x1, x2, x4, x5, x6, x7, x8, x9, x10, x11, x12, x13, x14, x15, x16) => K (.norm ⟨[(0, .ptr 7000000000000 0), (6, .ptr 6 0), (8, .ptr 8 0), (9, .ptr 9 0), (10, .ptr 10 0), (1000000000000000, .ptr 7000000000000 0), (2, .flat (.int .i64 x3)), (37, .flat (.bool x17))], [(7000000000000, .lit [.tip 700102100000000 C.Sgate_Out x1, .mp 700102100000001]), (700102100000000, .tip 11), (700102100000001, .map true true false C.Sgate_Key C.i64 x2), (6, .lit (cd_Sapi_Rule.enc x4)), (8, .lit [.flat (.int .i64 x5), .flat (.int .i64 x6), .flat (.int .i64 x7), .flat (.int .i64 x8)]), (9, .lit [.flat (.bool x9), .flat (.int .u64 x10), .flat (.int .u64 x11), .flat (.int .i64 x12)]), (10, .lit [.flat (.bool x13), .flat (.int .u64 x14), .flat (.int .u64 x15), .flat (.int .i64 x16)])]⟩)
theorem gate_Gate_Release.j1000.finK_eq {ρ : Type} (y : (Int × Bool × List Sgate_Out × List (Sgate_Key × Int) × Sapi_Rule × Int × Int × Int × Int × Bool × Int × Int × Int × Bool × Int × Int × Int)) (K : Out U → Option ρ) : gate_Gate_Release.j1000.finK y K = K (gate_Gate_Release.j1000.fin y) := by
  unfold gate_Gate_Release.j1000.finK gate_Gate_Release.j1000.fin
  first | rfl | (split <;> rfl)
noncomputable def gate_Gate_Release.j1000.re : Out U → Option ((Int × Bool × List Sgate_Out × List (Sgate_Key × Int) × Sapi_Rule × Int × Int × Int × Int × Bool × Int × Int × Int × Bool × Int × Int × Int)) | .norm s => ((Cd.ofLit cd_Sapi_Rule s.o 6).bind fun q0 => (match s.get 0, s.get 6, s.get 8, s.get 9, s.get 10, s.get 1000000000000000, s.get 2, s.get 37, lk s.o 7000000000000, lk s.o 8, lk s.o 9, lk s.o 10 with | .ptr 7000000000000 0, .ptr 6 0, .ptr 8 0, .ptr 9 0, .ptr 10 0, .ptr 7000000000000 0, .flat (.int .i64 x3), .flat (.bool x17), some (.lit [u7000000000000_0, u7000000000000_1]), some (.lit [.flat (.int .i64 x5), .flat (.int .i64 x6), .flat (.int .i64 x7), .flat (.int .i64 x8)]), some (.lit [.flat (.bool x9), .flat (.int .u64 x10), .flat (.int .u64 x11), .flat (.int .i64 x12)]), some (.lit [.flat (.bool x13), .flat (.int .u64 x14), .flat (.int .u64 x15), .flat (.int .i64 x16)]) => (tip_Sgate_Out s.o 11 u7000000000000_0).bind fun w7000000000000_0 => ((map_Sgate_Key_i64_t s.o u7000000000000_1).bind fun w7000000000000_1 => (cond (apart [w7000000000000_0.1, w7000000000000_1.1]) (some (x3, x17, w7000000000000_0.2, w7000000000000_1.2, q0, x5, x6, x7, x8, x9, x10, x11, x12, x13, x14, x15, x16)) none)) | _, _, _, _, _, _, _, _, _, _, _, _ => none)) | _ => none
noncomputable def gate_Gate_Release.j1000.J : JDen U := { Y := (Int × Bool × List Sgate_Out × List (Sgate_Key × Int) × Sapi_Rule × Int × Int × Int × Int × Bool × Int × Int × Int × Bool × Int × Int × Int), re := gate_Gate_Release.j1000.re, fin := gate_Gate_Release.j1000.fin, finK := gate_Gate_Release.j1000.finK, finK_eq := gate_Gate_Release.j1000.finK_eq }
theorem gate_Gate_Release.j1000.fit (o : Out U) (y : (Int × Bool × List Sgate_Out × List (Sgate_Key × Int) × Sapi_Rule × Int × Int × Int × Int × Bool × Int × Int × Int × Bool × Int × Int × Int)) (h : gate_Gate_Release.j1000.re o = some y) : FitsO o (gate_Gate_Release.j1000.fin y) := by
  unfold gate_Gate_Release.j1000.re at h
  split at h
  · obtain ⟨q0, eq0, h1⟩ := Option.bind_eq_some_iff.1 h
    split at h1
    · obtain ⟨w7000000000000_0, ew7000000000000_0, h2⟩ := Option.bind_eq_some_iff.1 h1
      obtain ⟨w7000000000000_1, ew7000000000000_1, h3⟩ := Option.bind_eq_some_iff.1 h2
      obtain ⟨hap, h4⟩ := cond_none h3
      cases h4
      refine fitsO_norm (fits_ren [(700102100000000, w7000000000000_0.1), (700102100000001, w7000000000000_1.1)] ?_ ?_ (ren_apart hap) rfl)
      · exact List.forall_mem_cons.2 ⟨FV.one (FV.ptr (by assumption)), List.forall_mem_cons.2 ⟨FV.one (FV.ptr (by assumption)), List.forall_mem_cons.2 ⟨FV.one (FV.ptr (by assumption)), List.forall_mem_cons.2 ⟨FV.one (FV.ptr (by assumption)), List.forall_mem_cons.2 ⟨FV.one (FV.ptr (by assumption)), List.forall_mem_cons.2 ⟨FV.one (FV.ptr (by assumption)), List.forall_mem_cons.2 ⟨FV.one (FV.same (by assumption) rfl), List.forall_mem_cons.2 ⟨FV.one (FV.same (by assumption) rfl), fun _ hp => (List.not_mem_nil hp).elim⟩⟩⟩⟩⟩⟩⟩⟩
      · exact List.forall_mem_cons.2 ⟨(FO.cells (show lk (St.o _) 7000000000000 = some _ from by assumption) (FCs.cons ((tip_Sgate_Out_fit ew7000000000000_0 rfl).1) (FCs.cons ((map_Sgate_Key_i64_t_fit ew7000000000000_1 rfl).1) (FCs.nil)))), List.forall_mem_cons.2 ⟨(tip_Sgate_Out_fit ew7000000000000_0 rfl).2, List.forall_mem_cons.2 ⟨(map_Sgate_Key_i64_t_fit ew7000000000000_1 rfl).2, List.forall_mem_cons.2 ⟨(FO.same (Cd.ofLit_ok eq0) rfl), List.forall_mem_cons.2 ⟨(FO.same (show lk (St.o _) 8 = some _ from by assumption) rfl), List.forall_mem_cons.2 ⟨(FO.same (show lk (St.o _) 9 = some _ from by assumption) rfl), List.forall_mem_cons.2 ⟨(FO.same (show lk (St.o _) 10 = some _ from by assumption) rfl), fun _ hp => (List.not_mem_nil hp).elim⟩⟩⟩⟩⟩⟩⟩
    · cases h1
  · cases h
noncomputable def gate_Gate_Release.jl : List (Nat × JDen U) := [(1000, gate_Gate_Release.j1000.J)]
noncomputable def gate_Gate_Release.fl (k : Nat) : List (Nat × FDen U) := [(61, quant_Unit.D k)]
noncomputable def gate_Gate_Release.ll (k : Nat) : List (Nat × LDen U) := []
noncomputable def gate_Gate_Release.E (k : Nat) : Env U := { P := Try.prog, D := DD, fd := lk (gate_Gate_Release.fl k), ld := lk (gate_Gate_Release.ll k), jd := lk gate_Gate_Release.jl, mode := lk [], elc := lk ec, mpc := lk mc, rts := Try.f18.resultTypes.toList, dyn := fun t => false, vecs := fun d => false, results := Try.f18.results.toList, gh := [0], own := false, io := fun g i => false }
theorem gate_Gate_Release.ok (k : Nat) : EnvOk (gate_Gate_Release.E k) := envOk lawful (gate_Gate_Release.fl k) (gate_Gate_Release.ll k) gate_Gate_Release.jl _ _ _ _ _ _ _ _ _ _ (by
  intro p hp
  simp only [gate_Gate_Release.fl, List.mem_cons, List.not_mem_nil, or_false] at hp
  rcases hp with rfl
  · exact ⟨quant_Unit.sound k, enter_of Try.func61 (by kernel_rfl) (by kernel_rfl)⟩) (by
  intro p hp
  simp only [gate_Gate_Release.jl, List.mem_cons, List.not_mem_nil, or_false] at hp
  rcases hp with rfl
  · exact gate_Gate_Release.j1000.fit)
theorem gate_Gate_Release.eq (k : Nat) (x : (Sgate_Gate × Sapi_Rule × Int × Sgate_Key × Sapi_Dec)) : runF (gate_Gate_Release.E k) (codeOf Try.f18) (gate_Gate_Release.mk x) gate_Gate_Release.re = (gate_Gate_Release.D k).f x := by kernel_rfl
theorem gate_Gate_Release.fit (s : St U) (x : (Sgate_Gate × Sapi_Rule × Int × Sgate_Key × Sapi_Dec)) (h : gate_Gate_Release.un s = some x) : Fits s (gate_Gate_Release.mk x) := by
  unfold gate_Gate_Release.un at h
  split at h
  · obtain ⟨ex1, hex1, hh1⟩ := Option.bind_eq_some_iff.1 h
    obtain ⟨ex2, hex2, hh2⟩ := Option.bind_eq_some_iff.1 hh1
    obtain ⟨x6, hx6, hh3⟩ := Option.bind_eq_some_iff.1 hh2
    have hc3 := Cd.full_ok hx6
    clear hx6
    subst hc3
    obtain ⟨hap, hh0⟩ := cond_none hh3
    cases hh0
    refine fits_ren [(7000000000001, ex1.1), (7000000000002, ex2.1)] ?_ ?_ (ren_apart hap) rfl
    · exact List.forall_mem_cons.2 ⟨FV.one (FV.ptr (by assumption)), List.forall_mem_cons.2 ⟨FV.one (FV.same (by assumption) rfl), List.forall_mem_cons.2 ⟨FV.one (FV.same (by assumption) rfl), List.forall_mem_cons.2 ⟨FV.one (FV.same (by assumption) rfl), List.forall_mem_cons.2 ⟨FV.one (FV.same (by assumption) rfl), List.forall_mem_cons.2 ⟨FV.one (FV.ptr (by assumption)), fun _ hp => (List.not_mem_nil hp).elim⟩⟩⟩⟩⟩⟩
    · exact List.forall_mem_cons.2 ⟨FO.cells (show lk (St.o _) 7000000000000 = some _ from by assumption) (FCs.cons ((tip_Sgate_Out_fit hex1 rfl).1) (FCs.cons ((map_Sgate_Key_i64_t_fit hex2 rfl).1) (FCs.nil))), List.forall_mem_cons.2 ⟨(tip_Sgate_Out_fit hex1 rfl).2, List.forall_mem_cons.2 ⟨(map_Sgate_Key_i64_t_fit hex2 rfl).2, fun _ hp => (List.not_mem_nil hp).elim⟩⟩⟩
  · cases h
theorem gate_Gate_Release.fitR (s : St U) (y : (Sapi_Dec × Bool × Int × Sgate_Gate)) (h : gate_Gate_Release.re s = some y) : Fits s (gate_Gate_Release.fin y) := by
  unfold gate_Gate_Release.re at h
  split at h
  · obtain ⟨ex7, hex7, hh1⟩ := Option.bind_eq_some_iff.1 h
    obtain ⟨ex8, hex8, hh2⟩ := Option.bind_eq_some_iff.1 hh1
    obtain ⟨hap, hh0⟩ := cond_none hh2
    cases hh0
    refine fits_ren [(7000000000001, ex7.1), (7000000000002, ex8.1)] ?_ ?_ (ren_apart hap) rfl
    · exact List.forall_mem_cons.2 ⟨FV.tup (by assumption) (FTs.cons (FVA.one (FV.same rfl rfl)) (FTs.cons (FVA.one (FV.same rfl rfl)) (FTs.cons (FVA.one (FV.same rfl rfl)) (FTs.nil)))), List.forall_mem_cons.2 ⟨FV.one (FV.ptr (by assumption)), fun _ hp => (List.not_mem_nil hp).elim⟩⟩
    · exact List.forall_mem_cons.2 ⟨FO.cells (show lk (St.o _) 7000000000000 = some _ from by assumption) (FCs.cons ((tip_Sgate_Out_fit hex7 rfl).1) (FCs.cons ((map_Sgate_Key_i64_t_fit hex8 rfl).1) (FCs.nil))), List.forall_mem_cons.2 ⟨(tip_Sgate_Out_fit hex7 rfl).2, List.forall_mem_cons.2 ⟨(map_Sgate_Key_i64_t_fit hex8 rfl).2, fun _ hp => (List.not_mem_nil hp).elim⟩⟩⟩
  · cases h
theorem gate_Gate_Release.sound (k : Nat) : Sound Try.prog DD 18 (gate_Gate_Release.D k) :=
  fun_sound (E := gate_Gate_Release.E k) (fn := Try.f18) (c := codeOf Try.f18) (gate_Gate_Release.ok k) mixed rfl Try.func18 (by kernel_rfl) (by kernel_rfl) (allL_of (l := []) (by kernel_rfl) allL_nil) (gate_Gate_Release.D k) gate_Gate_Release.mk gate_Gate_Release.re (by kernel_rfl) (by kernel_rfl) gate_Gate_Release.fit gate_Gate_Release.fitR (gate_Gate_Release.eq k)
/-! ### slices.Clone[[]pyx/gate.Out,pyx/gate.Out]: function 63 -/
noncomputable def slices_Clone_gate_Out.f (k : Nat) (a0 : List Sgate_Out) : Option (List Sgate_Out) := cond (okLen (List.length ([] : List Sgate_Out) + List.length a0) 88) (some (([] : List Sgate_Out) ++ a0)) none
noncomputable def slices_Clone_gate_Out.un (s : St U) : Option (List Sgate_Out) := match s.get 0 with | .row C.Sgate_Out x1 => some x1 | _ => none
noncomputable def slices_Clone_gate_Out.mk (x : List Sgate_Out) : St U := ⟨[(0, .row C.Sgate_Out x)], []⟩
noncomputable def slices_Clone_gate_Out.fin (y : List Sgate_Out) : St U := ⟨[(0, .row C.Sgate_Out y)], []⟩
noncomputable def slices_Clone_gate_Out.D (k : Nat) : FDen U := { X := List Sgate_Out, Y := List Sgate_Out, nt := 8, gh := [], un := slices_Clone_gate_Out.un, f := fun x => slices_Clone_gate_Out.f k (x), fin := slices_Clone_gate_Out.fin, cl := true, clo := fun _ _ => rfl }
noncomputable def slices_Clone_gate_Out.re (s : St U) : Option (List Sgate_Out) := match s.get 0 with | .row C.Sgate_Out x1 => some x1 | _ => none
noncomputable def slices_Clone_gate_Out.jl : List (Nat × JDen U) := []
noncomputable def slices_Clone_gate_Out.fl (k : Nat) : List (Nat × FDen U) := []
noncomputable def slices_Clone_gate_Out.ll (k : Nat) : List (Nat × LDen U) := []
noncomputable def slices_Clone_gate_Out.E (k : Nat) : Env U := { P := Try.prog, D := DD, fd := lk (slices_Clone_gate_Out.fl k), ld := lk (slices_Clone_gate_Out.ll k), jd := lk slices_Clone_gate_Out.jl, mode := lk [], elc := lk ec, mpc := lk mc, rts := Try.f63.resultTypes.toList, dyn := fun t => false, vecs := fun d => false, results := Try.f63.results.toList, gh := [], own := false, io := fun g i => false }
theorem slices_Clone_gate_Out.ok (k : Nat) : EnvOk (slices_Clone_gate_Out.E k) := envOk lawful (slices_Clone_gate_Out.fl k) (slices_Clone_gate_Out.ll k) slices_Clone_gate_Out.jl _ _ _ _ _ _ _ _ _ _ (by
  intro p hp
  simp [slices_Clone_gate_Out.fl] at hp) (by
  intro p hp
  simp [slices_Clone_gate_Out.jl] at hp)
theorem slices_Clone_gate_Out.fitR (s : St U) (y : List Sgate_Out) (h : slices_Clone_gate_Out.re s = some y) : Fits s (slices_Clone_gate_Out.fin y) := by
  unfold slices_Clone_gate_Out.re at h
  split at h
  · cases h
    refine fits_ren [] ?_ ?_ ren_nil rfl
    · exact List.forall_mem_cons.2 ⟨FV.one (FV.same (by assumption) rfl), fun _ hp => (List.not_mem_nil hp).elim⟩
    · exact fun _ hp => (List.not_mem_nil hp).elim
  · cases h
noncomputable def slices_Clone_gate_Out.mkn (g : Bool) (x : List Sgate_Out) : St U := ⟨[(0, .nrow g C.Sgate_Out x)], []⟩
theorem slices_Clone_gate_Out.eq (k : Nat) (x : List Sgate_Out) : runF (slices_Clone_gate_Out.E k) (codeOf Try.f63) (slices_Clone_gate_Out.mkn true x) slices_Clone_gate_Out.re = (slices_Clone_gate_Out.D k).f x := by kernel_rfl
theorem slices_Clone_gate_Out.eqN (k : Nat) : runF (slices_Clone_gate_Out.E k) (codeOf Try.f63) (slices_Clone_gate_Out.mkn false []) slices_Clone_gate_Out.re = (slices_Clone_gate_Out.D k).f [] := by kernel_rfl
theorem slices_Clone_gate_Out.sound (k : Nat) : Sound Try.prog DD 63 (slices_Clone_gate_Out.D k) :=
  fun_sound_nil (E := slices_Clone_gate_Out.E k) (fn := Try.f63) (c := codeOf Try.f63) (slices_Clone_gate_Out.ok k) mixed rfl Try.func63 (by kernel_rfl) (by kernel_rfl) (allL_of (l := []) (by kernel_rfl) allL_nil) C.Sgate_Out (slices_Clone_gate_Out.D k) slices_Clone_gate_Out.mkn (fun x => x) slices_Clone_gate_Out.re (by kernel_rfl) (by kernel_rfl)
    (by intro m x h; replace h : slices_Clone_gate_Out.un m = some x := h; unfold slices_Clone_gate_Out.un at h; split at h; · cases h; assumption
        · cases h)
    (fun _ _ => rfl) slices_Clone_gate_Out.fitR (slices_Clone_gate_Out.eq k) (by intro x h; replace h : x = [] := h; subst h; exact slices_Clone_gate_Out.eqN k)
end
end Go.Proofs.Ytlaogfkgkpgofaa
