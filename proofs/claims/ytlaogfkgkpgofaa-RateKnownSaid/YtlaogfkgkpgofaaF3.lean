import Derived.Test.YtlaogfkgkpgofaaF2
/-! Functions, told; their equations with the evaluator; that they are sound. Written by gen.py. -/
namespace Go.Proofs.Ytlaogfkgkpgofaa
open Go Go.Ev
noncomputable section
set_option linter.unusedVariables false
set_option linter.unusedSimpArgs false
set_option maxRecDepth 100000
/-! ### pyx/pyxref1.short: function 139 -/
noncomputable def pyxref1_short.l3.once (k : Nat) (x : (List Int × Int × Int)) : Option ((List Int × Int × Int) ⊕ (Int)) := match x with | (x1, x2, x3) => cond (decide (x3 ≥ 0)) (cond (inb x3 (List.length x1)) (some (.inl (x1, IntKind.wrap .u64 ((IntKind.wrap .u64 (10 * x2)) + (IntKind.wrap .u64 (List.getD x1 (Int.toNat x3) 0))), IntKind.wrap .i64 (x3 - 1)))) none) (some (.inr x2))
noncomputable def pyxref1_short.f (k : Nat) (a0 : List Int) : Option Int := (iter (pyxref1_short.l3.once k) k (a0, 0, IntKind.wrap .i64 ((List.length a0 : Int) - 1))).bind fun y5 => (some y5)
noncomputable def pyxref1_short.un (s : St U) : Option (List Int) := match s.get 0 with | .row C.i64 x1 => some x1 | _ => none
noncomputable def pyxref1_short.mk (x : List Int) : St U := ⟨[(0, .row C.i64 x)], []⟩
noncomputable def pyxref1_short.fin (y : Int) : St U := ⟨[(0, .flat (.int .u64 y))], []⟩
noncomputable def pyxref1_short.D (k : Nat) : FDen U := { X := List Int, Y := Int, nt := 21, gh := [], un := pyxref1_short.un, f := fun x => pyxref1_short.f k (x), fin := pyxref1_short.fin, cl := true, clo := fun _ _ => rfl }
noncomputable def pyxref1_short.re (s : St U) : Option Int := match s.get 0 with | .flat (.int .u64 x1) => some x1 | _ => none
noncomputable def pyxref1_short.l3.mk (x : (List Int × Int × Int)) : St U := match x with | (x1, x2, x3) => ⟨[(0, .row C.i64 x1), (3, .flat (.int .u64 x2)), (4, .flat (.int .i64 x3))], []⟩
noncomputable def pyxref1_short.l3.un (s : St U) : Option (List Int × Int × Int) := (row_i64 (s.get 0)).bind fun q0 => (match s.get 3, s.get 4 with | .flat (.int .u64 x2), .flat (.int .i64 x3) => some (q0, x2, x3) | _, _ => none)
noncomputable def pyxref1_short.l3.fin (y : Int) : Out U := match y with | x4 => .exit 0 ⟨[(3, .flat (.int .u64 x4))], []⟩
noncomputable def pyxref1_short.l3.finK {ρ : Type} (y : Int) (K : Out U → Option ρ) : Option ρ := match y with | x4 => K (.exit 0 ⟨[(3, .flat (.int .u64 x4))], []⟩)
theorem pyxref1_short.l3.finK_eq {ρ : Type} (y : Int) (K : Out U → Option ρ) : pyxref1_short.l3.finK y K = K (pyxref1_short.l3.fin y) := by
  unfold pyxref1_short.l3.finK pyxref1_short.l3.fin
  first | rfl | (split <;> rfl)
noncomputable def pyxref1_short.l3.re : Out U → Option (Int) | .exit 0 s => (match s.get 3 with | .flat (.int .u64 x4) => some x4 | _ => none) | _ => none
noncomputable def pyxref1_short.l3.L (k : Nat) : LDen U := { X := (List Int × Int × Int), Y := Int, un := pyxref1_short.l3.un, f := iter (pyxref1_short.l3.once k) k, fin := pyxref1_short.l3.fin, finK := pyxref1_short.l3.finK, finK_eq := pyxref1_short.l3.finK_eq }
noncomputable def pyxref1_short.jl : List (Nat × JDen U) := []
noncomputable def pyxref1_short.fl (k : Nat) : List (Nat × FDen U) := []
noncomputable def pyxref1_short.ll (k : Nat) : List (Nat × LDen U) := [(3, pyxref1_short.l3.L k)]
noncomputable def pyxref1_short.E (k : Nat) : Env U := { P := Try.prog, D := DD, fd := lk (pyxref1_short.fl k), sf := lk sl0, ld := lk (pyxref1_short.ll k), jd := lk pyxref1_short.jl, mode := lk [], elc := lk ec, mpc := lk mc, rts := Try.f139.resultTypes.toList, dyn := fun t => false, vecs := fun d => false, results := Try.f139.results.toList, gh := [], own := false, io := fun g i => false }
theorem pyxref1_short.ok (k : Nat) : EnvOk (pyxref1_short.E k) := envOk lawful (pyxref1_short.fl k) sl0 (pyxref1_short.ll k) pyxref1_short.jl _ _ _ _ _ _ _ _ _ _ (by
  intro p hp
  simp [pyxref1_short.fl] at hp) sl0_ok (by
  intro p hp
  simp [pyxref1_short.jl] at hp)
theorem pyxref1_short.l3.eq (k : Nat) (x : (List Int × Int × Int)) : evC (pyxref1_short.E k) (loopAt Try.f139 3) (pyxref1_short.l3.mk x) (headK pyxref1_short.l3.un pyxref1_short.l3.re) = pyxref1_short.l3.once k x := by kernel_rfl
theorem pyxref1_short.l3.fit (s : St U) (x : (List Int × Int × Int)) (h : pyxref1_short.l3.un s = some x) : Fits s (pyxref1_short.l3.mk x) := by
  unfold pyxref1_short.l3.un at h
  obtain ⟨q0, eq0, h1⟩ := Option.bind_eq_some_iff.1 h
  split at h1
  · cases h1
    refine fits_ren [] ?_ ?_ ren_nil rfl
    · exact List.forall_mem_cons.2 ⟨FV.one (row_i64_fit eq0), List.forall_mem_cons.2 ⟨FV.one (FV.same (by assumption) rfl), List.forall_mem_cons.2 ⟨FV.one (FV.same (by assumption) rfl), fun _ hp => (List.not_mem_nil hp).elim⟩⟩⟩
    · exact fun _ hp => (List.not_mem_nil hp).elim
  · cases h1
theorem pyxref1_short.l3.fitO (o : Out U) (y : Int) (h : pyxref1_short.l3.re o = some y) : FitsO o (pyxref1_short.l3.fin y) := by
  unfold pyxref1_short.l3.re at h
  split at h
  · split at h
    · cases h
      refine fitsO_exit (fits_ren [] ?_ ?_ ren_nil rfl)
      · exact List.forall_mem_cons.2 ⟨FV.one (FV.same (by assumption) rfl), fun _ hp => (List.not_mem_nil hp).elim⟩
      · exact fun _ hp => (List.not_mem_nil hp).elim
    · cases h
  · cases h
theorem pyxref1_short.l3.sound (k : Nat) : LSound (pyxref1_short.E k) Try.f139.ntmps Try.f139 (loopAt Try.f139 3) (pyxref1_short.l3.L k) :=
  loop_sound (pyxref1_short.ok k) mixed rfl (by kernel_rfl) (allL_of (l := []) (by kernel_rfl) allL_nil) pyxref1_short.l3.un pyxref1_short.l3.mk pyxref1_short.l3.fin pyxref1_short.l3.re (pyxref1_short.l3.once k) k pyxref1_short.l3.fit pyxref1_short.l3.fitO (pyxref1_short.l3.eq k) pyxref1_short.l3.finK pyxref1_short.l3.finK_eq
theorem pyxref1_short.eq (k : Nat) (x : List Int) : runF (pyxref1_short.E k) (codeOf Try.f139) (pyxref1_short.mk x) pyxref1_short.re = (pyxref1_short.D k).f x := by kernel_rfl
theorem pyxref1_short.fit (s : St U) (x : List Int) (h : pyxref1_short.un s = some x) : Fits s (pyxref1_short.mk x) := by
  unfold pyxref1_short.un at h
  split at h
  · cases h
    refine fits_ren [] ?_ ?_ ren_nil rfl
    · exact List.forall_mem_cons.2 ⟨FV.one (FV.same (by assumption) rfl), fun _ hp => (List.not_mem_nil hp).elim⟩
    · exact fun _ hp => (List.not_mem_nil hp).elim
  · cases h
theorem pyxref1_short.fitR (s : St U) (y : Int) (h : pyxref1_short.re s = some y) : Fits s (pyxref1_short.fin y) := by
  unfold pyxref1_short.re at h
  split at h
  · cases h
    refine fits_ren [] ?_ ?_ ren_nil rfl
    · exact List.forall_mem_cons.2 ⟨FV.one (FV.same (by assumption) rfl), fun _ hp => (List.not_mem_nil hp).elim⟩
    · exact fun _ hp => (List.not_mem_nil hp).elim
  · cases h
theorem pyxref1_short.sound (k : Nat) : Sound Try.prog DD 139 (pyxref1_short.D k) :=
  fun_sound (E := pyxref1_short.E k) (fn := Try.f139) (c := codeOf Try.f139) (pyxref1_short.ok k) mixed rfl Try.func139 (by kernel_rfl) (by kernel_rfl) (allL_of (l := [loopAt Try.f139 3]) (by kernel_rfl) (allL_cons (key := 3) (by kernel_rfl) rfl (pyxref1_short.l3.sound k) allL_nil)) (pyxref1_short.D k) pyxref1_short.mk pyxref1_short.re (by kernel_rfl) (by kernel_rfl) pyxref1_short.fit pyxref1_short.fitR (pyxref1_short.eq k)
/-! ### pyx/pyxref1.Words2: function 106 -/
noncomputable def pyxref1_Words2.f (k : Nat) (a0 : List Int) : Option ((Int × Int) × Bool) := (pyxref1_radix.f k).bind fun t1 => ((pyxref1_DivNat.f k a0 t1).bind fun t2 => ((pyxref1_radix.f k).bind fun t3 => ((pyxref1_CmpNat.f k t2.1 t3).bind fun t4 => (cond (decide (t4 ≥ 0)) (some ((0, 0), false)) ((pyxref1_short.f k t2.2).bind fun t5 => ((pyxref1_short.f k t2.1).bind fun t6 => (some ((t5, t6), true))))))))
noncomputable def pyxref1_Words2.un (s : St U) : Option (List Int) := match s.get 0 with | .row C.i64 x1 => some x1 | _ => none
noncomputable def pyxref1_Words2.mk (x : List Int) : St U := ⟨[(0, .row C.i64 x)], []⟩
noncomputable def pyxref1_Words2.fin (y : ((Int × Int) × Bool)) : St U := ⟨[(0, .tup [.agg [.flat (.int .u64 y.1.1), .flat (.int .u64 y.1.2)], .flat (.bool y.2)])], []⟩
noncomputable def pyxref1_Words2.D (k : Nat) : FDen U := { X := List Int, Y := ((Int × Int) × Bool), nt := 22, gh := [], un := pyxref1_Words2.un, f := fun x => pyxref1_Words2.f k (x), fin := pyxref1_Words2.fin, cl := true, clo := fun _ _ => rfl }
noncomputable def pyxref1_Words2.re (s : St U) : Option ((Int × Int) × Bool) := match s.get 0 with | .tup [.agg [.flat (.int .u64 x1), .flat (.int .u64 x2)], .flat (.bool x3)] => some ((x1, x2), x3) | _ => none
noncomputable def pyxref1_Words2.jl : List (Nat × JDen U) := []
noncomputable def pyxref1_Words2.fl (k : Nat) : List (Nat × FDen U) := [(138, pyxref1_radix.D k), (137, pyxref1_DivNat.D k), (118, pyxref1_CmpNat.D k), (139, pyxref1_short.D k)]
noncomputable def pyxref1_Words2.ll (k : Nat) : List (Nat × LDen U) := []
noncomputable def pyxref1_Words2.E (k : Nat) : Env U := { P := Try.prog, D := DD, fd := lk (pyxref1_Words2.fl k), sf := lk sl0, ld := lk (pyxref1_Words2.ll k), jd := lk pyxref1_Words2.jl, mode := lk [], elc := lk ec, mpc := lk mc, rts := Try.f106.resultTypes.toList, dyn := fun t => false, vecs := fun d => false, results := Try.f106.results.toList, gh := [], own := false, io := fun g i => false }
theorem pyxref1_Words2.ok (k : Nat) : EnvOk (pyxref1_Words2.E k) := envOk lawful (pyxref1_Words2.fl k) sl0 (pyxref1_Words2.ll k) pyxref1_Words2.jl _ _ _ _ _ _ _ _ _ _ (by
  intro p hp
  simp only [pyxref1_Words2.fl, List.mem_cons, List.not_mem_nil, or_false] at hp
  rcases hp with rfl | rfl | rfl | rfl
  · exact ⟨pyxref1_radix.sound k, enter_of Try.func138 (by kernel_rfl) (by kernel_rfl)⟩
  · exact ⟨pyxref1_DivNat.sound k, enter_of Try.func137 (by kernel_rfl) (by kernel_rfl)⟩
  · exact ⟨pyxref1_CmpNat.sound k, enter_of Try.func118 (by kernel_rfl) (by kernel_rfl)⟩
  · exact ⟨pyxref1_short.sound k, enter_of Try.func139 (by kernel_rfl) (by kernel_rfl)⟩) sl0_ok (by
  intro p hp
  simp [pyxref1_Words2.jl] at hp)
theorem pyxref1_Words2.eq (k : Nat) (x : List Int) : runF (pyxref1_Words2.E k) (codeOf Try.f106) (pyxref1_Words2.mk x) pyxref1_Words2.re = (pyxref1_Words2.D k).f x := by kernel_rfl
theorem pyxref1_Words2.fit (s : St U) (x : List Int) (h : pyxref1_Words2.un s = some x) : Fits s (pyxref1_Words2.mk x) := by
  unfold pyxref1_Words2.un at h
  split at h
  · cases h
    refine fits_ren [] ?_ ?_ ren_nil rfl
    · exact List.forall_mem_cons.2 ⟨FV.one (FV.same (by assumption) rfl), fun _ hp => (List.not_mem_nil hp).elim⟩
    · exact fun _ hp => (List.not_mem_nil hp).elim
  · cases h
theorem pyxref1_Words2.fitR (s : St U) (y : ((Int × Int) × Bool)) (h : pyxref1_Words2.re s = some y) : Fits s (pyxref1_Words2.fin y) := by
  unfold pyxref1_Words2.re at h
  split at h
  · cases h
    refine fits_ren [] ?_ ?_ ren_nil rfl
    · exact List.forall_mem_cons.2 ⟨FV.tup (by assumption) (FTs.cons (FVA.one (FV.same rfl rfl)) (FTs.cons (FVA.one (FV.same rfl rfl)) (FTs.nil))), fun _ hp => (List.not_mem_nil hp).elim⟩
    · exact fun _ hp => (List.not_mem_nil hp).elim
  · cases h
theorem pyxref1_Words2.sound (k : Nat) : Sound Try.prog DD 106 (pyxref1_Words2.D k) :=
  fun_sound (E := pyxref1_Words2.E k) (fn := Try.f106) (c := codeOf Try.f106) (pyxref1_Words2.ok k) mixed rfl Try.func106 (by kernel_rfl) (by kernel_rfl) (allL_of (l := []) (by kernel_rfl) allL_nil) (pyxref1_Words2.D k) pyxref1_Words2.mk pyxref1_Words2.re (by kernel_rfl) (by kernel_rfl) pyxref1_Words2.fit pyxref1_Words2.fitR (pyxref1_Words2.eq k)
/-! ### pyx/pyxref1.Make: function 58 -/
noncomputable def pyxref1_Make.f (k : Nat) (a0 : Bool) (a1 : List Int) (a2 : Int) : Option (Sapi_Dec × Int) := ((cond (decide ((List.length a1 : Int) > 30)) (some (a0, a1, a2, true, false, 0, 0, 0)) (cond (decide (a2 < 0)) (some (a0, a1, a2, true, false, 0, 0, 0)) (some (a0, a1, a2, decide (a2 > 9), false, 0, 0, 0)))) : Option (Bool × List Int × Int × Bool × Bool × Int × Int × Int)).bind fun y9 => (cond (y9.2.2.2.1) (some ((⟨false, (0, 0), 0⟩ : Sapi_Dec), 3)) ((pyxref1_Words2.f k y9.2.1).bind fun t10 => (cond (y9.1) (some ((⟨decide ((List.length y9.2.1 : Int) > 0), (t10.1.1, t10.1.2), y9.2.2.1⟩ : Sapi_Dec), 0)) (some ((⟨false, (t10.1.1, t10.1.2), y9.2.2.1⟩ : Sapi_Dec), 0)))))
noncomputable def pyxref1_Make.un (s : St U) : Option (Bool × List Int × Int) := match s.get 0, s.get 1, s.get 2 with | .flat (.bool x1), .row C.i64 x2, .flat (.int .i64 x3) => some (x1, x2, x3) | _, _, _ => none
noncomputable def pyxref1_Make.mk (x : (Bool × List Int × Int)) : St U := ⟨[(0, .flat (.bool x.1)), (1, .row C.i64 x.2.1), (2, .flat (.int .i64 x.2.2))], []⟩
noncomputable def pyxref1_Make.fin (y : (Sapi_Dec × Int)) : St U := ⟨[(0, .tup [.agg [.flat (.bool y.1.f_Neg), .flat (.int .u64 y.1.f_C.1), .flat (.int .u64 y.1.f_C.2), .flat (.int .i64 y.1.f_Scale)], .flat (.int .i64 y.2)])], []⟩
noncomputable def pyxref1_Make.D (k : Nat) : FDen U := { X := (Bool × List Int × Int), Y := (Sapi_Dec × Int), nt := 36, gh := [], un := pyxref1_Make.un, f := fun x => pyxref1_Make.f k (x.1) (x.2.1) (x.2.2), fin := pyxref1_Make.fin, cl := true, clo := fun _ _ => rfl }
noncomputable def pyxref1_Make.re (s : St U) : Option (Sapi_Dec × Int) := match s.get 0 with | .tup [.agg [.flat (.bool x1), .flat (.int .u64 x2), .flat (.int .u64 x3), .flat (.int .i64 x4)], .flat (.int .i64 x5)] => some ((⟨x1, (x2, x3), x4⟩ : Sapi_Dec), x5) | _ => none
noncomputable def pyxref1_Make.j1000.fin (y : (Bool × List Int × Int × Bool × Bool × Int × Int × Int)) : Out U := match y with | (x1, x2, x3, x8, x4, x5, x6, x7) => .norm ⟨[(6, .ptr 6 0), (0, .flat (.bool x1)), (1, .row C.i64 x2), (2, .flat (.int .i64 x3)), (20, .flat (.bool x8))], [(6, .lit [.flat (.bool x4), .flat (.int .u64 x5), .flat (.int .u64 x6), .flat (.int .i64 x7)])]⟩
noncomputable def pyxref1_Make.j1000.finK {ρ : Type} (y : (Bool × List Int × Int × Bool × Bool × Int × Int × Int)) (K : Out U → Option ρ) : Option ρ := match y with | (x1, x2, x3, x8, x4, x5, x6, x7) => K (.norm ⟨[(6, .ptr 6 0), (0, .flat (.bool x1)), (1, .row C.i64 x2), (2, .flat (.int .i64 x3)), (20, .flat (.bool x8))], [(6, .lit [.flat (.bool x4), .flat (.int .u64 x5), .flat (.int .u64 x6), .flat (.int .i64 x7)])]⟩)
theorem pyxref1_Make.j1000.finK_eq {ρ : Type} (y : (Bool × List Int × Int × Bool × Bool × Int × Int × Int)) (K : Out U → Option ρ) : pyxref1_Make.j1000.finK y K = K (pyxref1_Make.j1000.fin y) := by
  unfold pyxref1_Make.j1000.finK pyxref1_Make.j1000.fin
  first | rfl | (split <;> rfl)
noncomputable def pyxref1_Make.j1000.re : Out U → Option ((Bool × List Int × Int × Bool × Bool × Int × Int × Int)) | .norm s => ((row_i64 (s.get 1)).bind fun q0 => (match s.get 6, s.get 0, s.get 2, s.get 20, lk s.o 6 with | .ptr 6 0, .flat (.bool x1), .flat (.int .i64 x3), .flat (.bool x8), some (.lit [.flat (.bool x4), .flat (.int .u64 x5), .flat (.int .u64 x6), .flat (.int .i64 x7)]) => some (x1, q0, x3, x8, x4, x5, x6, x7) | _, _, _, _, _ => none)) | _ => none
noncomputable def pyxref1_Make.j1000.J : JDen U := { Y := (Bool × List Int × Int × Bool × Bool × Int × Int × Int), re := pyxref1_Make.j1000.re, fin := pyxref1_Make.j1000.fin, finK := pyxref1_Make.j1000.finK, finK_eq := pyxref1_Make.j1000.finK_eq }
theorem pyxref1_Make.j1000.fit (o : Out U) (y : (Bool × List Int × Int × Bool × Bool × Int × Int × Int)) (h : pyxref1_Make.j1000.re o = some y) : FitsO o (pyxref1_Make.j1000.fin y) := by
  unfold pyxref1_Make.j1000.re at h
  split at h
  · obtain ⟨q0, eq0, h1⟩ := Option.bind_eq_some_iff.1 h
    split at h1
    · cases h1
      refine fitsO_norm (fits_ren [] ?_ ?_ ren_nil rfl)
      · exact List.forall_mem_cons.2 ⟨FV.one (FV.ptr (by assumption)), List.forall_mem_cons.2 ⟨FV.one (FV.same (by assumption) rfl), List.forall_mem_cons.2 ⟨FV.one (row_i64_fit eq0), List.forall_mem_cons.2 ⟨FV.one (FV.same (by assumption) rfl), List.forall_mem_cons.2 ⟨FV.one (FV.same (by assumption) rfl), fun _ hp => (List.not_mem_nil hp).elim⟩⟩⟩⟩⟩
      · exact List.forall_mem_cons.2 ⟨(FO.same (show lk (St.o _) 6 = some _ from by assumption) rfl), fun _ hp => (List.not_mem_nil hp).elim⟩
    · cases h1
  · cases h
noncomputable def pyxref1_Make.jl : List (Nat × JDen U) := [(1000, pyxref1_Make.j1000.J)]
noncomputable def pyxref1_Make.fl (k : Nat) : List (Nat × FDen U) := [(106, pyxref1_Words2.D k)]
noncomputable def pyxref1_Make.ll (k : Nat) : List (Nat × LDen U) := []
noncomputable def pyxref1_Make.E (k : Nat) : Env U := { P := Try.prog, D := DD, fd := lk (pyxref1_Make.fl k), sf := lk sl0, ld := lk (pyxref1_Make.ll k), jd := lk pyxref1_Make.jl, mode := lk [], elc := lk ec, mpc := lk mc, rts := Try.f58.resultTypes.toList, dyn := fun t => false, vecs := fun d => false, results := Try.f58.results.toList, gh := [], own := false, io := fun g i => false }
theorem pyxref1_Make.ok (k : Nat) : EnvOk (pyxref1_Make.E k) := envOk lawful (pyxref1_Make.fl k) sl0 (pyxref1_Make.ll k) pyxref1_Make.jl _ _ _ _ _ _ _ _ _ _ (by
  intro p hp
  simp only [pyxref1_Make.fl, List.mem_cons, List.not_mem_nil, or_false] at hp
  rcases hp with rfl
  · exact ⟨pyxref1_Words2.sound k, enter_of Try.func106 (by kernel_rfl) (by kernel_rfl)⟩) sl0_ok (by
  intro p hp
  simp only [pyxref1_Make.jl, List.mem_cons, List.not_mem_nil, or_false] at hp
  rcases hp with rfl
  · exact pyxref1_Make.j1000.fit)
theorem pyxref1_Make.eq (k : Nat) (x : (Bool × List Int × Int)) : runF (pyxref1_Make.E k) (codeOf Try.f58) (pyxref1_Make.mk x) pyxref1_Make.re = (pyxref1_Make.D k).f x := by kernel_rfl
theorem pyxref1_Make.fit (s : St U) (x : (Bool × List Int × Int)) (h : pyxref1_Make.un s = some x) : Fits s (pyxref1_Make.mk x) := by
  unfold pyxref1_Make.un at h
  split at h
  · cases h
    refine fits_ren [] ?_ ?_ ren_nil rfl
    · exact List.forall_mem_cons.2 ⟨FV.one (FV.same (by assumption) rfl), List.forall_mem_cons.2 ⟨FV.one (FV.same (by assumption) rfl), List.forall_mem_cons.2 ⟨FV.one (FV.same (by assumption) rfl), fun _ hp => (List.not_mem_nil hp).elim⟩⟩⟩
    · exact fun _ hp => (List.not_mem_nil hp).elim
  · cases h
theorem pyxref1_Make.fitR (s : St U) (y : (Sapi_Dec × Int)) (h : pyxref1_Make.re s = some y) : Fits s (pyxref1_Make.fin y) := by
  unfold pyxref1_Make.re at h
  split at h
  · cases h
    refine fits_ren [] ?_ ?_ ren_nil rfl
    · exact List.forall_mem_cons.2 ⟨FV.tup (by assumption) (FTs.cons (FVA.one (FV.same rfl rfl)) (FTs.cons (FVA.one (FV.same rfl rfl)) (FTs.nil))), fun _ hp => (List.not_mem_nil hp).elim⟩
    · exact fun _ hp => (List.not_mem_nil hp).elim
  · cases h
theorem pyxref1_Make.sound (k : Nat) : Sound Try.prog DD 58 (pyxref1_Make.D k) :=
  fun_sound (E := pyxref1_Make.E k) (fn := Try.f58) (c := codeOf Try.f58) (pyxref1_Make.ok k) mixed rfl Try.func58 (by kernel_rfl) (by kernel_rfl) (allL_of (l := []) (by kernel_rfl) allL_nil) (pyxref1_Make.D k) pyxref1_Make.mk pyxref1_Make.re (by kernel_rfl) (by kernel_rfl) pyxref1_Make.fit pyxref1_Make.fitR (pyxref1_Make.eq k)
/-! ### pyx/pyxref1.Of: function 17 -/
noncomputable def pyxref1_Of.f (k : Nat) (a0 : Int) (a1 : Int) : Option Sapi_Dec := ((cond (decide (a0 < 0)) (some (a1, decide (a0 < 0), IntKind.wrap .u64 (0 - (IntKind.wrap .u64 (a0))), false, 0, 0, 0)) (some (a1, decide (a0 < 0), IntKind.wrap .u64 (a0), false, 0, 0, 0))) : Option (Int × Bool × Int × Bool × Int × Int × Int)).bind fun y8 => ((pyxref1_Word.f k y8.2.2.1).bind fun t9 => ((pyxref1_Within.f k y8.1 0 9).bind fun t10 => ((pyxref1_Make.f k y8.2.1 t9 t10).bind fun t11 => (some (⟨t11.1.f_Neg, (t11.1.f_C.1, t11.1.f_C.2), t11.1.f_Scale⟩ : Sapi_Dec)))))
noncomputable def pyxref1_Of.un (s : St U) : Option (Int × Int) := match s.get 0, s.get 1 with | .flat (.int .i64 x1), .flat (.int .i64 x2) => some (x1, x2) | _, _ => none
noncomputable def pyxref1_Of.mk (x : (Int × Int)) : St U := ⟨[(0, .flat (.int .i64 x.1)), (1, .flat (.int .i64 x.2))], []⟩
noncomputable def pyxref1_Of.fin (y : Sapi_Dec) : St U := ⟨[(0, .agg [.flat (.bool y.f_Neg), .flat (.int .u64 y.f_C.1), .flat (.int .u64 y.f_C.2), .flat (.int .i64 y.f_Scale)])], []⟩
noncomputable def pyxref1_Of.D (k : Nat) : FDen U := { X := (Int × Int), Y := Sapi_Dec, nt := 26, gh := [], un := pyxref1_Of.un, f := fun x => pyxref1_Of.f k (x.1) (x.2), fin := pyxref1_Of.fin, cl := true, clo := fun _ _ => rfl }
noncomputable def pyxref1_Of.re (s : St U) : Option Sapi_Dec := match s.get 0 with | .agg [.flat (.bool x1), .flat (.int .u64 x2), .flat (.int .u64 x3), .flat (.int .i64 x4)] => some (⟨x1, (x2, x3), x4⟩ : Sapi_Dec) | _ => none
noncomputable def pyxref1_Of.j4001.fin (y : (Int × Bool × Int × Bool × Int × Int × Int)) : Out U := match y with | (x1, x6, x7, x2, x3, x4, x5) => .norm ⟨[(4, .ptr 4 0), (1, .flat (.int .i64 x1)), (5, .flat (.bool x6)), (6, .flat (.int .u64 x7))], [(4, .lit [.flat (.bool x2), .flat (.int .u64 x3), .flat (.int .u64 x4), .flat (.int .i64 x5)])]⟩
noncomputable def pyxref1_Of.j4001.finK {ρ : Type} (y : (Int × Bool × Int × Bool × Int × Int × Int)) (K : Out U → Option ρ) : Option ρ := match y with | (x1, x6, x7, x2, x3, x4, x5) => K (.norm ⟨[(4, .ptr 4 0), (1, .flat (.int .i64 x1)), (5, .flat (.bool x6)), (6, .flat (.int .u64 x7))], [(4, .lit [.flat (.bool x2), .flat (.int .u64 x3), .flat (.int .u64 x4), .flat (.int .i64 x5)])]⟩)
theorem pyxref1_Of.j4001.finK_eq {ρ : Type} (y : (Int × Bool × Int × Bool × Int × Int × Int)) (K : Out U → Option ρ) : pyxref1_Of.j4001.finK y K = K (pyxref1_Of.j4001.fin y) := by
  unfold pyxref1_Of.j4001.finK pyxref1_Of.j4001.fin
  first | rfl | (split <;> rfl)
noncomputable def pyxref1_Of.j4001.re : Out U → Option ((Int × Bool × Int × Bool × Int × Int × Int)) | .norm s => (match s.get 4, s.get 1, s.get 5, s.get 6, lk s.o 4 with | .ptr 4 0, .flat (.int .i64 x1), .flat (.bool x6), .flat (.int .u64 x7), some (.lit [.flat (.bool x2), .flat (.int .u64 x3), .flat (.int .u64 x4), .flat (.int .i64 x5)]) => some (x1, x6, x7, x2, x3, x4, x5) | _, _, _, _, _ => none) | _ => none
noncomputable def pyxref1_Of.j4001.J : JDen U := { Y := (Int × Bool × Int × Bool × Int × Int × Int), re := pyxref1_Of.j4001.re, fin := pyxref1_Of.j4001.fin, finK := pyxref1_Of.j4001.finK, finK_eq := pyxref1_Of.j4001.finK_eq }
theorem pyxref1_Of.j4001.fit (o : Out U) (y : (Int × Bool × Int × Bool × Int × Int × Int)) (h : pyxref1_Of.j4001.re o = some y) : FitsO o (pyxref1_Of.j4001.fin y) := by
  unfold pyxref1_Of.j4001.re at h
  split at h
  · split at h
    · cases h
      refine fitsO_norm (fits_ren [] ?_ ?_ ren_nil rfl)
      · exact List.forall_mem_cons.2 ⟨FV.one (FV.ptr (by assumption)), List.forall_mem_cons.2 ⟨FV.one (FV.same (by assumption) rfl), List.forall_mem_cons.2 ⟨FV.one (FV.same (by assumption) rfl), List.forall_mem_cons.2 ⟨FV.one (FV.same (by assumption) rfl), fun _ hp => (List.not_mem_nil hp).elim⟩⟩⟩⟩
      · exact List.forall_mem_cons.2 ⟨(FO.same (show lk (St.o _) 4 = some _ from by assumption) rfl), fun _ hp => (List.not_mem_nil hp).elim⟩
    · cases h
  · cases h
noncomputable def pyxref1_Of.jl : List (Nat × JDen U) := [(4001, pyxref1_Of.j4001.J)]
noncomputable def pyxref1_Of.fl (k : Nat) : List (Nat × FDen U) := [(59, pyxref1_Word.D k), (60, pyxref1_Within.D k), (58, pyxref1_Make.D k)]
noncomputable def pyxref1_Of.ll (k : Nat) : List (Nat × LDen U) := []
noncomputable def pyxref1_Of.E (k : Nat) : Env U := { P := Try.prog, D := DD, fd := lk (pyxref1_Of.fl k), sf := lk sl0, ld := lk (pyxref1_Of.ll k), jd := lk pyxref1_Of.jl, mode := lk [], elc := lk ec, mpc := lk mc, rts := Try.f17.resultTypes.toList, dyn := fun t => false, vecs := fun d => false, results := Try.f17.results.toList, gh := [], own := false, io := fun g i => false }
theorem pyxref1_Of.ok (k : Nat) : EnvOk (pyxref1_Of.E k) := envOk lawful (pyxref1_Of.fl k) sl0 (pyxref1_Of.ll k) pyxref1_Of.jl _ _ _ _ _ _ _ _ _ _ (by
  intro p hp
  simp only [pyxref1_Of.fl, List.mem_cons, List.not_mem_nil, or_false] at hp
  rcases hp with rfl | rfl | rfl
  · exact ⟨pyxref1_Word.sound k, enter_of Try.func59 (by kernel_rfl) (by kernel_rfl)⟩
  · exact ⟨pyxref1_Within.sound k, enter_of Try.func60 (by kernel_rfl) (by kernel_rfl)⟩
  · exact ⟨pyxref1_Make.sound k, enter_of Try.func58 (by kernel_rfl) (by kernel_rfl)⟩) sl0_ok (by
  intro p hp
  simp only [pyxref1_Of.jl, List.mem_cons, List.not_mem_nil, or_false] at hp
  rcases hp with rfl
  · exact pyxref1_Of.j4001.fit)
theorem pyxref1_Of.eq (k : Nat) (x : (Int × Int)) : runF (pyxref1_Of.E k) (codeOf Try.f17) (pyxref1_Of.mk x) pyxref1_Of.re = (pyxref1_Of.D k).f x := by kernel_rfl
theorem pyxref1_Of.fit (s : St U) (x : (Int × Int)) (h : pyxref1_Of.un s = some x) : Fits s (pyxref1_Of.mk x) := by
  unfold pyxref1_Of.un at h
  split at h
  · cases h
    refine fits_ren [] ?_ ?_ ren_nil rfl
    · exact List.forall_mem_cons.2 ⟨FV.one (FV.same (by assumption) rfl), List.forall_mem_cons.2 ⟨FV.one (FV.same (by assumption) rfl), fun _ hp => (List.not_mem_nil hp).elim⟩⟩
    · exact fun _ hp => (List.not_mem_nil hp).elim
  · cases h
theorem pyxref1_Of.fitR (s : St U) (y : Sapi_Dec) (h : pyxref1_Of.re s = some y) : Fits s (pyxref1_Of.fin y) := by
  unfold pyxref1_Of.re at h
  split at h
  · cases h
    refine fits_ren [] ?_ ?_ ren_nil rfl
    · exact List.forall_mem_cons.2 ⟨FV.one (FV.same (by assumption) rfl), fun _ hp => (List.not_mem_nil hp).elim⟩
    · exact fun _ hp => (List.not_mem_nil hp).elim
  · cases h
theorem pyxref1_Of.sound (k : Nat) : Sound Try.prog DD 17 (pyxref1_Of.D k) :=
  fun_sound (E := pyxref1_Of.E k) (fn := Try.f17) (c := codeOf Try.f17) (pyxref1_Of.ok k) mixed rfl Try.func17 (by kernel_rfl) (by kernel_rfl) (allL_of (l := []) (by kernel_rfl) allL_nil) (pyxref1_Of.D k) pyxref1_Of.mk pyxref1_Of.re (by kernel_rfl) (by kernel_rfl) pyxref1_Of.fit pyxref1_Of.fitR (pyxref1_Of.eq k)
/-! ### pyx/dec.Of: function 96 -/
noncomputable def dec_Of.f (k : Nat) (a0 : Int) (a1 : Int) : Option Sapi_Dec := ((cond (decide (a0 < 0)) (some (a0, a1, IntKind.wrap .u64 (0 - (IntKind.wrap .u64 (a0))), false, 0, 0, 0)) (some (a0, a1, IntKind.wrap .u64 (a0), false, 0, 0, 0))) : Option (Int × Int × Int × Bool × Int × Int × Int)).bind fun y8 => ((limb_Of.f k y8.2.2.1).bind fun t9 => (some (⟨decide (y8.1 < 0), (t9.1, t9.2), (if (if 9 < y8.2.1 then 9 else y8.2.1) > 0 then (if 9 < y8.2.1 then 9 else y8.2.1) else 0)⟩ : Sapi_Dec)))
noncomputable def dec_Of.un (s : St U) : Option (Int × Int) := match s.get 0, s.get 1 with | .flat (.int .i64 x1), .flat (.int .i64 x2) => some (x1, x2) | _, _ => none
noncomputable def dec_Of.mk (x : (Int × Int)) : St U := ⟨[(0, .flat (.int .i64 x.1)), (1, .flat (.int .i64 x.2))], []⟩
noncomputable def dec_Of.fin (y : Sapi_Dec) : St U := ⟨[(0, .agg [.flat (.bool y.f_Neg), .flat (.int .u64 y.f_C.1), .flat (.int .u64 y.f_C.2), .flat (.int .i64 y.f_Scale)])], []⟩
noncomputable def dec_Of.D (k : Nat) : FDen U := { X := (Int × Int), Y := Sapi_Dec, nt := 20, gh := [], un := dec_Of.un, f := fun x => dec_Of.f k (x.1) (x.2), fin := dec_Of.fin, cl := true, clo := fun _ _ => rfl }
noncomputable def dec_Of.re (s : St U) : Option Sapi_Dec := match s.get 0 with | .agg [.flat (.bool x1), .flat (.int .u64 x2), .flat (.int .u64 x3), .flat (.int .i64 x4)] => some (⟨x1, (x2, x3), x4⟩ : Sapi_Dec) | _ => none
noncomputable def dec_Of.j3001.fin (y : (Int × Int × Int × Bool × Int × Int × Int)) : Out U := match y with | (x1, x2, x7, x3, x4, x5, x6) => .norm ⟨[(4, .ptr 4 0), (0, .flat (.int .i64 x1)), (1, .flat (.int .i64 x2)), (5, .flat (.int .u64 x7))], [(4, .lit [.flat (.bool x3), .flat (.int .u64 x4), .flat (.int .u64 x5), .flat (.int .i64 x6)])]⟩
noncomputable def dec_Of.j3001.finK {ρ : Type} (y : (Int × Int × Int × Bool × Int × Int × Int)) (K : Out U → Option ρ) : Option ρ := match y with | (x1, x2, x7, x3, x4, x5, x6) => K (.norm ⟨[(4, .ptr 4 0), (0, .flat (.int .i64 x1)), (1, .flat (.int .i64 x2)), (5, .flat (.int .u64 x7))], [(4, .lit [.flat (.bool x3), .flat (.int .u64 x4), .flat (.int .u64 x5), .flat (.int .i64 x6)])]⟩)
theorem dec_Of.j3001.finK_eq {ρ : Type} (y : (Int × Int × Int × Bool × Int × Int × Int)) (K : Out U → Option ρ) : dec_Of.j3001.finK y K = K (dec_Of.j3001.fin y) := by
  unfold dec_Of.j3001.finK dec_Of.j3001.fin
  first | rfl | (split <;> rfl)
noncomputable def dec_Of.j3001.re : Out U → Option ((Int × Int × Int × Bool × Int × Int × Int)) | .norm s => (match s.get 4, s.get 0, s.get 1, s.get 5, lk s.o 4 with | .ptr 4 0, .flat (.int .i64 x1), .flat (.int .i64 x2), .flat (.int .u64 x7), some (.lit [.flat (.bool x3), .flat (.int .u64 x4), .flat (.int .u64 x5), .flat (.int .i64 x6)]) => some (x1, x2, x7, x3, x4, x5, x6) | _, _, _, _, _ => none) | _ => none
noncomputable def dec_Of.j3001.J : JDen U := { Y := (Int × Int × Int × Bool × Int × Int × Int), re := dec_Of.j3001.re, fin := dec_Of.j3001.fin, finK := dec_Of.j3001.finK, finK_eq := dec_Of.j3001.finK_eq }
theorem dec_Of.j3001.fit (o : Out U) (y : (Int × Int × Int × Bool × Int × Int × Int)) (h : dec_Of.j3001.re o = some y) : FitsO o (dec_Of.j3001.fin y) := by
  unfold dec_Of.j3001.re at h
  split at h
  · split at h
    · cases h
      refine fitsO_norm (fits_ren [] ?_ ?_ ren_nil rfl)
      · exact List.forall_mem_cons.2 ⟨FV.one (FV.ptr (by assumption)), List.forall_mem_cons.2 ⟨FV.one (FV.same (by assumption) rfl), List.forall_mem_cons.2 ⟨FV.one (FV.same (by assumption) rfl), List.forall_mem_cons.2 ⟨FV.one (FV.same (by assumption) rfl), fun _ hp => (List.not_mem_nil hp).elim⟩⟩⟩⟩
      · exact List.forall_mem_cons.2 ⟨(FO.same (show lk (St.o _) 4 = some _ from by assumption) rfl), fun _ hp => (List.not_mem_nil hp).elim⟩
    · cases h
  · cases h
noncomputable def dec_Of.jl : List (Nat × JDen U) := [(3001, dec_Of.j3001.J)]
noncomputable def dec_Of.fl (k : Nat) : List (Nat × FDen U) := [(129, limb_Of.D k)]
noncomputable def dec_Of.ll (k : Nat) : List (Nat × LDen U) := []
noncomputable def dec_Of.E (k : Nat) : Env U := { P := Try.prog, D := DD, fd := lk (dec_Of.fl k), sf := lk sl0, ld := lk (dec_Of.ll k), jd := lk dec_Of.jl, mode := lk [], elc := lk ec, mpc := lk mc, rts := Try.f96.resultTypes.toList, dyn := fun t => false, vecs := fun d => false, results := Try.f96.results.toList, gh := [], own := false, io := fun g i => false }
theorem dec_Of.ok (k : Nat) : EnvOk (dec_Of.E k) := envOk lawful (dec_Of.fl k) sl0 (dec_Of.ll k) dec_Of.jl _ _ _ _ _ _ _ _ _ _ (by
  intro p hp
  simp only [dec_Of.fl, List.mem_cons, List.not_mem_nil, or_false] at hp
  rcases hp with rfl
  · exact ⟨limb_Of.sound k, enter_of Try.func129 (by kernel_rfl) (by kernel_rfl)⟩) sl0_ok (by
  intro p hp
  simp only [dec_Of.jl, List.mem_cons, List.not_mem_nil, or_false] at hp
  rcases hp with rfl
  · exact dec_Of.j3001.fit)
theorem dec_Of.eq (k : Nat) (x : (Int × Int)) : runF (dec_Of.E k) (codeOf Try.f96) (dec_Of.mk x) dec_Of.re = (dec_Of.D k).f x := by kernel_rfl
theorem dec_Of.fit (s : St U) (x : (Int × Int)) (h : dec_Of.un s = some x) : Fits s (dec_Of.mk x) := by
  unfold dec_Of.un at h
  split at h
  · cases h
    refine fits_ren [] ?_ ?_ ren_nil rfl
    · exact List.forall_mem_cons.2 ⟨FV.one (FV.same (by assumption) rfl), List.forall_mem_cons.2 ⟨FV.one (FV.same (by assumption) rfl), fun _ hp => (List.not_mem_nil hp).elim⟩⟩
    · exact fun _ hp => (List.not_mem_nil hp).elim
  · cases h
theorem dec_Of.fitR (s : St U) (y : Sapi_Dec) (h : dec_Of.re s = some y) : Fits s (dec_Of.fin y) := by
  unfold dec_Of.re at h
  split at h
  · cases h
    refine fits_ren [] ?_ ?_ ren_nil rfl
    · exact List.forall_mem_cons.2 ⟨FV.one (FV.same (by assumption) rfl), fun _ hp => (List.not_mem_nil hp).elim⟩
    · exact fun _ hp => (List.not_mem_nil hp).elim
  · cases h
theorem dec_Of.sound (k : Nat) : Sound Try.prog DD 96 (dec_Of.D k) :=
  fun_sound (E := dec_Of.E k) (fn := Try.f96) (c := codeOf Try.f96) (dec_Of.ok k) mixed rfl Try.func96 (by kernel_rfl) (by kernel_rfl) (allL_of (l := []) (by kernel_rfl) allL_nil) (dec_Of.D k) dec_Of.mk dec_Of.re (by kernel_rfl) (by kernel_rfl) dec_Of.fit dec_Of.fitR (dec_Of.eq k)
/-! ### (*pyx/rate.Table).Set: function 53 -/
noncomputable def rate_Table_Set.f (k : Nat) (a0 : Srate_Table) (a1 : Srate_Key) (a2 : Sapi_Dec) : Option (Int × Srate_Table) := ((cond (decide (a1.f_Period ≥ 0)) (cond (decide (a1.f_Period < 12)) (cond (decide (a1.f_Kind ≥ 0)) (some (decide (a1.f_Kind < 3), a0.f_l, a1.f_Period, a1.f_Kind, a2.f_Neg, a2.f_C.1, a2.f_C.2, a2.f_Scale)) (some (false, a0.f_l, a1.f_Period, a1.f_Kind, a2.f_Neg, a2.f_C.1, a2.f_C.2, a2.f_Scale))) (some (false, a0.f_l, a1.f_Period, a1.f_Kind, a2.f_Neg, a2.f_C.1, a2.f_C.2, a2.f_Scale))) (some (false, a0.f_l, a1.f_Period, a1.f_Kind, a2.f_Neg, a2.f_C.1, a2.f_C.2, a2.f_Scale))) : Option (Bool × List (Srate_Key × Sapi_Dec) × Int × Int × Bool × Int × Int × Int)).bind fun y9 => (((cond (!y9.1) (some (true, y9.2.1, y9.2.2.1, y9.2.2.2.1, y9.2.2.2.2.1, y9.2.2.2.2.2.1, y9.2.2.2.2.2.2.1, y9.2.2.2.2.2.2.2)) ((dec_Sign.f k (⟨y9.2.2.2.2.1, (y9.2.2.2.2.2.1, y9.2.2.2.2.2.2.1), y9.2.2.2.2.2.2.2⟩ : Sapi_Dec)).bind fun t18 => (cond (decide (t18 ≤ 0)) (some (true, y9.2.1, y9.2.2.1, y9.2.2.2.1, y9.2.2.2.2.1, y9.2.2.2.2.2.1, y9.2.2.2.2.2.2.1, y9.2.2.2.2.2.2.2)) (cond (decide (y9.2.2.2.2.2.2.2 > 6)) (some (true, y9.2.1, y9.2.2.1, y9.2.2.2.1, y9.2.2.2.2.1, y9.2.2.2.2.2.1, y9.2.2.2.2.2.2.1, y9.2.2.2.2.2.2.2)) ((dec_Of.f k 1000000 0).bind fun t19 => ((dec_Cmp.f k (⟨y9.2.2.2.2.1, (y9.2.2.2.2.2.1, y9.2.2.2.2.2.2.1), y9.2.2.2.2.2.2.2⟩ : Sapi_Dec) (⟨t19.f_Neg, (t19.f_C.1, t19.f_C.2), t19.f_Scale⟩ : Sapi_Dec)).bind fun t20 => (some (decide (t20 ≥ 0), y9.2.1, y9.2.2.1, y9.2.2.2.1, y9.2.2.2.2.1, y9.2.2.2.2.2.1, y9.2.2.2.2.2.2.1, y9.2.2.2.2.2.2.2)))))))) : Option (Bool × List (Srate_Key × Sapi_Dec) × Int × Int × Bool × Int × Int × Int)).bind fun y21 => (cond (y21.1) (some (1, (⟨y21.2.1⟩ : Srate_Table))) (some (0, (⟨mput (keq_Srate_Key (⟨y21.2.2.1, y21.2.2.2.1⟩ : Srate_Key)) (⟨y21.2.2.1, y21.2.2.2.1⟩ : Srate_Key) (⟨y21.2.2.2.2.1, (y21.2.2.2.2.2.1, y21.2.2.2.2.2.2.1), y21.2.2.2.2.2.2.2⟩ : Sapi_Dec) y21.2.1⟩ : Srate_Table)))))
noncomputable def rate_Table_Set.un (s : St U) : Option (Srate_Table × Srate_Key × Sapi_Dec) := match s.get 0, lk s.o 7000000000000, s.get 1, s.get 2, s.get 1000000000000000 with | .ptr 7000000000000 0, some (.lit [x2]), .agg [.flat (.int .i64 x3), .flat (.int .i64 x4)], .agg [.flat (.bool x5), .flat (.int .u64 x6), .flat (.int .u64 x7), .flat (.int .i64 x8)], .ptr 7000000000000 0 => (map_Srate_Key_Sapi_Dec_t s.o x2).bind fun ex1 => (some ((⟨ex1.2⟩ : Srate_Table), (⟨x3, x4⟩ : Srate_Key), (⟨x5, (x6, x7), x8⟩ : Sapi_Dec))) | _, _, _, _, _ => none
noncomputable def rate_Table_Set.mk (x : (Srate_Table × Srate_Key × Sapi_Dec)) : St U := ⟨[(0, .ptr 7000000000000 0), (1, .agg [.flat (.int .i64 x.2.1.f_Period), .flat (.int .i64 x.2.1.f_Kind)]), (2, .agg [.flat (.bool x.2.2.f_Neg), .flat (.int .u64 x.2.2.f_C.1), .flat (.int .u64 x.2.2.f_C.2), .flat (.int .i64 x.2.2.f_Scale)]), (1000000000000000, .ptr 7000000000000 0)], [(7000000000000, .lit [.mp 7000000000001]), (7000000000001, .map true true true C.Srate_Key C.Sapi_Dec x.1.f_l)]⟩
noncomputable def rate_Table_Set.fin (y : (Int × Srate_Table)) : St U := ⟨[(0, .flat (.int .i64 y.1)), (1000000000000000, .ptr 7000000000000 0)], [(7000000000000, .lit [.mp 7000000000001]), (7000000000001, .map true true true C.Srate_Key C.Sapi_Dec y.2.f_l)]⟩
noncomputable def rate_Table_Set.D (k : Nat) : FDen U := { X := (Srate_Table × Srate_Key × Sapi_Dec), Y := (Int × Srate_Table), nt := 54, gh := [0], un := rate_Table_Set.un, f := fun x => rate_Table_Set.f k (x.1) (x.2.1) (x.2.2), fin := rate_Table_Set.fin, cl := false, clo := fun h => by cases h }
noncomputable def rate_Table_Set.re (s : St U) : Option (Int × Srate_Table) := match s.get 0, s.get 1000000000000000, lk s.o 7000000000000 with | .flat (.int .i64 x1), .ptr 7000000000000 0, some (.lit [x3]) => (map_Srate_Key_Sapi_Dec_t s.o x3).bind fun ex2 => (some (x1, (⟨ex2.2⟩ : Srate_Table))) | _, _, _ => none
noncomputable def rate_Table_Set.j1000.fin (y : (Bool × List (Srate_Key × Sapi_Dec) × Int × Int × Bool × Int × Int × Int)) : Out U := match y with | (x8, x1, x2, x3, x4, x5, x6, x7) => .norm ⟨[(0, .ptr 7000000000000 0), (4, .ptr 4 0), (5, .ptr 5 0), (1000000000000000, .ptr 7000000000000 0), (7, .flat (.bool x8))], [(7000000000000, .lit [.mp 700102100000000]), (700102100000000, .map true true true C.Srate_Key C.Sapi_Dec x1), (4, .lit [.flat (.int .i64 x2), .flat (.int .i64 x3)]), (5, .lit [.flat (.bool x4), .flat (.int .u64 x5), .flat (.int .u64 x6), .flat (.int .i64 x7)])]⟩
noncomputable def rate_Table_Set.j1000.finK {ρ : Type} (y : (Bool × List (Srate_Key × Sapi_Dec) × Int × Int × Bool × Int × Int × Int)) (K : Out U → Option ρ) : Option ρ := match y with | (x8, x1, x2, x3, x4, x5, x6, x7) => K (.norm ⟨[(0, .ptr 7000000000000 0), (4, .ptr 4 0), (5, .ptr 5 0), (1000000000000000, .ptr 7000000000000 0), (7, .flat (.bool x8))], [(7000000000000, .lit [.mp 700102100000000]), (700102100000000, .map true true true C.Srate_Key C.Sapi_Dec x1), (4, .lit [.flat (.int .i64 x2), .flat (.int .i64 x3)]), (5, .lit [.flat (.bool x4), .flat (.int .u64 x5), .flat (.int .u64 x6), .flat (.int .i64 x7)])]⟩)
theorem rate_Table_Set.j1000.finK_eq {ρ : Type} (y : (Bool × List (Srate_Key × Sapi_Dec) × Int × Int × Bool × Int × Int × Int)) (K : Out U → Option ρ) : rate_Table_Set.j1000.finK y K = K (rate_Table_Set.j1000.fin y) := by
  unfold rate_Table_Set.j1000.finK rate_Table_Set.j1000.fin
  first | rfl | (split <;> rfl)
noncomputable def rate_Table_Set.j1000.re : Out U → Option ((Bool × List (Srate_Key × Sapi_Dec) × Int × Int × Bool × Int × Int × Int)) | .norm s => (match s.get 0, s.get 4, s.get 5, s.get 1000000000000000, s.get 7, lk s.o 7000000000000, lk s.o 4, lk s.o 5 with | .ptr 7000000000000 0, .ptr 4 0, .ptr 5 0, .ptr 7000000000000 0, .flat (.bool x8), some (.lit [u7000000000000_0]), some (.lit [.flat (.int .i64 x2), .flat (.int .i64 x3)]), some (.lit [.flat (.bool x4), .flat (.int .u64 x5), .flat (.int .u64 x6), .flat (.int .i64 x7)]) => (map_Srate_Key_Sapi_Dec_t s.o u7000000000000_0).bind fun w7000000000000_0 => (some (x8, w7000000000000_0.2, x2, x3, x4, x5, x6, x7)) | _, _, _, _, _, _, _, _ => none) | _ => none
noncomputable def rate_Table_Set.j1000.J : JDen U := { Y := (Bool × List (Srate_Key × Sapi_Dec) × Int × Int × Bool × Int × Int × Int), re := rate_Table_Set.j1000.re, fin := rate_Table_Set.j1000.fin, finK := rate_Table_Set.j1000.finK, finK_eq := rate_Table_Set.j1000.finK_eq }
theorem rate_Table_Set.j1000.fit (o : Out U) (y : (Bool × List (Srate_Key × Sapi_Dec) × Int × Int × Bool × Int × Int × Int)) (h : rate_Table_Set.j1000.re o = some y) : FitsO o (rate_Table_Set.j1000.fin y) := by
  unfold rate_Table_Set.j1000.re at h
  split at h
  · split at h
    · obtain ⟨w7000000000000_0, ew7000000000000_0, h1⟩ := Option.bind_eq_some_iff.1 h
      cases h1
      refine fitsO_norm (fits_ren [(700102100000000, w7000000000000_0.1)] ?_ ?_ ren_one rfl)
      · exact List.forall_mem_cons.2 ⟨FV.one (FV.ptr (by assumption)), List.forall_mem_cons.2 ⟨FV.one (FV.ptr (by assumption)), List.forall_mem_cons.2 ⟨FV.one (FV.ptr (by assumption)), List.forall_mem_cons.2 ⟨FV.one (FV.ptr (by assumption)), List.forall_mem_cons.2 ⟨FV.one (FV.same (by assumption) rfl), fun _ hp => (List.not_mem_nil hp).elim⟩⟩⟩⟩⟩
      · exact List.forall_mem_cons.2 ⟨(FO.cells (show lk (St.o _) 7000000000000 = some _ from by assumption) (FCs.cons ((map_Srate_Key_Sapi_Dec_t_fit ew7000000000000_0 rfl).1) (FCs.nil))), List.forall_mem_cons.2 ⟨(map_Srate_Key_Sapi_Dec_t_fit ew7000000000000_0 rfl).2, List.forall_mem_cons.2 ⟨(FO.same (show lk (St.o _) 4 = some _ from by assumption) rfl), List.forall_mem_cons.2 ⟨(FO.same (show lk (St.o _) 5 = some _ from by assumption) rfl), fun _ hp => (List.not_mem_nil hp).elim⟩⟩⟩⟩
    · cases h
  · cases h
noncomputable def rate_Table_Set.j2000.fin (y : (Bool × List (Srate_Key × Sapi_Dec) × Int × Int × Bool × Int × Int × Int)) : Out U := match y with | (x17, x10, x11, x12, x13, x14, x15, x16) => .norm ⟨[(0, .ptr 7000000000000 0), (4, .ptr 4 0), (5, .ptr 5 0), (1000000000000000, .ptr 7000000000000 0), (47, .flat (.bool x17))], [(7000000000000, .lit [.mp 700102200000000]), (700102200000000, .map true true true C.Srate_Key C.Sapi_Dec x10), (4, .lit [.flat (.int .i64 x11), .flat (.int .i64 x12)]), (5, .lit [.flat (.bool x13), .flat (.int .u64 x14), .flat (.int .u64 x15), .flat (.int .i64 x16)])]⟩
noncomputable def rate_Table_Set.j2000.finK {ρ : Type} (y : (Bool × List (Srate_Key × Sapi_Dec) × Int × Int × Bool × Int × Int × Int)) (K : Out U → Option ρ) : Option ρ := match y with | (x17, x10, x11, x12, x13, x14, x15, x16) => K (.norm ⟨[(0, .ptr 7000000000000 0), (4, .ptr 4 0), (5, .ptr 5 0), (1000000000000000, .ptr 7000000000000 0), (47, .flat (.bool x17))], [(7000000000000, .lit [.mp 700102200000000]), (700102200000000, .map true true true C.Srate_Key C.Sapi_Dec x10), (4, .lit [.flat (.int .i64 x11), .flat (.int .i64 x12)]), (5, .lit [.flat (.bool x13), .flat (.int .u64 x14), .flat (.int .u64 x15), .flat (.int .i64 x16)])]⟩)
theorem rate_Table_Set.j2000.finK_eq {ρ : Type} (y : (Bool × List (Srate_Key × Sapi_Dec) × Int × Int × Bool × Int × Int × Int)) (K : Out U → Option ρ) : rate_Table_Set.j2000.finK y K = K (rate_Table_Set.j2000.fin y) := by
  unfold rate_Table_Set.j2000.finK rate_Table_Set.j2000.fin
  first | rfl | (split <;> rfl)
noncomputable def rate_Table_Set.j2000.re : Out U → Option ((Bool × List (Srate_Key × Sapi_Dec) × Int × Int × Bool × Int × Int × Int)) | .norm s => (match s.get 0, s.get 4, s.get 5, s.get 1000000000000000, s.get 47, lk s.o 7000000000000, lk s.o 4, lk s.o 5 with | .ptr 7000000000000 0, .ptr 4 0, .ptr 5 0, .ptr 7000000000000 0, .flat (.bool x17), some (.lit [u7000000000000_0]), some (.lit [.flat (.int .i64 x11), .flat (.int .i64 x12)]), some (.lit [.flat (.bool x13), .flat (.int .u64 x14), .flat (.int .u64 x15), .flat (.int .i64 x16)]) => (map_Srate_Key_Sapi_Dec_t s.o u7000000000000_0).bind fun w7000000000000_0 => (some (x17, w7000000000000_0.2, x11, x12, x13, x14, x15, x16)) | _, _, _, _, _, _, _, _ => none) | _ => none
noncomputable def rate_Table_Set.j2000.J : JDen U := { Y := (Bool × List (Srate_Key × Sapi_Dec) × Int × Int × Bool × Int × Int × Int), re := rate_Table_Set.j2000.re, fin := rate_Table_Set.j2000.fin, finK := rate_Table_Set.j2000.finK, finK_eq := rate_Table_Set.j2000.finK_eq }
theorem rate_Table_Set.j2000.fit (o : Out U) (y : (Bool × List (Srate_Key × Sapi_Dec) × Int × Int × Bool × Int × Int × Int)) (h : rate_Table_Set.j2000.re o = some y) : FitsO o (rate_Table_Set.j2000.fin y) := by
  unfold rate_Table_Set.j2000.re at h
  split at h
  · split at h
    · obtain ⟨w7000000000000_0, ew7000000000000_0, h1⟩ := Option.bind_eq_some_iff.1 h
      cases h1
      refine fitsO_norm (fits_ren [(700102200000000, w7000000000000_0.1)] ?_ ?_ ren_one rfl)
      · exact List.forall_mem_cons.2 ⟨FV.one (FV.ptr (by assumption)), List.forall_mem_cons.2 ⟨FV.one (FV.ptr (by assumption)), List.forall_mem_cons.2 ⟨FV.one (FV.ptr (by assumption)), List.forall_mem_cons.2 ⟨FV.one (FV.ptr (by assumption)), List.forall_mem_cons.2 ⟨FV.one (FV.same (by assumption) rfl), fun _ hp => (List.not_mem_nil hp).elim⟩⟩⟩⟩⟩
      · exact List.forall_mem_cons.2 ⟨(FO.cells (show lk (St.o _) 7000000000000 = some _ from by assumption) (FCs.cons ((map_Srate_Key_Sapi_Dec_t_fit ew7000000000000_0 rfl).1) (FCs.nil))), List.forall_mem_cons.2 ⟨(map_Srate_Key_Sapi_Dec_t_fit ew7000000000000_0 rfl).2, List.forall_mem_cons.2 ⟨(FO.same (show lk (St.o _) 4 = some _ from by assumption) rfl), List.forall_mem_cons.2 ⟨(FO.same (show lk (St.o _) 5 = some _ from by assumption) rfl), fun _ hp => (List.not_mem_nil hp).elim⟩⟩⟩⟩
    · cases h
  · cases h
noncomputable def rate_Table_Set.jl : List (Nat × JDen U) := [(1000, rate_Table_Set.j1000.J), (2000, rate_Table_Set.j2000.J)]
noncomputable def rate_Table_Set.fl (k : Nat) : List (Nat × FDen U) := [(37, dec_Sign.D k), (96, dec_Of.D k), (48, dec_Cmp.D k)]
noncomputable def rate_Table_Set.ll (k : Nat) : List (Nat × LDen U) := []
noncomputable def rate_Table_Set.E (k : Nat) : Env U := { P := Try.prog, D := DD, fd := lk (rate_Table_Set.fl k), sf := lk sl0, ld := lk (rate_Table_Set.ll k), jd := lk rate_Table_Set.jl, mode := lk [], elc := lk ec, mpc := lk mc, rts := Try.f53.resultTypes.toList, dyn := fun t => false, vecs := fun d => false, results := Try.f53.results.toList, gh := [0], own := false, io := fun g i => false }
theorem rate_Table_Set.ok (k : Nat) : EnvOk (rate_Table_Set.E k) := envOk lawful (rate_Table_Set.fl k) sl0 (rate_Table_Set.ll k) rate_Table_Set.jl _ _ _ _ _ _ _ _ _ _ (by
  intro p hp
  simp only [rate_Table_Set.fl, List.mem_cons, List.not_mem_nil, or_false] at hp
  rcases hp with rfl | rfl | rfl
  · exact ⟨dec_Sign.sound k, enter_of Try.func37 (by kernel_rfl) (by kernel_rfl)⟩
  · exact ⟨dec_Of.sound k, enter_of Try.func96 (by kernel_rfl) (by kernel_rfl)⟩
  · exact ⟨dec_Cmp.sound k, enter_of Try.func48 (by kernel_rfl) (by kernel_rfl)⟩) sl0_ok (by
  intro p hp
  simp only [rate_Table_Set.jl, List.mem_cons, List.not_mem_nil, or_false] at hp
  rcases hp with rfl | rfl
  · exact rate_Table_Set.j1000.fit
  · exact rate_Table_Set.j2000.fit)
theorem rate_Table_Set.eq (k : Nat) (x : (Srate_Table × Srate_Key × Sapi_Dec)) : runF (rate_Table_Set.E k) (codeOf Try.f53) (rate_Table_Set.mk x) rate_Table_Set.re = (rate_Table_Set.D k).f x := by kernel_rfl
theorem rate_Table_Set.fit (s : St U) (x : (Srate_Table × Srate_Key × Sapi_Dec)) (h : rate_Table_Set.un s = some x) : Fits s (rate_Table_Set.mk x) := by
  unfold rate_Table_Set.un at h
  split at h
  · obtain ⟨ex1, hex1, hh1⟩ := Option.bind_eq_some_iff.1 h
    cases hh1
    refine fits_ren [(7000000000001, ex1.1)] ?_ ?_ ren_one rfl
    · exact List.forall_mem_cons.2 ⟨FV.one (FV.ptr (by assumption)), List.forall_mem_cons.2 ⟨FV.one (FV.same (by assumption) rfl), List.forall_mem_cons.2 ⟨FV.one (FV.same (by assumption) rfl), List.forall_mem_cons.2 ⟨FV.one (FV.ptr (by assumption)), fun _ hp => (List.not_mem_nil hp).elim⟩⟩⟩⟩
    · exact List.forall_mem_cons.2 ⟨FO.cells (show lk (St.o _) 7000000000000 = some _ from by assumption) (FCs.cons ((map_Srate_Key_Sapi_Dec_t_fit hex1 rfl).1) (FCs.nil)), List.forall_mem_cons.2 ⟨(map_Srate_Key_Sapi_Dec_t_fit hex1 rfl).2, fun _ hp => (List.not_mem_nil hp).elim⟩⟩
  · cases h
theorem rate_Table_Set.fitR (s : St U) (y : (Int × Srate_Table)) (h : rate_Table_Set.re s = some y) : Fits s (rate_Table_Set.fin y) := by
  unfold rate_Table_Set.re at h
  split at h
  · obtain ⟨ex2, hex2, hh1⟩ := Option.bind_eq_some_iff.1 h
    cases hh1
    refine fits_ren [(7000000000001, ex2.1)] ?_ ?_ ren_one rfl
    · exact List.forall_mem_cons.2 ⟨FV.one (FV.same (by assumption) rfl), List.forall_mem_cons.2 ⟨FV.one (FV.ptr (by assumption)), fun _ hp => (List.not_mem_nil hp).elim⟩⟩
    · exact List.forall_mem_cons.2 ⟨FO.cells (show lk (St.o _) 7000000000000 = some _ from by assumption) (FCs.cons ((map_Srate_Key_Sapi_Dec_t_fit hex2 rfl).1) (FCs.nil)), List.forall_mem_cons.2 ⟨(map_Srate_Key_Sapi_Dec_t_fit hex2 rfl).2, fun _ hp => (List.not_mem_nil hp).elim⟩⟩
  · cases h
theorem rate_Table_Set.sound (k : Nat) : Sound Try.prog DD 53 (rate_Table_Set.D k) :=
  fun_sound (E := rate_Table_Set.E k) (fn := Try.f53) (c := codeOf Try.f53) (rate_Table_Set.ok k) mixed rfl Try.func53 (by kernel_rfl) (by kernel_rfl) (allL_of (l := []) (by kernel_rfl) allL_nil) (rate_Table_Set.D k) rate_Table_Set.mk rate_Table_Set.re (by kernel_rfl) (by kernel_rfl) rate_Table_Set.fit rate_Table_Set.fitR (rate_Table_Set.eq k)
/-! ### pyx/pyxlaw16.known: function 52 -/
noncomputable def pyxlaw16_known.f (k : Nat)  : Option Bool := (rate_New.f k).bind fun t1 => ((rate_Table_Get.f k (⟨t1.f_l⟩ : Srate_Table) (⟨3, 1⟩ : Srate_Key)).bind fun t2 => ((pyxref1_Of.f k 125 2).bind fun t3 => ((rate_Table_Set.f k (⟨t2.2.2.f_l⟩ : Srate_Table) (⟨3, 1⟩ : Srate_Key) (⟨t3.f_Neg, (t3.f_C.1, t3.f_C.2), t3.f_Scale⟩ : Sapi_Dec)).bind fun t4 => ((rate_Table_Get.f k (⟨t4.2.f_l⟩ : Srate_Table) (⟨3, 1⟩ : Srate_Key)).bind fun t5 => (cond (t2.2.1 == 11) (cond (t4.1 == 0) (cond (t5.2.1 == 0) ((pyxref1_Of.f k 125 2).bind fun t6 => (some ((t5.1.f_Neg == t6.f_Neg) && ((t5.1.f_C.1 == t6.f_C.1) && ((t5.1.f_C.2 == t6.f_C.2) && (t5.1.f_Scale == t6.f_Scale)))))) (some false)) (some false)) (some false))))))
noncomputable def pyxlaw16_known.un (s : St U) : Option Unit := some ()
noncomputable def pyxlaw16_known.mk (x : Unit) : St U := ⟨[], []⟩
noncomputable def pyxlaw16_known.fin (y : Bool) : St U := ⟨[(0, .flat (.bool y))], []⟩
noncomputable def pyxlaw16_known.D (k : Nat) : FDen U := { X := Unit, Y := Bool, nt := 43, gh := [], un := pyxlaw16_known.un, f := fun x => pyxlaw16_known.f k , fin := pyxlaw16_known.fin, cl := true, clo := fun _ _ => rfl }
noncomputable def pyxlaw16_known.re (s : St U) : Option Bool := match s.get 0 with | .flat (.bool x1) => some x1 | _ => none
noncomputable def pyxlaw16_known.jl : List (Nat × JDen U) := []
noncomputable def pyxlaw16_known.fl (k : Nat) : List (Nat × FDen U) := [(51, rate_New.D k), (56, rate_Table_Get.D k), (17, pyxref1_Of.D k), (53, rate_Table_Set.D k)]
noncomputable def pyxlaw16_known.ll (k : Nat) : List (Nat × LDen U) := []
noncomputable def pyxlaw16_known.E (k : Nat) : Env U := { P := Try.prog, D := DD, fd := lk (pyxlaw16_known.fl k), sf := lk sl0, ld := lk (pyxlaw16_known.ll k), jd := lk pyxlaw16_known.jl, mode := lk [], elc := lk ec, mpc := lk mc, rts := Try.f52.resultTypes.toList, dyn := fun t => false, vecs := fun d => false, results := Try.f52.results.toList, gh := [], own := false, io := fun g i => false }
theorem pyxlaw16_known.ok (k : Nat) : EnvOk (pyxlaw16_known.E k) := envOk lawful (pyxlaw16_known.fl k) sl0 (pyxlaw16_known.ll k) pyxlaw16_known.jl _ _ _ _ _ _ _ _ _ _ (by
  intro p hp
  simp only [pyxlaw16_known.fl, List.mem_cons, List.not_mem_nil, or_false] at hp
  rcases hp with rfl | rfl | rfl | rfl
  · exact ⟨rate_New.sound k, enter_of Try.func51 (by kernel_rfl) (by kernel_rfl)⟩
  · exact ⟨rate_Table_Get.sound k, enter_of Try.func56 (by kernel_rfl) (by kernel_rfl)⟩
  · exact ⟨pyxref1_Of.sound k, enter_of Try.func17 (by kernel_rfl) (by kernel_rfl)⟩
  · exact ⟨rate_Table_Set.sound k, enter_of Try.func53 (by kernel_rfl) (by kernel_rfl)⟩) sl0_ok (by
  intro p hp
  simp [pyxlaw16_known.jl] at hp)
theorem pyxlaw16_known.eq (k : Nat) (x : Unit) : runF (pyxlaw16_known.E k) (codeOf Try.f52) (pyxlaw16_known.mk x) pyxlaw16_known.re = (pyxlaw16_known.D k).f x := by kernel_rfl
theorem pyxlaw16_known.fit (s : St U) (x : Unit) (h : pyxlaw16_known.un s = some x) : Fits s (pyxlaw16_known.mk x) := by
  unfold pyxlaw16_known.un at h
  cases h
  refine fits_ren [] ?_ ?_ ren_nil rfl
  · exact fun _ hp => (List.not_mem_nil hp).elim
  · exact fun _ hp => (List.not_mem_nil hp).elim
theorem pyxlaw16_known.fitR (s : St U) (y : Bool) (h : pyxlaw16_known.re s = some y) : Fits s (pyxlaw16_known.fin y) := by
  unfold pyxlaw16_known.re at h
  split at h
  · cases h
    refine fits_ren [] ?_ ?_ ren_nil rfl
    · exact List.forall_mem_cons.2 ⟨FV.one (FV.same (by assumption) rfl), fun _ hp => (List.not_mem_nil hp).elim⟩
    · exact fun _ hp => (List.not_mem_nil hp).elim
  · cases h
theorem pyxlaw16_known.sound (k : Nat) : Sound Try.prog DD 52 (pyxlaw16_known.D k) :=
  fun_sound (E := pyxlaw16_known.E k) (fn := Try.f52) (c := codeOf Try.f52) (pyxlaw16_known.ok k) mixed rfl Try.func52 (by kernel_rfl) (by kernel_rfl) (allL_of (l := []) (by kernel_rfl) allL_nil) (pyxlaw16_known.D k) pyxlaw16_known.mk pyxlaw16_known.re (by kernel_rfl) (by kernel_rfl) pyxlaw16_known.fit pyxlaw16_known.fitR (pyxlaw16_known.eq k)
/-! ### slices.Clip[[]pyx/rate.Key,pyx/rate.Key]: function 97 -/
noncomputable def slices_Clip_rate_Key.f (k : Nat) (a0 : List Srate_Key) : Option (List Srate_Key) := cond (decide ((List.length a0 : Int) = (List.length a0 : Int)) && inS 0 (List.length a0 : Int) (List.length a0)) (some (List.take (Int.toNat (List.length a0 : Int)) a0)) none
noncomputable def slices_Clip_rate_Key.un (s : St U) : Option (List Srate_Key) := match s.get 0 with | .row C.Srate_Key x1 => some x1 | _ => none
noncomputable def slices_Clip_rate_Key.mk (x : List Srate_Key) : St U := ⟨[(0, .row C.Srate_Key x)], []⟩
noncomputable def slices_Clip_rate_Key.fin (y : List Srate_Key) : St U := ⟨[(0, .row C.Srate_Key y)], []⟩
noncomputable def slices_Clip_rate_Key.D (k : Nat) : FDen U := { X := List Srate_Key, Y := List Srate_Key, nt := 9, gh := [], un := slices_Clip_rate_Key.un, f := fun x => slices_Clip_rate_Key.f k (x), fin := slices_Clip_rate_Key.fin, cl := true, clo := fun _ _ => rfl }
noncomputable def slices_Clip_rate_Key.re (s : St U) : Option (List Srate_Key) := match s.get 0 with | .row C.Srate_Key x1 => some x1 | _ => none
noncomputable def slices_Clip_rate_Key.jl : List (Nat × JDen U) := []
noncomputable def slices_Clip_rate_Key.fl (k : Nat) : List (Nat × FDen U) := []
noncomputable def slices_Clip_rate_Key.ll (k : Nat) : List (Nat × LDen U) := []
noncomputable def slices_Clip_rate_Key.E (k : Nat) : Env U := { P := Try.prog, D := DD, fd := lk (slices_Clip_rate_Key.fl k), sf := lk sl0, ld := lk (slices_Clip_rate_Key.ll k), jd := lk slices_Clip_rate_Key.jl, mode := lk [], elc := lk ec, mpc := lk mc, rts := Try.f97.resultTypes.toList, dyn := fun t => false, vecs := fun d => false, results := Try.f97.results.toList, gh := [], own := false, io := fun g i => false }
theorem slices_Clip_rate_Key.ok (k : Nat) : EnvOk (slices_Clip_rate_Key.E k) := envOk lawful (slices_Clip_rate_Key.fl k) sl0 (slices_Clip_rate_Key.ll k) slices_Clip_rate_Key.jl _ _ _ _ _ _ _ _ _ _ (by
  intro p hp
  simp [slices_Clip_rate_Key.fl] at hp) sl0_ok (by
  intro p hp
  simp [slices_Clip_rate_Key.jl] at hp)
theorem slices_Clip_rate_Key.eq (k : Nat) (x : List Srate_Key) : runF (slices_Clip_rate_Key.E k) (codeOf Try.f97) (slices_Clip_rate_Key.mk x) slices_Clip_rate_Key.re = (slices_Clip_rate_Key.D k).f x := by kernel_rfl
theorem slices_Clip_rate_Key.fit (s : St U) (x : List Srate_Key) (h : slices_Clip_rate_Key.un s = some x) : Fits s (slices_Clip_rate_Key.mk x) := by
  unfold slices_Clip_rate_Key.un at h
  split at h
  · cases h
    refine fits_ren [] ?_ ?_ ren_nil rfl
    · exact List.forall_mem_cons.2 ⟨FV.one (FV.same (by assumption) rfl), fun _ hp => (List.not_mem_nil hp).elim⟩
    · exact fun _ hp => (List.not_mem_nil hp).elim
  · cases h
theorem slices_Clip_rate_Key.fitR (s : St U) (y : List Srate_Key) (h : slices_Clip_rate_Key.re s = some y) : Fits s (slices_Clip_rate_Key.fin y) := by
  unfold slices_Clip_rate_Key.re at h
  split at h
  · cases h
    refine fits_ren [] ?_ ?_ ren_nil rfl
    · exact List.forall_mem_cons.2 ⟨FV.one (FV.same (by assumption) rfl), fun _ hp => (List.not_mem_nil hp).elim⟩
    · exact fun _ hp => (List.not_mem_nil hp).elim
  · cases h
theorem slices_Clip_rate_Key.sound (k : Nat) : Sound Try.prog DD 97 (slices_Clip_rate_Key.D k) :=
  fun_sound (E := slices_Clip_rate_Key.E k) (fn := Try.f97) (c := codeOf Try.f97) (slices_Clip_rate_Key.ok k) mixed rfl Try.func97 (by kernel_rfl) (by kernel_rfl) (allL_of (l := []) (by kernel_rfl) allL_nil) (slices_Clip_rate_Key.D k) slices_Clip_rate_Key.mk slices_Clip_rate_Key.re (by kernel_rfl) (by kernel_rfl) slices_Clip_rate_Key.fit slices_Clip_rate_Key.fitR (slices_Clip_rate_Key.eq k)
/-! ### (*pyx/rate.Table).Keys: function 54 -/
noncomputable def rate_Table_Keys.f (k : Nat) (a0 : Srate_Table) : Option (List Srate_Key × Srate_Table) := cond (okLen (List.length (List.map (fun p => p.1) a0.f_l)) 16) ((slices_Clip_rate_Key.f k (srt_Srate_Key (List.map (fun p => p.1) a0.f_l))).bind fun t1 => (some (t1, (⟨a0.f_l⟩ : Srate_Table)))) none
noncomputable def rate_Table_Keys.un (s : St U) : Option Srate_Table := match s.get 0, lk s.o 7000000000000, s.get 1000000000000000 with | .ptr 7000000000000 0, some (.lit [x2]), .ptr 7000000000000 0 => (map_Srate_Key_Sapi_Dec_t s.o x2).bind fun ex1 => (some (⟨ex1.2⟩ : Srate_Table)) | _, _, _ => none
noncomputable def rate_Table_Keys.mk (x : Srate_Table) : St U := ⟨[(0, .ptr 7000000000000 0), (1000000000000000, .ptr 7000000000000 0)], [(7000000000000, .lit [.mp 7000000000001]), (7000000000001, .map true true true C.Srate_Key C.Sapi_Dec x.f_l)]⟩
noncomputable def rate_Table_Keys.fin (y : (List Srate_Key × Srate_Table)) : St U := ⟨[(0, .row C.Srate_Key y.1), (1000000000000000, .ptr 7000000000000 0)], [(7000000000000, .lit [.mp 7000000000001]), (7000000000001, .map true true true C.Srate_Key C.Sapi_Dec y.2.f_l)]⟩
noncomputable def rate_Table_Keys.D (k : Nat) : FDen U := { X := Srate_Table, Y := (List Srate_Key × Srate_Table), nt := 12, gh := [0], un := rate_Table_Keys.un, f := fun x => rate_Table_Keys.f k (x), fin := rate_Table_Keys.fin, cl := false, clo := fun h => by cases h }
noncomputable def rate_Table_Keys.re (s : St U) : Option (List Srate_Key × Srate_Table) := match s.get 0, s.get 1000000000000000, lk s.o 7000000000000 with | .row C.Srate_Key x1, .ptr 7000000000000 0, some (.lit [x3]) => (map_Srate_Key_Sapi_Dec_t s.o x3).bind fun ex2 => (some (x1, (⟨ex2.2⟩ : Srate_Table))) | _, _, _ => none
noncomputable def rate_Table_Keys.jl : List (Nat × JDen U) := []
noncomputable def rate_Table_Keys.fl (k : Nat) : List (Nat × FDen U) := [(97, slices_Clip_rate_Key.D k)]
noncomputable def rate_Table_Keys.ll (k : Nat) : List (Nat × LDen U) := []
noncomputable def rate_Table_Keys.E (k : Nat) : Env U := { P := Try.prog, D := DD, fd := lk (rate_Table_Keys.fl k), sf := lk sl1, ld := lk (rate_Table_Keys.ll k), jd := lk rate_Table_Keys.jl, mode := lk [], elc := lk ec, mpc := lk mc, rts := Try.f54.resultTypes.toList, dyn := fun t => false, vecs := fun d => false, results := Try.f54.results.toList, gh := [0], own := false, io := fun g i => false }
theorem rate_Table_Keys.ok (k : Nat) : EnvOk (rate_Table_Keys.E k) := envOk lawful (rate_Table_Keys.fl k) sl1 (rate_Table_Keys.ll k) rate_Table_Keys.jl _ _ _ _ _ _ _ _ _ _ (by
  intro p hp
  simp only [rate_Table_Keys.fl, List.mem_cons, List.not_mem_nil, or_false] at hp
  rcases hp with rfl
  · exact ⟨slices_Clip_rate_Key.sound k, enter_of Try.func97 (by kernel_rfl) (by kernel_rfl)⟩) sl1_ok (by
  intro p hp
  simp [rate_Table_Keys.jl] at hp)
theorem rate_Table_Keys.eq (k : Nat) (x : Srate_Table) : runF (rate_Table_Keys.E k) (codeOf Try.f54) (rate_Table_Keys.mk x) rate_Table_Keys.re = (rate_Table_Keys.D k).f x := by kernel_rfl
theorem rate_Table_Keys.fit (s : St U) (x : Srate_Table) (h : rate_Table_Keys.un s = some x) : Fits s (rate_Table_Keys.mk x) := by
  unfold rate_Table_Keys.un at h
  split at h
  · obtain ⟨ex1, hex1, hh1⟩ := Option.bind_eq_some_iff.1 h
    cases hh1
    refine fits_ren [(7000000000001, ex1.1)] ?_ ?_ ren_one rfl
    · exact List.forall_mem_cons.2 ⟨FV.one (FV.ptr (by assumption)), List.forall_mem_cons.2 ⟨FV.one (FV.ptr (by assumption)), fun _ hp => (List.not_mem_nil hp).elim⟩⟩
    · exact List.forall_mem_cons.2 ⟨FO.cells (show lk (St.o _) 7000000000000 = some _ from by assumption) (FCs.cons ((map_Srate_Key_Sapi_Dec_t_fit hex1 rfl).1) (FCs.nil)), List.forall_mem_cons.2 ⟨(map_Srate_Key_Sapi_Dec_t_fit hex1 rfl).2, fun _ hp => (List.not_mem_nil hp).elim⟩⟩
  · cases h
theorem rate_Table_Keys.fitR (s : St U) (y : (List Srate_Key × Srate_Table)) (h : rate_Table_Keys.re s = some y) : Fits s (rate_Table_Keys.fin y) := by
  unfold rate_Table_Keys.re at h
  split at h
  · obtain ⟨ex2, hex2, hh1⟩ := Option.bind_eq_some_iff.1 h
    cases hh1
    refine fits_ren [(7000000000001, ex2.1)] ?_ ?_ ren_one rfl
    · exact List.forall_mem_cons.2 ⟨FV.one (FV.same (by assumption) rfl), List.forall_mem_cons.2 ⟨FV.one (FV.ptr (by assumption)), fun _ hp => (List.not_mem_nil hp).elim⟩⟩
    · exact List.forall_mem_cons.2 ⟨FO.cells (show lk (St.o _) 7000000000000 = some _ from by assumption) (FCs.cons ((map_Srate_Key_Sapi_Dec_t_fit hex2 rfl).1) (FCs.nil)), List.forall_mem_cons.2 ⟨(map_Srate_Key_Sapi_Dec_t_fit hex2 rfl).2, fun _ hp => (List.not_mem_nil hp).elim⟩⟩
  · cases h
theorem rate_Table_Keys.sound (k : Nat) : Sound Try.prog DD 54 (rate_Table_Keys.D k) :=
  fun_sound (E := rate_Table_Keys.E k) (fn := Try.f54) (c := codeOf Try.f54) (rate_Table_Keys.ok k) mixed rfl Try.func54 (by kernel_rfl) (by kernel_rfl) (allL_of (l := []) (by kernel_rfl) allL_nil) (rate_Table_Keys.D k) rate_Table_Keys.mk rate_Table_Keys.re (by kernel_rfl) (by kernel_rfl) rate_Table_Keys.fit rate_Table_Keys.fitR (rate_Table_Keys.eq k)
/-! ### pyx/pyxlaw16.RateKnown: function 11 -/
noncomputable def pyxlaw16_RateKnown.f (k : Nat)  : Option Bool := (rate_New.f k).bind fun t1 => ((((pyxlaw16_known.f k).bind fun t2 => (cond (!t2) (some (true, t1.f_l)) (some (false, t1.f_l)))) : Option (Bool × List (Srate_Key × Sapi_Dec))).bind fun y5 => (cond (y5.1) (some false) ((pyxref1_Of.f k 1 0).bind fun t6 => ((rate_Table_Set.f k (⟨y5.2⟩ : Srate_Table) (⟨2, 1⟩ : Srate_Key) (⟨t6.f_Neg, (t6.f_C.1, t6.f_C.2), t6.f_Scale⟩ : Sapi_Dec)).bind fun t7 => ((rate_Table_Set.f k (⟨t7.2.f_l⟩ : Srate_Table) (⟨2, 0⟩ : Srate_Key) (⟨t6.f_Neg, (t6.f_C.1, t6.f_C.2), t6.f_Scale⟩ : Sapi_Dec)).bind fun t8 => ((rate_Table_Set.f k (⟨t8.2.f_l⟩ : Srate_Table) (⟨0, 2⟩ : Srate_Key) (⟨t6.f_Neg, (t6.f_C.1, t6.f_C.2), t6.f_Scale⟩ : Sapi_Dec)).bind fun t9 => ((rate_Table_Set.f k (⟨t9.2.f_l⟩ : Srate_Table) (⟨12, 0⟩ : Srate_Key) (⟨t6.f_Neg, (t6.f_C.1, t6.f_C.2), t6.f_Scale⟩ : Sapi_Dec)).bind fun t10 => ((rate_Table_Set.f k (⟨t10.2.f_l⟩ : Srate_Table) (⟨(-1), 0⟩ : Srate_Key) (⟨t6.f_Neg, (t6.f_C.1, t6.f_C.2), t6.f_Scale⟩ : Sapi_Dec)).bind fun t11 => ((rate_Table_Set.f k (⟨t11.2.f_l⟩ : Srate_Table) (⟨0, 3⟩ : Srate_Key) (⟨t6.f_Neg, (t6.f_C.1, t6.f_C.2), t6.f_Scale⟩ : Sapi_Dec)).bind fun t12 => ((pyxref1_Of.f k 0 0).bind fun t13 => ((rate_Table_Set.f k (⟨t12.2.f_l⟩ : Srate_Table) (⟨0, 0⟩ : Srate_Key) (⟨t13.f_Neg, (t13.f_C.1, t13.f_C.2), t13.f_Scale⟩ : Sapi_Dec)).bind fun t14 => ((pyxref1_Of.f k (-1) 0).bind fun t15 => ((rate_Table_Set.f k (⟨t14.2.f_l⟩ : Srate_Table) (⟨0, 0⟩ : Srate_Key) (⟨t15.f_Neg, (t15.f_C.1, t15.f_C.2), t15.f_Scale⟩ : Sapi_Dec)).bind fun t16 => ((pyxref1_Of.f k 1 7).bind fun t17 => ((rate_Table_Set.f k (⟨t16.2.f_l⟩ : Srate_Table) (⟨0, 0⟩ : Srate_Key) (⟨t17.f_Neg, (t17.f_C.1, t17.f_C.2), t17.f_Scale⟩ : Sapi_Dec)).bind fun t18 => ((pyxref1_Of.f k 1000000 0).bind fun t19 => ((rate_Table_Set.f k (⟨t18.2.f_l⟩ : Srate_Table) (⟨0, 0⟩ : Srate_Key) (⟨t19.f_Neg, (t19.f_C.1, t19.f_C.2), t19.f_Scale⟩ : Sapi_Dec)).bind fun t20 => ((pyxref1_Of.f k 999999999999 6).bind fun t21 => ((rate_Table_Set.f k (⟨t20.2.f_l⟩ : Srate_Table) (⟨0, 0⟩ : Srate_Key) (⟨t21.f_Neg, (t21.f_C.1, t21.f_C.2), t21.f_Scale⟩ : Sapi_Dec)).bind fun t22 => ((rate_Table_Keys.f k (⟨t22.2.f_l⟩ : Srate_Table)).bind fun t23 => (cond (t7.1 == 0) (cond (t8.1 == 0) (cond (t9.1 == 0) (cond (t10.1 == 1) (cond (t11.1 == 1) (cond (t12.1 == 1) (cond (t14.1 == 1) (cond (t16.1 == 1) (cond (t18.1 == 1) (cond (t20.1 == 1) (cond (t22.1 == 0) (cond ((List.length t23.1 : Int) == 4) (cond (inb 0 (List.length t23.1)) (cond ((((List.getD t23.1 0 Srate_Key.zero).f_Period) == 0) && (((List.getD t23.1 0 Srate_Key.zero).f_Kind) == 0)) (cond (inb 1 (List.length t23.1)) (cond ((((List.getD t23.1 1 Srate_Key.zero).f_Period) == 0) && (((List.getD t23.1 1 Srate_Key.zero).f_Kind) == 2)) (cond (inb 2 (List.length t23.1)) (cond ((((List.getD t23.1 2 Srate_Key.zero).f_Period) == 2) && (((List.getD t23.1 2 Srate_Key.zero).f_Kind) == 0)) (cond (inb 3 (List.length t23.1)) (cond ((((List.getD t23.1 3 Srate_Key.zero).f_Period) == 2) && (((List.getD t23.1 3 Srate_Key.zero).f_Kind) == 1)) (some true) (some false)) none) (some false)) none) (some false)) none) (some false)) none) (some false)) (some false)) (some false)) (some false)) (some false)) (some false)) (some false)) (some false)) (some false)) (some false)) (some false)) (some false))))))))))))))))))))))
noncomputable def pyxlaw16_RateKnown.un (s : St U) : Option Unit := some ()
noncomputable def pyxlaw16_RateKnown.mk (x : Unit) : St U := ⟨[], []⟩
noncomputable def pyxlaw16_RateKnown.fin (y : Bool) : St U := ⟨[(0, .flat (.bool y))], []⟩
noncomputable def pyxlaw16_RateKnown.D (k : Nat) : FDen U := { X := Unit, Y := Bool, nt := 146, gh := [], un := pyxlaw16_RateKnown.un, f := fun x => pyxlaw16_RateKnown.f k , fin := pyxlaw16_RateKnown.fin, cl := true, clo := fun _ _ => rfl }
noncomputable def pyxlaw16_RateKnown.re (s : St U) : Option Bool := match s.get 0 with | .flat (.bool x1) => some x1 | _ => none
noncomputable def pyxlaw16_RateKnown.j2000.fin (y : (Bool × List (Srate_Key × Sapi_Dec))) : Out U := match y with | (x4, x3) => .norm ⟨[(1, .ptr 160000000000003 0), (21, .flat (.bool x4))], [(160000000000003, .lit [.mp 16000102200000300]), (16000102200000300, .map true true true C.Srate_Key C.Sapi_Dec x3)]⟩
noncomputable def pyxlaw16_RateKnown.j2000.finK {ρ : Type} (y : (Bool × List (Srate_Key × Sapi_Dec))) (K : Out U → Option ρ) : Option ρ := match y with | (x4, x3) => K (.norm ⟨[(1, .ptr 160000000000003 0), (21, .flat (.bool x4))], [(160000000000003, .lit [.mp 16000102200000300]), (16000102200000300, .map true true true C.Srate_Key C.Sapi_Dec x3)]⟩)
theorem pyxlaw16_RateKnown.j2000.finK_eq {ρ : Type} (y : (Bool × List (Srate_Key × Sapi_Dec))) (K : Out U → Option ρ) : pyxlaw16_RateKnown.j2000.finK y K = K (pyxlaw16_RateKnown.j2000.fin y) := by
  unfold pyxlaw16_RateKnown.j2000.finK pyxlaw16_RateKnown.j2000.fin
  first | rfl | (split <;> rfl)
noncomputable def pyxlaw16_RateKnown.j2000.re : Out U → Option ((Bool × List (Srate_Key × Sapi_Dec))) | .norm s => (match s.get 1, s.get 21, lk s.o 160000000000003 with | .ptr 160000000000003 0, .flat (.bool x4), some (.lit [u160000000000003_0]) => (map_Srate_Key_Sapi_Dec_t s.o u160000000000003_0).bind fun w160000000000003_0 => (some (x4, w160000000000003_0.2)) | _, _, _ => none) | _ => none
noncomputable def pyxlaw16_RateKnown.j2000.J : JDen U := { Y := (Bool × List (Srate_Key × Sapi_Dec)), re := pyxlaw16_RateKnown.j2000.re, fin := pyxlaw16_RateKnown.j2000.fin, finK := pyxlaw16_RateKnown.j2000.finK, finK_eq := pyxlaw16_RateKnown.j2000.finK_eq }
theorem pyxlaw16_RateKnown.j2000.fit (o : Out U) (y : (Bool × List (Srate_Key × Sapi_Dec))) (h : pyxlaw16_RateKnown.j2000.re o = some y) : FitsO o (pyxlaw16_RateKnown.j2000.fin y) := by
  unfold pyxlaw16_RateKnown.j2000.re at h
  split at h
  · split at h
    · obtain ⟨w160000000000003_0, ew160000000000003_0, h1⟩ := Option.bind_eq_some_iff.1 h
      cases h1
      refine fitsO_norm (fits_ren [(16000102200000300, w160000000000003_0.1)] ?_ ?_ ren_one rfl)
      · exact List.forall_mem_cons.2 ⟨FV.one (FV.ptr (by assumption)), List.forall_mem_cons.2 ⟨FV.one (FV.same (by assumption) rfl), fun _ hp => (List.not_mem_nil hp).elim⟩⟩
      · exact List.forall_mem_cons.2 ⟨(FO.cells (show lk (St.o _) 160000000000003 = some _ from by assumption) (FCs.cons ((map_Srate_Key_Sapi_Dec_t_fit ew160000000000003_0 rfl).1) (FCs.nil))), List.forall_mem_cons.2 ⟨(map_Srate_Key_Sapi_Dec_t_fit ew160000000000003_0 rfl).2, fun _ hp => (List.not_mem_nil hp).elim⟩⟩
    · cases h
  · cases h
noncomputable def pyxlaw16_RateKnown.jl : List (Nat × JDen U) := [(2000, pyxlaw16_RateKnown.j2000.J)]
noncomputable def pyxlaw16_RateKnown.fl (k : Nat) : List (Nat × FDen U) := [(51, rate_New.D k), (52, pyxlaw16_known.D k), (17, pyxref1_Of.D k), (53, rate_Table_Set.D k), (54, rate_Table_Keys.D k)]
noncomputable def pyxlaw16_RateKnown.ll (k : Nat) : List (Nat × LDen U) := []
noncomputable def pyxlaw16_RateKnown.E (k : Nat) : Env U := { P := Try.prog, D := DD, fd := lk (pyxlaw16_RateKnown.fl k), sf := lk sl0, ld := lk (pyxlaw16_RateKnown.ll k), jd := lk pyxlaw16_RateKnown.jl, mode := lk [], elc := lk ec, mpc := lk mc, rts := Try.f11.resultTypes.toList, dyn := fun t => false, vecs := fun d => false, results := Try.f11.results.toList, gh := [], own := false, io := fun g i => false }
theorem pyxlaw16_RateKnown.ok (k : Nat) : EnvOk (pyxlaw16_RateKnown.E k) := envOk lawful (pyxlaw16_RateKnown.fl k) sl0 (pyxlaw16_RateKnown.ll k) pyxlaw16_RateKnown.jl _ _ _ _ _ _ _ _ _ _ (by
  intro p hp
  simp only [pyxlaw16_RateKnown.fl, List.mem_cons, List.not_mem_nil, or_false] at hp
  rcases hp with rfl | rfl | rfl | rfl | rfl
  · exact ⟨rate_New.sound k, enter_of Try.func51 (by kernel_rfl) (by kernel_rfl)⟩
  · exact ⟨pyxlaw16_known.sound k, enter_of Try.func52 (by kernel_rfl) (by kernel_rfl)⟩
  · exact ⟨pyxref1_Of.sound k, enter_of Try.func17 (by kernel_rfl) (by kernel_rfl)⟩
  · exact ⟨rate_Table_Set.sound k, enter_of Try.func53 (by kernel_rfl) (by kernel_rfl)⟩
  · exact ⟨rate_Table_Keys.sound k, enter_of Try.func54 (by kernel_rfl) (by kernel_rfl)⟩) sl0_ok (by
  intro p hp
  simp only [pyxlaw16_RateKnown.jl, List.mem_cons, List.not_mem_nil, or_false] at hp
  rcases hp with rfl
  · exact pyxlaw16_RateKnown.j2000.fit)
theorem pyxlaw16_RateKnown.eq (k : Nat) (x : Unit) : runF (pyxlaw16_RateKnown.E k) (codeOf Try.f11) (pyxlaw16_RateKnown.mk x) pyxlaw16_RateKnown.re = (pyxlaw16_RateKnown.D k).f x := by kernel_rfl
theorem pyxlaw16_RateKnown.fit (s : St U) (x : Unit) (h : pyxlaw16_RateKnown.un s = some x) : Fits s (pyxlaw16_RateKnown.mk x) := by
  unfold pyxlaw16_RateKnown.un at h
  cases h
  refine fits_ren [] ?_ ?_ ren_nil rfl
  · exact fun _ hp => (List.not_mem_nil hp).elim
  · exact fun _ hp => (List.not_mem_nil hp).elim
theorem pyxlaw16_RateKnown.fitR (s : St U) (y : Bool) (h : pyxlaw16_RateKnown.re s = some y) : Fits s (pyxlaw16_RateKnown.fin y) := by
  unfold pyxlaw16_RateKnown.re at h
  split at h
  · cases h
    refine fits_ren [] ?_ ?_ ren_nil rfl
    · exact List.forall_mem_cons.2 ⟨FV.one (FV.same (by assumption) rfl), fun _ hp => (List.not_mem_nil hp).elim⟩
    · exact fun _ hp => (List.not_mem_nil hp).elim
  · cases h
theorem pyxlaw16_RateKnown.sound (k : Nat) : Sound Try.prog DD 11 (pyxlaw16_RateKnown.D k) :=
  fun_sound (E := pyxlaw16_RateKnown.E k) (fn := Try.f11) (c := codeOf Try.f11) (pyxlaw16_RateKnown.ok k) mixed rfl Try.func11 (by kernel_rfl) (by kernel_rfl) (allL_of (l := []) (by kernel_rfl) allL_nil) (pyxlaw16_RateKnown.D k) pyxlaw16_RateKnown.mk pyxlaw16_RateKnown.re (by kernel_rfl) (by kernel_rfl) pyxlaw16_RateKnown.fit pyxlaw16_RateKnown.fitR (pyxlaw16_RateKnown.eq k)
end
end Go.Proofs.Ytlaogfkgkpgofaa
