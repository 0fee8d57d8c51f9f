import Derived.Test.YtlaogfkgkpgofaaF2
/-! Functions, told; their equations with the evaluator; that they are sound. Written by gen.py. -/
namespace Go.Proofs.Ytlaogfkgkpgofaa
open Go Go.Ev
noncomputable section
set_option linter.unusedVariables false
set_option linter.unusedSimpArgs false
set_option maxRecDepth 100000
/-! ### pyx/dec.Of: function 96 -/
noncomputable def dec_Of.f (k : Nat) (a0 : Int) (a1 : Int) : Option Sapi_Dec := ((cond (decide (a0 < 0)) (some (a0, a1, IntKind.wrap .u64 (0 - (IntKind.wrap .u64 (a0))), false, 0, 0, 0)) (some (a0, a1, IntKind.wrap .u64 (a0), false, 0, 0, 0))) : Option (Int × Int × Int × Bool × Int × Int × Int)).bind fun y8 => ((limb_Of.f k y8.2.2.1).bind fun t9 => (some (⟨decide (y8.1 < 0), (t9.1, t9.2), (if (if 9 < y8.2.1 then 9 else y8.2.1) > 0 then (if 9 < y8.2.1 then 9 else y8.2.1) else 0)⟩ : Sapi_Dec)))
noncomputable def dec_Of.un (s : St U) : Option (Int × Int) := match s.get 0, s.get 1 with | .flat (.int .i64 x1), .flat (.int .i64 x2) => some (x1, x2) | _, _ => none
noncomputable def dec_Of.mk (x : (Int × Int)) : St U := ⟨[(0, .flat (.int .i64 x.1)), (1, .flat (.int .i64 x.2))], []⟩
noncomputable def dec_Of.fin (y : Sapi_Dec) : St U := ⟨[(0, .agg [.flat (.bool y.f_Neg), .flat (.int .u64 y.f_C.1), .flat (.int .u64 y.f_C.2), .flat (.int .i64 y.f_Scale)])], []⟩
noncomputable def dec_Of.D (k : Nat) : FDen U := { X := (Int × Int), Y := Sapi_Dec, nt := 20, gh := [], un := dec_Of.un, f := fun x => dec_Of.f k (x.1) (x.2), fin := dec_Of.fin, cl := true, clo := fun _ _ => rfl }
noncomputable def dec_Of.re (s : St U) : Option Sapi_Dec := match s.get 0 with | .agg [.flat (.bool x1), .flat (.int .u64 x2), .flat (.int .u64 x3), .flat (.int .i64 x4)] => some (⟨x1, (x2, x3), x4⟩ : Sapi_Dec) | _ => none
noncomputable def dec_Of.j3001.fin (y : (Int × Int × Int × Bool × Int × Int × Int)) : Out U := match y with | (x1, x2, x7, x3, x4, x5, x6) => .norm ⟨[(4, .ptr 4 0), (0, .flat (.int .i64 x1)), (1, .flat (.int .i64 x2)), (5, .flat (.int .u64 x7))], [(4, .lit [.flat (.bool x3), .flat (.int .u64 x4), .flat (.int .u64 x5), .flat (.int .i64 x6)])]⟩
noncomputable def dec_Of.j3001.finK {ρ : Type} (y : (Int × Int × Int × Bool × Int × Int × Int)) (K : Out U → Option ρ) : Option ρ := match y with | (x1, x2, x7, x3, x4, x5, x6) => K (.norm ⟨[(4, .ptr 4 0), (0, .flat (.int .i64 x1)), (1, .flat (.int .i64 x2)), (5, .flat (.int .u64 x7))], [(4, .lit [.flat (.bool x3), .flat (.int .u64 x4), .flat (.int .u64 x5), .flat (.int .i64 x6)])]⟩)
theorem dec_Of.j3001.finK_eq {ρ : Type} (y : (Int × Int × Int × Bool × Int × Int × Int)) (K : Out U → Option ρ) : dec_Of.j3001.finK y K = K (dec_Of.j3001.fin y) := by
  unfold dec_Of.j3001.finK dec_Of.j3001.fin
  first | rfl | (split <;> rfl)
noncomputable def dec_Of.j3001.re : Out U → Option ((Int × Int × Int × Bool × Int × Int × Int)) | .norm s => (match s.get 4, s.get 0, s.get 1, s.get 5, lk s.o 4 with | .ptr 4 0, .flat (.int .i64 x1), .flat (.int .i64 x2), .flat (.int .u64 x7), some (.lit [.flat (.bool x3), .flat (.int .u64 x4), .flat (.int .u64 x5), .flat (.int .i64 x6)]) => some (x1, x2, x7, x3, x4, x5, x6) | _, _, _, _, _ => none) | _ => none
noncomputable def dec_Of.j3001.J : JDen U := { Y := (Int × Int × Int × Bool × Int × Int × Int), re := dec_Of.j3001.re, fin := dec_Of.j3001.fin, finK := dec_Of.j3001.finK, finK_eq := dec_Of.j3001.finK_eq }
theorem dec_Of.j3001.fit (o : Out U) (y : (Int × Int × Int × Bool × Int × Int × Int)) (h : dec_Of.j3001.re o = some y) : FitsO o (dec_Of.j3001.fin y) := by
  unfold dec_Of.j3001.re at h
  split at h
  · split at h
    · cases h
      refine fitsO_norm (fits_ren [] ?_ ?_ ren_nil rfl)
      · exact List.forall_mem_cons.2 ⟨FV.one (FV.ptr (by assumption)), List.forall_mem_cons.2 ⟨FV.one (FV.same (by assumption) rfl), List.forall_mem_cons.2 ⟨FV.one (FV.same (by assumption) rfl), List.forall_mem_cons.2 ⟨FV.one (FV.same (by assumption) rfl), fun _ hp => (List.not_mem_nil hp).elim⟩⟩⟩⟩
      · exact List.forall_mem_cons.2 ⟨(FO.same (show lk (St.o _) 4 = some _ from by assumption) rfl), fun _ hp => (List.not_mem_nil hp).elim⟩
    · cases h
  · cases h
noncomputable def dec_Of.jl : List (Nat × JDen U) := [(3001, dec_Of.j3001.J)]
noncomputable def dec_Of.fl (k : Nat) : List (Nat × FDen U) := [(129, limb_Of.D k)]
noncomputable def dec_Of.ll (k : Nat) : List (Nat × LDen U) := []
noncomputable def dec_Of.E (k : Nat) : Env U := { P := Try.prog, D := DD, fd := lk (dec_Of.fl k), ld := lk (dec_Of.ll k), jd := lk dec_Of.jl, mode := lk [], elc := lk ec, mpc := lk mc, rts := Try.f96.resultTypes.toList, dyn := fun t => false, vecs := fun d => false, results := Try.f96.results.toList, gh := [], own := false, io := fun g i => false }
theorem dec_Of.ok (k : Nat) : EnvOk (dec_Of.E k) := envOk lawful (dec_Of.fl k) (dec_Of.ll k) dec_Of.jl _ _ _ _ _ _ _ _ _ _ (by
  intro p hp
  simp only [dec_Of.fl, List.mem_cons, List.not_mem_nil, or_false] at hp
  rcases hp with rfl
  · exact ⟨limb_Of.sound k, enter_of Try.func129 (by kernel_rfl) (by kernel_rfl)⟩) (by
  intro p hp
  simp only [dec_Of.jl, List.mem_cons, List.not_mem_nil, or_false] at hp
  rcases hp with rfl
  · exact dec_Of.j3001.fit)
theorem dec_Of.eq (k : Nat) (x : (Int × Int)) : runF (dec_Of.E k) (codeOf Try.f96) (dec_Of.mk x) dec_Of.re = (dec_Of.D k).f x := by kernel_rfl
theorem dec_Of.fit (s : St U) (x : (Int × Int)) (h : dec_Of.un s = some x) : Fits s (dec_Of.mk x) := by
  unfold dec_Of.un at h
  split at h
  · cases h
    refine fits_ren [] ?_ ?_ ren_nil rfl
    · exact List.forall_mem_cons.2 ⟨FV.one (FV.same (by assumption) rfl), List.forall_mem_cons.2 ⟨FV.one (FV.same (by assumption) rfl), fun _ hp => (List.not_mem_nil hp).elim⟩⟩
    · exact fun _ hp => (List.not_mem_nil hp).elim
  · cases h
theorem dec_Of.fitR (s : St U) (y : Sapi_Dec) (h : dec_Of.re s = some y) : Fits s (dec_Of.fin y) := by
  unfold dec_Of.re at h
  split at h
  · cases h
    refine fits_ren [] ?_ ?_ ren_nil rfl
    · exact List.forall_mem_cons.2 ⟨FV.one (FV.same (by assumption) rfl), fun _ hp => (List.not_mem_nil hp).elim⟩
    · exact fun _ hp => (List.not_mem_nil hp).elim
  · cases h
theorem dec_Of.sound (k : Nat) : Sound Try.prog DD 96 (dec_Of.D k) :=
  fun_sound (E := dec_Of.E k) (fn := Try.f96) (c := codeOf Try.f96) (dec_Of.ok k) mixed rfl Try.func96 (by kernel_rfl) (by kernel_rfl) (allL_of (l := []) (by kernel_rfl) allL_nil) (dec_Of.D k) dec_Of.mk dec_Of.re (by kernel_rfl) (by kernel_rfl) dec_Of.fit dec_Of.fitR (dec_Of.eq k)
/-! ### pyx/dec.wide: function 83 -/
noncomputable def dec_wide.f (k : Nat) (a0 : Sapi_Dec) (a1 : Int) : Option (Int × Int × Int × Int) := (dec_ten.f k (IntKind.wrap .i64 (a1 - a0.f_Scale))).bind fun t1 => ((limb_Mul.f k (a0.f_C.1, a0.f_C.2) (t1.1, t1.2)).bind fun t2 => (some (t2.1, t2.2.1, t2.2.2.1, t2.2.2.2)))
noncomputable def dec_wide.un (s : St U) : Option (Sapi_Dec × Int) := match s.get 0, s.get 1 with | .agg [.flat (.bool x1), .flat (.int .u64 x2), .flat (.int .u64 x3), .flat (.int .i64 x4)], .flat (.int .i64 x5) => some ((⟨x1, (x2, x3), x4⟩ : Sapi_Dec), x5) | _, _ => none
noncomputable def dec_wide.mk (x : (Sapi_Dec × Int)) : St U := ⟨[(0, .agg [.flat (.bool x.1.f_Neg), .flat (.int .u64 x.1.f_C.1), .flat (.int .u64 x.1.f_C.2), .flat (.int .i64 x.1.f_Scale)]), (1, .flat (.int .i64 x.2))], []⟩
noncomputable def dec_wide.fin (y : (Int × Int × Int × Int)) : St U := ⟨[(0, .agg [.flat (.int .u64 y.1), .flat (.int .u64 y.2.1), .flat (.int .u64 y.2.2.1), .flat (.int .u64 y.2.2.2)])], []⟩
noncomputable def dec_wide.D (k : Nat) : FDen U := { X := (Sapi_Dec × Int), Y := (Int × Int × Int × Int), nt := 13, gh := [], un := dec_wide.un, f := fun x => dec_wide.f k (x.1) (x.2), fin := dec_wide.fin, cl := true, clo := fun _ _ => rfl }
noncomputable def dec_wide.re (s : St U) : Option (Int × Int × Int × Int) := match s.get 0 with | .agg [.flat (.int .u64 x1), .flat (.int .u64 x2), .flat (.int .u64 x3), .flat (.int .u64 x4)] => some (x1, x2, x3, x4) | _ => none
noncomputable def dec_wide.jl : List (Nat × JDen U) := []
noncomputable def dec_wide.fl (k : Nat) : List (Nat × FDen U) := [(124, dec_ten.D k), (109, limb_Mul.D k)]
noncomputable def dec_wide.ll (k : Nat) : List (Nat × LDen U) := []
noncomputable def dec_wide.E (k : Nat) : Env U := { P := Try.prog, D := DD, fd := lk (dec_wide.fl k), ld := lk (dec_wide.ll k), jd := lk dec_wide.jl, mode := lk [], elc := lk ec, mpc := lk mc, rts := Try.f83.resultTypes.toList, dyn := fun t => false, vecs := fun d => false, results := Try.f83.results.toList, gh := [], own := false, io := fun g i => false }
theorem dec_wide.ok (k : Nat) : EnvOk (dec_wide.E k) := envOk lawful (dec_wide.fl k) (dec_wide.ll k) dec_wide.jl _ _ _ _ _ _ _ _ _ _ (by
  intro p hp
  simp only [dec_wide.fl, List.mem_cons, List.not_mem_nil, or_false] at hp
  rcases hp with rfl | rfl
  · exact ⟨dec_ten.sound k, enter_of Try.func124 (by kernel_rfl) (by kernel_rfl)⟩
  · exact ⟨limb_Mul.sound k, enter_of Try.func109 (by kernel_rfl) (by kernel_rfl)⟩) (by
  intro p hp
  simp [dec_wide.jl] at hp)
theorem dec_wide.eq (k : Nat) (x : (Sapi_Dec × Int)) : runF (dec_wide.E k) (codeOf Try.f83) (dec_wide.mk x) dec_wide.re = (dec_wide.D k).f x := by kernel_rfl
theorem dec_wide.fit (s : St U) (x : (Sapi_Dec × Int)) (h : dec_wide.un s = some x) : Fits s (dec_wide.mk x) := by
  unfold dec_wide.un at h
  split at h
  · cases h
    refine fits_ren [] ?_ ?_ ren_nil rfl
    · exact List.forall_mem_cons.2 ⟨FV.one (FV.same (by assumption) rfl), List.forall_mem_cons.2 ⟨FV.one (FV.same (by assumption) rfl), fun _ hp => (List.not_mem_nil hp).elim⟩⟩
    · exact fun _ hp => (List.not_mem_nil hp).elim
  · cases h
theorem dec_wide.fitR (s : St U) (y : (Int × Int × Int × Int)) (h : dec_wide.re s = some y) : Fits s (dec_wide.fin y) := by
  unfold dec_wide.re at h
  split at h
  · cases h
    refine fits_ren [] ?_ ?_ ren_nil rfl
    · exact List.forall_mem_cons.2 ⟨FV.one (FV.same (by assumption) rfl), fun _ hp => (List.not_mem_nil hp).elim⟩
    · exact fun _ hp => (List.not_mem_nil hp).elim
  · cases h
theorem dec_wide.sound (k : Nat) : Sound Try.prog DD 83 (dec_wide.D k) :=
  fun_sound (E := dec_wide.E k) (fn := Try.f83) (c := codeOf Try.f83) (dec_wide.ok k) mixed rfl Try.func83 (by kernel_rfl) (by kernel_rfl) (allL_of (l := []) (by kernel_rfl) allL_nil) (dec_wide.D k) dec_wide.mk dec_wide.re (by kernel_rfl) (by kernel_rfl) dec_wide.fit dec_wide.fitR (dec_wide.eq k)
/-! ### pyx/dec.halves: function 126 -/
noncomputable def dec_halves.f (k : Nat) (a0 : (Int × Int × Int × Int)) : Option ((Int × Int) × (Int × Int)) := some ((a0.1, a0.2.1), (a0.2.2.1, a0.2.2.2))
noncomputable def dec_halves.un (s : St U) : Option (Int × Int × Int × Int) := match s.get 0 with | .agg [.flat (.int .u64 x1), .flat (.int .u64 x2), .flat (.int .u64 x3), .flat (.int .u64 x4)] => some (x1, x2, x3, x4) | _ => none
noncomputable def dec_halves.mk (x : (Int × Int × Int × Int)) : St U := ⟨[(0, .agg [.flat (.int .u64 x.1), .flat (.int .u64 x.2.1), .flat (.int .u64 x.2.2.1), .flat (.int .u64 x.2.2.2)])], []⟩
noncomputable def dec_halves.fin (y : ((Int × Int) × (Int × Int))) : St U := ⟨[(0, .tup [.agg [.flat (.int .u64 y.1.1), .flat (.int .u64 y.1.2)], .agg [.flat (.int .u64 y.2.1), .flat (.int .u64 y.2.2)]])], []⟩
noncomputable def dec_halves.D (k : Nat) : FDen U := { X := (Int × Int × Int × Int), Y := ((Int × Int) × (Int × Int)), nt := 14, gh := [], un := dec_halves.un, f := fun x => dec_halves.f k (x), fin := dec_halves.fin, cl := true, clo := fun _ _ => rfl }
noncomputable def dec_halves.re (s : St U) : Option ((Int × Int) × (Int × Int)) := match s.get 0 with | .tup [.agg [.flat (.int .u64 x1), .flat (.int .u64 x2)], .agg [.flat (.int .u64 x3), .flat (.int .u64 x4)]] => some ((x1, x2), (x3, x4)) | _ => none
noncomputable def dec_halves.jl : List (Nat × JDen U) := []
noncomputable def dec_halves.fl (k : Nat) : List (Nat × FDen U) := []
noncomputable def dec_halves.ll (k : Nat) : List (Nat × LDen U) := []
noncomputable def dec_halves.E (k : Nat) : Env U := { P := Try.prog, D := DD, fd := lk (dec_halves.fl k), ld := lk (dec_halves.ll k), jd := lk dec_halves.jl, mode := lk [], elc := lk ec, mpc := lk mc, rts := Try.f126.resultTypes.toList, dyn := fun t => false, vecs := fun d => false, results := Try.f126.results.toList, gh := [], own := false, io := fun g i => false }
theorem dec_halves.ok (k : Nat) : EnvOk (dec_halves.E k) := envOk lawful (dec_halves.fl k) (dec_halves.ll k) dec_halves.jl _ _ _ _ _ _ _ _ _ _ (by
  intro p hp
  simp [dec_halves.fl] at hp) (by
  intro p hp
  simp [dec_halves.jl] at hp)
theorem dec_halves.eq (k : Nat) (x : (Int × Int × Int × Int)) : runF (dec_halves.E k) (codeOf Try.f126) (dec_halves.mk x) dec_halves.re = (dec_halves.D k).f x := by kernel_rfl
theorem dec_halves.fit (s : St U) (x : (Int × Int × Int × Int)) (h : dec_halves.un s = some x) : Fits s (dec_halves.mk x) := by
  unfold dec_halves.un at h
  split at h
  · cases h
    refine fits_ren [] ?_ ?_ ren_nil rfl
    · exact List.forall_mem_cons.2 ⟨FV.one (FV.same (by assumption) rfl), fun _ hp => (List.not_mem_nil hp).elim⟩
    · exact fun _ hp => (List.not_mem_nil hp).elim
  · cases h
theorem dec_halves.fitR (s : St U) (y : ((Int × Int) × (Int × Int))) (h : dec_halves.re s = some y) : Fits s (dec_halves.fin y) := by
  unfold dec_halves.re at h
  split at h
  · cases h
    refine fits_ren [] ?_ ?_ ren_nil rfl
    · exact List.forall_mem_cons.2 ⟨FV.tup (by assumption) (FTs.cons (FVA.one (FV.same rfl rfl)) (FTs.cons (FVA.one (FV.same rfl rfl)) (FTs.nil))), fun _ hp => (List.not_mem_nil hp).elim⟩
    · exact fun _ hp => (List.not_mem_nil hp).elim
  · cases h
theorem dec_halves.sound (k : Nat) : Sound Try.prog DD 126 (dec_halves.D k) :=
  fun_sound (E := dec_halves.E k) (fn := Try.f126) (c := codeOf Try.f126) (dec_halves.ok k) mixed rfl Try.func126 (by kernel_rfl) (by kernel_rfl) (allL_of (l := []) (by kernel_rfl) allL_nil) (dec_halves.D k) dec_halves.mk dec_halves.re (by kernel_rfl) (by kernel_rfl) dec_halves.fit dec_halves.fitR (dec_halves.eq k)
/-! ### pyx/limb.plus: function 151 -/
noncomputable def limb_plus.f (k : Nat) (a0 : Int) (a1 : Int) (a2 : Int) : Option (Int × Int) := some (IntKind.wrap .u64 ((IntKind.wrap .u64 (a0 + a1)) + a2), Int.fdiv (bits .or .u64 (bits .and .u64 a0 a1) (bits .andNot .u64 (bits .or .u64 a0 a1) (IntKind.wrap .u64 ((IntKind.wrap .u64 (a0 + a1)) + a2)))) (2 ^ 63))
noncomputable def limb_plus.un (s : St U) : Option (Int × Int × Int) := match s.get 0, s.get 1, s.get 2 with | .flat (.int .u64 x1), .flat (.int .u64 x2), .flat (.int .u64 x3) => some (x1, x2, x3) | _, _, _ => none
noncomputable def limb_plus.mk (x : (Int × Int × Int)) : St U := ⟨[(0, .flat (.int .u64 x.1)), (1, .flat (.int .u64 x.2.1)), (2, .flat (.int .u64 x.2.2))], []⟩
noncomputable def limb_plus.fin (y : (Int × Int)) : St U := ⟨[(0, .tup [.flat (.int .u64 y.1), .flat (.int .u64 y.2)])], []⟩
noncomputable def limb_plus.D (k : Nat) : FDen U := { X := (Int × Int × Int), Y := (Int × Int), nt := 25, gh := [], un := limb_plus.un, f := fun x => limb_plus.f k (x.1) (x.2.1) (x.2.2), fin := limb_plus.fin, cl := true, clo := fun _ _ => rfl }
noncomputable def limb_plus.re (s : St U) : Option (Int × Int) := match s.get 0 with | .tup [.flat (.int .u64 x1), .flat (.int .u64 x2)] => some (x1, x2) | _ => none
noncomputable def limb_plus.jl : List (Nat × JDen U) := []
noncomputable def limb_plus.fl (k : Nat) : List (Nat × FDen U) := []
noncomputable def limb_plus.ll (k : Nat) : List (Nat × LDen U) := []
noncomputable def limb_plus.E (k : Nat) : Env U := { P := Try.prog, D := DD, fd := lk (limb_plus.fl k), ld := lk (limb_plus.ll k), jd := lk limb_plus.jl, mode := lk [], elc := lk ec, mpc := lk mc, rts := Try.f151.resultTypes.toList, dyn := fun t => false, vecs := fun d => false, results := Try.f151.results.toList, gh := [], own := false, io := fun g i => false }
theorem limb_plus.ok (k : Nat) : EnvOk (limb_plus.E k) := envOk lawful (limb_plus.fl k) (limb_plus.ll k) limb_plus.jl _ _ _ _ _ _ _ _ _ _ (by
  intro p hp
  simp [limb_plus.fl] at hp) (by
  intro p hp
  simp [limb_plus.jl] at hp)
theorem limb_plus.eq (k : Nat) (x : (Int × Int × Int)) : runF (limb_plus.E k) (codeOf Try.f151) (limb_plus.mk x) limb_plus.re = (limb_plus.D k).f x := by kernel_rfl
theorem limb_plus.fit (s : St U) (x : (Int × Int × Int)) (h : limb_plus.un s = some x) : Fits s (limb_plus.mk x) := by
  unfold limb_plus.un at h
  split at h
  · cases h
    refine fits_ren [] ?_ ?_ ren_nil rfl
    · exact List.forall_mem_cons.2 ⟨FV.one (FV.same (by assumption) rfl), List.forall_mem_cons.2 ⟨FV.one (FV.same (by assumption) rfl), List.forall_mem_cons.2 ⟨FV.one (FV.same (by assumption) rfl), fun _ hp => (List.not_mem_nil hp).elim⟩⟩⟩
    · exact fun _ hp => (List.not_mem_nil hp).elim
  · cases h
theorem limb_plus.fitR (s : St U) (y : (Int × Int)) (h : limb_plus.re s = some y) : Fits s (limb_plus.fin y) := by
  unfold limb_plus.re at h
  split at h
  · cases h
    refine fits_ren [] ?_ ?_ ren_nil rfl
    · exact List.forall_mem_cons.2 ⟨FV.tup (by assumption) (FTs.cons (FVA.one (FV.same rfl rfl)) (FTs.cons (FVA.one (FV.same rfl rfl)) (FTs.nil))), fun _ hp => (List.not_mem_nil hp).elim⟩
    · exact fun _ hp => (List.not_mem_nil hp).elim
  · cases h
theorem limb_plus.sound (k : Nat) : Sound Try.prog DD 151 (limb_plus.D k) :=
  fun_sound (E := limb_plus.E k) (fn := Try.f151) (c := codeOf Try.f151) (limb_plus.ok k) mixed rfl Try.func151 (by kernel_rfl) (by kernel_rfl) (allL_of (l := []) (by kernel_rfl) allL_nil) (limb_plus.D k) limb_plus.mk limb_plus.re (by kernel_rfl) (by kernel_rfl) limb_plus.fit limb_plus.fitR (limb_plus.eq k)
/-! ### pyx/limb.Add: function 127 -/
noncomputable def limb_Add.f (k : Nat) (a0 : (Int × Int)) (a1 : (Int × Int)) : Option ((Int × Int) × Bool) := (limb_plus.f k a0.1 a1.1 0).bind fun t1 => ((limb_plus.f k a0.2 a1.2 t1.2).bind fun t2 => (cond (decide (t2.2 > 0)) (some ((0, 0), false)) (some ((t1.1, t2.1), true))))
noncomputable def limb_Add.un (s : St U) : Option ((Int × Int) × (Int × Int)) := match s.get 0, s.get 1 with | .agg [.flat (.int .u64 x1), .flat (.int .u64 x2)], .agg [.flat (.int .u64 x3), .flat (.int .u64 x4)] => some ((x1, x2), (x3, x4)) | _, _ => none
noncomputable def limb_Add.mk (x : ((Int × Int) × (Int × Int))) : St U := ⟨[(0, .agg [.flat (.int .u64 x.1.1), .flat (.int .u64 x.1.2)]), (1, .agg [.flat (.int .u64 x.2.1), .flat (.int .u64 x.2.2)])], []⟩
noncomputable def limb_Add.fin (y : ((Int × Int) × Bool)) : St U := ⟨[(0, .tup [.agg [.flat (.int .u64 y.1.1), .flat (.int .u64 y.1.2)], .flat (.bool y.2)])], []⟩
noncomputable def limb_Add.D (k : Nat) : FDen U := { X := ((Int × Int) × (Int × Int)), Y := ((Int × Int) × Bool), nt := 33, gh := [], un := limb_Add.un, f := fun x => limb_Add.f k (x.1) (x.2), fin := limb_Add.fin, cl := true, clo := fun _ _ => rfl }
noncomputable def limb_Add.re (s : St U) : Option ((Int × Int) × Bool) := match s.get 0 with | .tup [.agg [.flat (.int .u64 x1), .flat (.int .u64 x2)], .flat (.bool x3)] => some ((x1, x2), x3) | _ => none
noncomputable def limb_Add.jl : List (Nat × JDen U) := []
noncomputable def limb_Add.fl (k : Nat) : List (Nat × FDen U) := [(151, limb_plus.D k)]
noncomputable def limb_Add.ll (k : Nat) : List (Nat × LDen U) := []
noncomputable def limb_Add.E (k : Nat) : Env U := { P := Try.prog, D := DD, fd := lk (limb_Add.fl k), ld := lk (limb_Add.ll k), jd := lk limb_Add.jl, mode := lk [], elc := lk ec, mpc := lk mc, rts := Try.f127.resultTypes.toList, dyn := fun t => false, vecs := fun d => false, results := Try.f127.results.toList, gh := [], own := false, io := fun g i => false }
theorem limb_Add.ok (k : Nat) : EnvOk (limb_Add.E k) := envOk lawful (limb_Add.fl k) (limb_Add.ll k) limb_Add.jl _ _ _ _ _ _ _ _ _ _ (by
  intro p hp
  simp only [limb_Add.fl, List.mem_cons, List.not_mem_nil, or_false] at hp
  rcases hp with rfl
  · exact ⟨limb_plus.sound k, enter_of Try.func151 (by kernel_rfl) (by kernel_rfl)⟩) (by
  intro p hp
  simp [limb_Add.jl] at hp)
theorem limb_Add.eq (k : Nat) (x : ((Int × Int) × (Int × Int))) : runF (limb_Add.E k) (codeOf Try.f127) (limb_Add.mk x) limb_Add.re = (limb_Add.D k).f x := by kernel_rfl
theorem limb_Add.fit (s : St U) (x : ((Int × Int) × (Int × Int))) (h : limb_Add.un s = some x) : Fits s (limb_Add.mk x) := by
  unfold limb_Add.un at h
  split at h
  · cases h
    refine fits_ren [] ?_ ?_ ren_nil rfl
    · exact List.forall_mem_cons.2 ⟨FV.one (FV.same (by assumption) rfl), List.forall_mem_cons.2 ⟨FV.one (FV.same (by assumption) rfl), fun _ hp => (List.not_mem_nil hp).elim⟩⟩
    · exact fun _ hp => (List.not_mem_nil hp).elim
  · cases h
theorem limb_Add.fitR (s : St U) (y : ((Int × Int) × Bool)) (h : limb_Add.re s = some y) : Fits s (limb_Add.fin y) := by
  unfold limb_Add.re at h
  split at h
  · cases h
    refine fits_ren [] ?_ ?_ ren_nil rfl
    · exact List.forall_mem_cons.2 ⟨FV.tup (by assumption) (FTs.cons (FVA.one (FV.same rfl rfl)) (FTs.cons (FVA.one (FV.same rfl rfl)) (FTs.nil))), fun _ hp => (List.not_mem_nil hp).elim⟩
    · exact fun _ hp => (List.not_mem_nil hp).elim
  · cases h
theorem limb_Add.sound (k : Nat) : Sound Try.prog DD 127 (limb_Add.D k) :=
  fun_sound (E := limb_Add.E k) (fn := Try.f127) (c := codeOf Try.f127) (limb_Add.ok k) mixed rfl Try.func127 (by kernel_rfl) (by kernel_rfl) (allL_of (l := []) (by kernel_rfl) allL_nil) (limb_Add.D k) limb_Add.mk limb_Add.re (by kernel_rfl) (by kernel_rfl) limb_Add.fit limb_Add.fitR (limb_Add.eq k)
/-! ### pyx/limb.less: function 152 -/
noncomputable def limb_less.f (k : Nat) (a0 : Int) (a1 : Int) (a2 : Int) : Option (Int × Int) := some (IntKind.wrap .u64 ((IntKind.wrap .u64 (a0 - a1)) - a2), Int.fdiv (bits .or .u64 (bits .and .u64 (bits .xor .u64 18446744073709551615 a0) a1) (bits .and .u64 (bits .or .u64 (bits .xor .u64 18446744073709551615 a0) a1) (IntKind.wrap .u64 ((IntKind.wrap .u64 (a0 - a1)) - a2)))) (2 ^ 63))
noncomputable def limb_less.un (s : St U) : Option (Int × Int × Int) := match s.get 0, s.get 1, s.get 2 with | .flat (.int .u64 x1), .flat (.int .u64 x2), .flat (.int .u64 x3) => some (x1, x2, x3) | _, _, _ => none
noncomputable def limb_less.mk (x : (Int × Int × Int)) : St U := ⟨[(0, .flat (.int .u64 x.1)), (1, .flat (.int .u64 x.2.1)), (2, .flat (.int .u64 x.2.2))], []⟩
noncomputable def limb_less.fin (y : (Int × Int)) : St U := ⟨[(0, .tup [.flat (.int .u64 y.1), .flat (.int .u64 y.2)])], []⟩
noncomputable def limb_less.D (k : Nat) : FDen U := { X := (Int × Int × Int), Y := (Int × Int), nt := 27, gh := [], un := limb_less.un, f := fun x => limb_less.f k (x.1) (x.2.1) (x.2.2), fin := limb_less.fin, cl := true, clo := fun _ _ => rfl }
noncomputable def limb_less.re (s : St U) : Option (Int × Int) := match s.get 0 with | .tup [.flat (.int .u64 x1), .flat (.int .u64 x2)] => some (x1, x2) | _ => none
noncomputable def limb_less.jl : List (Nat × JDen U) := []
noncomputable def limb_less.fl (k : Nat) : List (Nat × FDen U) := []
noncomputable def limb_less.ll (k : Nat) : List (Nat × LDen U) := []
noncomputable def limb_less.E (k : Nat) : Env U := { P := Try.prog, D := DD, fd := lk (limb_less.fl k), ld := lk (limb_less.ll k), jd := lk limb_less.jl, mode := lk [], elc := lk ec, mpc := lk mc, rts := Try.f152.resultTypes.toList, dyn := fun t => false, vecs := fun d => false, results := Try.f152.results.toList, gh := [], own := false, io := fun g i => false }
theorem limb_less.ok (k : Nat) : EnvOk (limb_less.E k) := envOk lawful (limb_less.fl k) (limb_less.ll k) limb_less.jl _ _ _ _ _ _ _ _ _ _ (by
  intro p hp
  simp [limb_less.fl] at hp) (by
  intro p hp
  simp [limb_less.jl] at hp)
theorem limb_less.eq (k : Nat) (x : (Int × Int × Int)) : runF (limb_less.E k) (codeOf Try.f152) (limb_less.mk x) limb_less.re = (limb_less.D k).f x := by kernel_rfl
theorem limb_less.fit (s : St U) (x : (Int × Int × Int)) (h : limb_less.un s = some x) : Fits s (limb_less.mk x) := by
  unfold limb_less.un at h
  split at h
  · cases h
    refine fits_ren [] ?_ ?_ ren_nil rfl
    · exact List.forall_mem_cons.2 ⟨FV.one (FV.same (by assumption) rfl), List.forall_mem_cons.2 ⟨FV.one (FV.same (by assumption) rfl), List.forall_mem_cons.2 ⟨FV.one (FV.same (by assumption) rfl), fun _ hp => (List.not_mem_nil hp).elim⟩⟩⟩
    · exact fun _ hp => (List.not_mem_nil hp).elim
  · cases h
theorem limb_less.fitR (s : St U) (y : (Int × Int)) (h : limb_less.re s = some y) : Fits s (limb_less.fin y) := by
  unfold limb_less.re at h
  split at h
  · cases h
    refine fits_ren [] ?_ ?_ ren_nil rfl
    · exact List.forall_mem_cons.2 ⟨FV.tup (by assumption) (FTs.cons (FVA.one (FV.same rfl rfl)) (FTs.cons (FVA.one (FV.same rfl rfl)) (FTs.nil))), fun _ hp => (List.not_mem_nil hp).elim⟩
    · exact fun _ hp => (List.not_mem_nil hp).elim
  · cases h
theorem limb_less.sound (k : Nat) : Sound Try.prog DD 152 (limb_less.D k) :=
  fun_sound (E := limb_less.E k) (fn := Try.f152) (c := codeOf Try.f152) (limb_less.ok k) mixed rfl Try.func152 (by kernel_rfl) (by kernel_rfl) (allL_of (l := []) (by kernel_rfl) allL_nil) (limb_less.D k) limb_less.mk limb_less.re (by kernel_rfl) (by kernel_rfl) limb_less.fit limb_less.fitR (limb_less.eq k)
/-! ### pyx/limb.Sub: function 128 -/
noncomputable def limb_Sub.f (k : Nat) (a0 : (Int × Int)) (a1 : (Int × Int)) : Option ((Int × Int) × Bool) := (limb_less.f k a0.1 a1.1 0).bind fun t1 => ((limb_less.f k a0.2 a1.2 t1.2).bind fun t2 => (cond (decide (t2.2 > 0)) (some ((0, 0), false)) (some ((t1.1, t2.1), true))))
noncomputable def limb_Sub.un (s : St U) : Option ((Int × Int) × (Int × Int)) := match s.get 0, s.get 1 with | .agg [.flat (.int .u64 x1), .flat (.int .u64 x2)], .agg [.flat (.int .u64 x3), .flat (.int .u64 x4)] => some ((x1, x2), (x3, x4)) | _, _ => none
noncomputable def limb_Sub.mk (x : ((Int × Int) × (Int × Int))) : St U := ⟨[(0, .agg [.flat (.int .u64 x.1.1), .flat (.int .u64 x.1.2)]), (1, .agg [.flat (.int .u64 x.2.1), .flat (.int .u64 x.2.2)])], []⟩
noncomputable def limb_Sub.fin (y : ((Int × Int) × Bool)) : St U := ⟨[(0, .tup [.agg [.flat (.int .u64 y.1.1), .flat (.int .u64 y.1.2)], .flat (.bool y.2)])], []⟩
noncomputable def limb_Sub.D (k : Nat) : FDen U := { X := ((Int × Int) × (Int × Int)), Y := ((Int × Int) × Bool), nt := 33, gh := [], un := limb_Sub.un, f := fun x => limb_Sub.f k (x.1) (x.2), fin := limb_Sub.fin, cl := true, clo := fun _ _ => rfl }
noncomputable def limb_Sub.re (s : St U) : Option ((Int × Int) × Bool) := match s.get 0 with | .tup [.agg [.flat (.int .u64 x1), .flat (.int .u64 x2)], .flat (.bool x3)] => some ((x1, x2), x3) | _ => none
noncomputable def limb_Sub.jl : List (Nat × JDen U) := []
noncomputable def limb_Sub.fl (k : Nat) : List (Nat × FDen U) := [(152, limb_less.D k)]
noncomputable def limb_Sub.ll (k : Nat) : List (Nat × LDen U) := []
noncomputable def limb_Sub.E (k : Nat) : Env U := { P := Try.prog, D := DD, fd := lk (limb_Sub.fl k), ld := lk (limb_Sub.ll k), jd := lk limb_Sub.jl, mode := lk [], elc := lk ec, mpc := lk mc, rts := Try.f128.resultTypes.toList, dyn := fun t => false, vecs := fun d => false, results := Try.f128.results.toList, gh := [], own := false, io := fun g i => false }
theorem limb_Sub.ok (k : Nat) : EnvOk (limb_Sub.E k) := envOk lawful (limb_Sub.fl k) (limb_Sub.ll k) limb_Sub.jl _ _ _ _ _ _ _ _ _ _ (by
  intro p hp
  simp only [limb_Sub.fl, List.mem_cons, List.not_mem_nil, or_false] at hp
  rcases hp with rfl
  · exact ⟨limb_less.sound k, enter_of Try.func152 (by kernel_rfl) (by kernel_rfl)⟩) (by
  intro p hp
  simp [limb_Sub.jl] at hp)
theorem limb_Sub.eq (k : Nat) (x : ((Int × Int) × (Int × Int))) : runF (limb_Sub.E k) (codeOf Try.f128) (limb_Sub.mk x) limb_Sub.re = (limb_Sub.D k).f x := by kernel_rfl
theorem limb_Sub.fit (s : St U) (x : ((Int × Int) × (Int × Int))) (h : limb_Sub.un s = some x) : Fits s (limb_Sub.mk x) := by
  unfold limb_Sub.un at h
  split at h
  · cases h
    refine fits_ren [] ?_ ?_ ren_nil rfl
    · exact List.forall_mem_cons.2 ⟨FV.one (FV.same (by assumption) rfl), List.forall_mem_cons.2 ⟨FV.one (FV.same (by assumption) rfl), fun _ hp => (List.not_mem_nil hp).elim⟩⟩
    · exact fun _ hp => (List.not_mem_nil hp).elim
  · cases h
theorem limb_Sub.fitR (s : St U) (y : ((Int × Int) × Bool)) (h : limb_Sub.re s = some y) : Fits s (limb_Sub.fin y) := by
  unfold limb_Sub.re at h
  split at h
  · cases h
    refine fits_ren [] ?_ ?_ ren_nil rfl
    · exact List.forall_mem_cons.2 ⟨FV.tup (by assumption) (FTs.cons (FVA.one (FV.same rfl rfl)) (FTs.cons (FVA.one (FV.same rfl rfl)) (FTs.nil))), fun _ hp => (List.not_mem_nil hp).elim⟩
    · exact fun _ hp => (List.not_mem_nil hp).elim
  · cases h
theorem limb_Sub.sound (k : Nat) : Sound Try.prog DD 128 (limb_Sub.D k) :=
  fun_sound (E := limb_Sub.E k) (fn := Try.f128) (c := codeOf Try.f128) (limb_Sub.ok k) mixed rfl Try.func128 (by kernel_rfl) (by kernel_rfl) (allL_of (l := []) (by kernel_rfl) allL_nil) (limb_Sub.D k) limb_Sub.mk limb_Sub.re (by kernel_rfl) (by kernel_rfl) limb_Sub.fit limb_Sub.fitR (limb_Sub.eq k)
/-! ### pyx/dec.plus: function 85 -/
noncomputable def dec_plus.f (k : Nat) (a0 : (Int × Int × Int × Int)) (a1 : (Int × Int × Int × Int)) : Option (Int × Int × Int × Int) := (dec_halves.f k (a0.1, a0.2.1, a0.2.2.1, a0.2.2.2)).bind fun t1 => ((dec_halves.f k (a1.1, a1.2.1, a1.2.2.1, a1.2.2.2)).bind fun t2 => ((limb_Add.f k (t1.2.1, t1.2.2) (t2.2.1, t2.2.2)).bind fun t3 => ((limb_Add.f k (t1.1.1, t1.1.2) (t2.1.1, t2.1.2)).bind fun t4 => (((cond (!t4.2) ((limb_Sub.f k (t2.1.1, t2.1.2) (bits .xor .u64 18446744073709551615 t1.1.1, bits .xor .u64 18446744073709551615 t1.1.2)).bind fun t5 => ((limb_Of.f k 1).bind fun t6 => ((limb_Sub.f k (t5.1.1, t5.1.2) (t6.1, t6.2)).bind fun t7 => ((limb_Of.f k 1).bind fun t8 => ((limb_Add.f k (t3.1.1, t3.1.2) (t8.1, t8.2)).bind fun t9 => (some (0, 0, 0, 0, t9.1.1, t9.1.2, t7.1.1, t7.1.2))))))) (some (0, 0, 0, 0, t3.1.1, t3.1.2, t4.1.1, t4.1.2))) : Option (Int × Int × Int × Int × Int × Int × Int × Int)).bind fun y18 => (some (y18.2.2.2.2.2.2.1, y18.2.2.2.2.2.2.2, y18.2.2.2.2.1, y18.2.2.2.2.2.1))))))
noncomputable def dec_plus.un (s : St U) : Option ((Int × Int × Int × Int) × (Int × Int × Int × Int)) := match s.get 0, s.get 1 with | .agg [.flat (.int .u64 x1), .flat (.int .u64 x2), .flat (.int .u64 x3), .flat (.int .u64 x4)], .agg [.flat (.int .u64 x5), .flat (.int .u64 x6), .flat (.int .u64 x7), .flat (.int .u64 x8)] => some ((x1, x2, x3, x4), (x5, x6, x7, x8)) | _, _ => none
noncomputable def dec_plus.mk (x : ((Int × Int × Int × Int) × (Int × Int × Int × Int))) : St U := ⟨[(0, .agg [.flat (.int .u64 x.1.1), .flat (.int .u64 x.1.2.1), .flat (.int .u64 x.1.2.2.1), .flat (.int .u64 x.1.2.2.2)]), (1, .agg [.flat (.int .u64 x.2.1), .flat (.int .u64 x.2.2.1), .flat (.int .u64 x.2.2.2.1), .flat (.int .u64 x.2.2.2.2)])], []⟩
noncomputable def dec_plus.fin (y : (Int × Int × Int × Int)) : St U := ⟨[(0, .agg [.flat (.int .u64 y.1), .flat (.int .u64 y.2.1), .flat (.int .u64 y.2.2.1), .flat (.int .u64 y.2.2.2)])], []⟩
noncomputable def dec_plus.D (k : Nat) : FDen U := { X := ((Int × Int × Int × Int) × (Int × Int × Int × Int)), Y := (Int × Int × Int × Int), nt := 70, gh := [], un := dec_plus.un, f := fun x => dec_plus.f k (x.1) (x.2), fin := dec_plus.fin, cl := true, clo := fun _ _ => rfl }
noncomputable def dec_plus.re (s : St U) : Option (Int × Int × Int × Int) := match s.get 0 with | .agg [.flat (.int .u64 x1), .flat (.int .u64 x2), .flat (.int .u64 x3), .flat (.int .u64 x4)] => some (x1, x2, x3, x4) | _ => none
noncomputable def dec_plus.j6001.fin (y : (Int × Int × Int × Int × Int × Int × Int × Int)) : Out U := match y with | (x10, x11, x12, x13, x14, x15, x16, x17) => .norm ⟨[(4, .ptr 4 0), (9, .ptr 9 0), (11, .ptr 11 0)], [(4, .lit [.flat (.int .u64 x10), .flat (.int .u64 x11), .flat (.int .u64 x12), .flat (.int .u64 x13)]), (9, .lit [.flat (.int .u64 x14), .flat (.int .u64 x15)]), (11, .lit [.flat (.int .u64 x16), .flat (.int .u64 x17)])]⟩
noncomputable def dec_plus.j6001.finK {ρ : Type} (y : (Int × Int × Int × Int × Int × Int × Int × Int)) (K : Out U → Option ρ) : Option ρ := match y with | (x10, x11, x12, x13, x14, x15, x16, x17) => K (.norm ⟨[(4, .ptr 4 0), (9, .ptr 9 0), (11, .ptr 11 0)], [(4, .lit [.flat (.int .u64 x10), .flat (.int .u64 x11), .flat (.int .u64 x12), .flat (.int .u64 x13)]), (9, .lit [.flat (.int .u64 x14), .flat (.int .u64 x15)]), (11, .lit [.flat (.int .u64 x16), .flat (.int .u64 x17)])]⟩)
theorem dec_plus.j6001.finK_eq {ρ : Type} (y : (Int × Int × Int × Int × Int × Int × Int × Int)) (K : Out U → Option ρ) : dec_plus.j6001.finK y K = K (dec_plus.j6001.fin y) := by
  unfold dec_plus.j6001.finK dec_plus.j6001.fin
  first | rfl | (split <;> rfl)
noncomputable def dec_plus.j6001.re : Out U → Option ((Int × Int × Int × Int × Int × Int × Int × Int)) | .norm s => (match s.get 4, s.get 9, s.get 11, lk s.o 4, lk s.o 9, lk s.o 11 with | .ptr 4 0, .ptr 9 0, .ptr 11 0, some (.lit [.flat (.int .u64 x10), .flat (.int .u64 x11), .flat (.int .u64 x12), .flat (.int .u64 x13)]), some (.lit [.flat (.int .u64 x14), .flat (.int .u64 x15)]), some (.lit [.flat (.int .u64 x16), .flat (.int .u64 x17)]) => some (x10, x11, x12, x13, x14, x15, x16, x17) | _, _, _, _, _, _ => none) | _ => none
noncomputable def dec_plus.j6001.J : JDen U := { Y := (Int × Int × Int × Int × Int × Int × Int × Int), re := dec_plus.j6001.re, fin := dec_plus.j6001.fin, finK := dec_plus.j6001.finK, finK_eq := dec_plus.j6001.finK_eq }
theorem dec_plus.j6001.fit (o : Out U) (y : (Int × Int × Int × Int × Int × Int × Int × Int)) (h : dec_plus.j6001.re o = some y) : FitsO o (dec_plus.j6001.fin y) := by
  unfold dec_plus.j6001.re at h
  split at h
  · split at h
    · cases h
      refine fitsO_norm (fits_ren [] ?_ ?_ ren_nil rfl)
      · exact List.forall_mem_cons.2 ⟨FV.one (FV.ptr (by assumption)), List.forall_mem_cons.2 ⟨FV.one (FV.ptr (by assumption)), List.forall_mem_cons.2 ⟨FV.one (FV.ptr (by assumption)), fun _ hp => (List.not_mem_nil hp).elim⟩⟩⟩
      · exact List.forall_mem_cons.2 ⟨(FO.same (show lk (St.o _) 4 = some _ from by assumption) rfl), List.forall_mem_cons.2 ⟨(FO.same (show lk (St.o _) 9 = some _ from by assumption) rfl), List.forall_mem_cons.2 ⟨(FO.same (show lk (St.o _) 11 = some _ from by assumption) rfl), fun _ hp => (List.not_mem_nil hp).elim⟩⟩⟩
    · cases h
  · cases h
noncomputable def dec_plus.jl : List (Nat × JDen U) := [(6001, dec_plus.j6001.J)]
noncomputable def dec_plus.fl (k : Nat) : List (Nat × FDen U) := [(126, dec_halves.D k), (127, limb_Add.D k), (128, limb_Sub.D k), (129, limb_Of.D k)]
noncomputable def dec_plus.ll (k : Nat) : List (Nat × LDen U) := []
noncomputable def dec_plus.E (k : Nat) : Env U := { P := Try.prog, D := DD, fd := lk (dec_plus.fl k), ld := lk (dec_plus.ll k), jd := lk dec_plus.jl, mode := lk [], elc := lk ec, mpc := lk mc, rts := Try.f85.resultTypes.toList, dyn := fun t => false, vecs := fun d => false, results := Try.f85.results.toList, gh := [], own := false, io := fun g i => false }
theorem dec_plus.ok (k : Nat) : EnvOk (dec_plus.E k) := envOk lawful (dec_plus.fl k) (dec_plus.ll k) dec_plus.jl _ _ _ _ _ _ _ _ _ _ (by
  intro p hp
  simp only [dec_plus.fl, List.mem_cons, List.not_mem_nil, or_false] at hp
  rcases hp with rfl | rfl | rfl | rfl
  · exact ⟨dec_halves.sound k, enter_of Try.func126 (by kernel_rfl) (by kernel_rfl)⟩
  · exact ⟨limb_Add.sound k, enter_of Try.func127 (by kernel_rfl) (by kernel_rfl)⟩
  · exact ⟨limb_Sub.sound k, enter_of Try.func128 (by kernel_rfl) (by kernel_rfl)⟩
  · exact ⟨limb_Of.sound k, enter_of Try.func129 (by kernel_rfl) (by kernel_rfl)⟩) (by
  intro p hp
  simp only [dec_plus.jl, List.mem_cons, List.not_mem_nil, or_false] at hp
  rcases hp with rfl
  · exact dec_plus.j6001.fit)
theorem dec_plus.eq (k : Nat) (x : ((Int × Int × Int × Int) × (Int × Int × Int × Int))) : runF (dec_plus.E k) (codeOf Try.f85) (dec_plus.mk x) dec_plus.re = (dec_plus.D k).f x := by kernel_rfl
theorem dec_plus.fit (s : St U) (x : ((Int × Int × Int × Int) × (Int × Int × Int × Int))) (h : dec_plus.un s = some x) : Fits s (dec_plus.mk x) := by
  unfold dec_plus.un at h
  split at h
  · cases h
    refine fits_ren [] ?_ ?_ ren_nil rfl
    · exact List.forall_mem_cons.2 ⟨FV.one (FV.same (by assumption) rfl), List.forall_mem_cons.2 ⟨FV.one (FV.same (by assumption) rfl), fun _ hp => (List.not_mem_nil hp).elim⟩⟩
    · exact fun _ hp => (List.not_mem_nil hp).elim
  · cases h
theorem dec_plus.fitR (s : St U) (y : (Int × Int × Int × Int)) (h : dec_plus.re s = some y) : Fits s (dec_plus.fin y) := by
  unfold dec_plus.re at h
  split at h
  · cases h
    refine fits_ren [] ?_ ?_ ren_nil rfl
    · exact List.forall_mem_cons.2 ⟨FV.one (FV.same (by assumption) rfl), fun _ hp => (List.not_mem_nil hp).elim⟩
    · exact fun _ hp => (List.not_mem_nil hp).elim
  · cases h
theorem dec_plus.sound (k : Nat) : Sound Try.prog DD 85 (dec_plus.D k) :=
  fun_sound (E := dec_plus.E k) (fn := Try.f85) (c := codeOf Try.f85) (dec_plus.ok k) mixed rfl Try.func85 (by kernel_rfl) (by kernel_rfl) (allL_of (l := []) (by kernel_rfl) allL_nil) (dec_plus.D k) dec_plus.mk dec_plus.re (by kernel_rfl) (by kernel_rfl) dec_plus.fit dec_plus.fitR (dec_plus.eq k)
/-! ### pyx/dec.made: function 84 -/
noncomputable def dec_made.f (k : Nat) (a0 : Bool) (a1 : (Int × Int × Int × Int)) (a2 : Int) : Option (Sapi_Dec × Int) := (limb_Short.f k (a1.1, a1.2.1, a1.2.2.1, a1.2.2.2)).bind fun t1 => (((cond (!t1.2) (some (a0, a2, true, false, 0, 0, 0, t1.1.1, t1.1.2)) ((dec_small.f k (t1.1.1, t1.1.2)).bind fun t11 => (some (a0, a2, !t11, false, 0, 0, 0, t1.1.1, t1.1.2)))) : Option (Bool × Int × Bool × Bool × Int × Int × Int × Int × Int)).bind fun y12 => (cond (y12.2.2.1) (some ((⟨false, (0, 0), 0⟩ : Sapi_Dec), 3)) (cond (y12.1) ((dec_nought.f k (y12.2.2.2.2.2.2.2.1, y12.2.2.2.2.2.2.2.2)).bind fun t13 => (some ((⟨!t13, (y12.2.2.2.2.2.2.2.1, y12.2.2.2.2.2.2.2.2), y12.2.1⟩ : Sapi_Dec), 0))) (some ((⟨false, (y12.2.2.2.2.2.2.2.1, y12.2.2.2.2.2.2.2.2), y12.2.1⟩ : Sapi_Dec), 0)))))
noncomputable def dec_made.un (s : St U) : Option (Bool × (Int × Int × Int × Int) × Int) := match s.get 0, s.get 1, s.get 2 with | .flat (.bool x1), .agg [.flat (.int .u64 x2), .flat (.int .u64 x3), .flat (.int .u64 x4), .flat (.int .u64 x5)], .flat (.int .i64 x6) => some (x1, (x2, x3, x4, x5), x6) | _, _, _ => none
noncomputable def dec_made.mk (x : (Bool × (Int × Int × Int × Int) × Int)) : St U := ⟨[(0, .flat (.bool x.1)), (1, .agg [.flat (.int .u64 x.2.1.1), .flat (.int .u64 x.2.1.2.1), .flat (.int .u64 x.2.1.2.2.1), .flat (.int .u64 x.2.1.2.2.2)]), (2, .flat (.int .i64 x.2.2))], []⟩
noncomputable def dec_made.fin (y : (Sapi_Dec × Int)) : St U := ⟨[(0, .tup [.agg [.flat (.bool y.1.f_Neg), .flat (.int .u64 y.1.f_C.1), .flat (.int .u64 y.1.f_C.2), .flat (.int .i64 y.1.f_Scale)], .flat (.int .i64 y.2)])], []⟩
noncomputable def dec_made.D (k : Nat) : FDen U := { X := (Bool × (Int × Int × Int × Int) × Int), Y := (Sapi_Dec × Int), nt := 32, gh := [], un := dec_made.un, f := fun x => dec_made.f k (x.1) (x.2.1) (x.2.2), fin := dec_made.fin, cl := true, clo := fun _ _ => rfl }
noncomputable def dec_made.re (s : St U) : Option (Sapi_Dec × Int) := match s.get 0 with | .tup [.agg [.flat (.bool x1), .flat (.int .u64 x2), .flat (.int .u64 x3), .flat (.int .i64 x4)], .flat (.int .i64 x5)] => some ((⟨x1, (x2, x3), x4⟩ : Sapi_Dec), x5) | _ => none
noncomputable def dec_made.j2000.fin (y : (Bool × Int × Bool × Bool × Int × Int × Int × Int × Int)) : Out U := match y with | (x2, x3, x10, x4, x5, x6, x7, x8, x9) => .norm ⟨[(6, .ptr 6 0), (8, .ptr 8 0), (0, .flat (.bool x2)), (2, .flat (.int .i64 x3)), (21, .flat (.bool x10))], [(6, .lit [.flat (.bool x4), .flat (.int .u64 x5), .flat (.int .u64 x6), .flat (.int .i64 x7)]), (8, .lit [.flat (.int .u64 x8), .flat (.int .u64 x9)])]⟩
noncomputable def dec_made.j2000.finK {ρ : Type} (y : (Bool × Int × Bool × Bool × Int × Int × Int × Int × Int)) (K : Out U → Option ρ) : Option ρ := match y with | (x2, x3, x10, x4, x5, x6, x7, x8, x9) => K (.norm ⟨[(6, .ptr 6 0), (8, .ptr 8 0), (0, .flat (.bool x2)), (2, .flat (.int .i64 x3)), (21, .flat (.bool x10))], [(6, .lit [.flat (.bool x4), .flat (.int .u64 x5), .flat (.int .u64 x6), .flat (.int .i64 x7)]), (8, .lit [.flat (.int .u64 x8), .flat (.int .u64 x9)])]⟩)
theorem dec_made.j2000.finK_eq {ρ : Type} (y : (Bool × Int × Bool × Bool × Int × Int × Int × Int × Int)) (K : Out U → Option ρ) : dec_made.j2000.finK y K = K (dec_made.j2000.fin y) := by
  unfold dec_made.j2000.finK dec_made.j2000.fin
  first | rfl | (split <;> rfl)
noncomputable def dec_made.j2000.re : Out U → Option ((Bool × Int × Bool × Bool × Int × Int × Int × Int × Int)) | .norm s => (match s.get 6, s.get 8, s.get 0, s.get 2, s.get 21, lk s.o 6, lk s.o 8 with | .ptr 6 0, .ptr 8 0, .flat (.bool x2), .flat (.int .i64 x3), .flat (.bool x10), some (.lit [.flat (.bool x4), .flat (.int .u64 x5), .flat (.int .u64 x6), .flat (.int .i64 x7)]), some (.lit [.flat (.int .u64 x8), .flat (.int .u64 x9)]) => some (x2, x3, x10, x4, x5, x6, x7, x8, x9) | _, _, _, _, _, _, _ => none) | _ => none
noncomputable def dec_made.j2000.J : JDen U := { Y := (Bool × Int × Bool × Bool × Int × Int × Int × Int × Int), re := dec_made.j2000.re, fin := dec_made.j2000.fin, finK := dec_made.j2000.finK, finK_eq := dec_made.j2000.finK_eq }
theorem dec_made.j2000.fit (o : Out U) (y : (Bool × Int × Bool × Bool × Int × Int × Int × Int × Int)) (h : dec_made.j2000.re o = some y) : FitsO o (dec_made.j2000.fin y) := by
  unfold dec_made.j2000.re at h
  split at h
  · split at h
    · cases h
      refine fitsO_norm (fits_ren [] ?_ ?_ ren_nil rfl)
      · exact List.forall_mem_cons.2 ⟨FV.one (FV.ptr (by assumption)), List.forall_mem_cons.2 ⟨FV.one (FV.ptr (by assumption)), List.forall_mem_cons.2 ⟨FV.one (FV.same (by assumption) rfl), List.forall_mem_cons.2 ⟨FV.one (FV.same (by assumption) rfl), List.forall_mem_cons.2 ⟨FV.one (FV.same (by assumption) rfl), fun _ hp => (List.not_mem_nil hp).elim⟩⟩⟩⟩⟩
      · exact List.forall_mem_cons.2 ⟨(FO.same (show lk (St.o _) 6 = some _ from by assumption) rfl), List.forall_mem_cons.2 ⟨(FO.same (show lk (St.o _) 8 = some _ from by assumption) rfl), fun _ hp => (List.not_mem_nil hp).elim⟩⟩
    · cases h
  · cases h
noncomputable def dec_made.jl : List (Nat × JDen U) := [(2000, dec_made.j2000.J)]
noncomputable def dec_made.fl (k : Nat) : List (Nat × FDen U) := [(125, limb_Short.D k), (123, dec_small.D k), (88, dec_nought.D k)]
noncomputable def dec_made.ll (k : Nat) : List (Nat × LDen U) := []
noncomputable def dec_made.E (k : Nat) : Env U := { P := Try.prog, D := DD, fd := lk (dec_made.fl k), ld := lk (dec_made.ll k), jd := lk dec_made.jl, mode := lk [], elc := lk ec, mpc := lk mc, rts := Try.f84.resultTypes.toList, dyn := fun t => false, vecs := fun d => false, results := Try.f84.results.toList, gh := [], own := false, io := fun g i => false }
theorem dec_made.ok (k : Nat) : EnvOk (dec_made.E k) := envOk lawful (dec_made.fl k) (dec_made.ll k) dec_made.jl _ _ _ _ _ _ _ _ _ _ (by
  intro p hp
  simp only [dec_made.fl, List.mem_cons, List.not_mem_nil, or_false] at hp
  rcases hp with rfl | rfl | rfl
  · exact ⟨limb_Short.sound k, enter_of Try.func125 (by kernel_rfl) (by kernel_rfl)⟩
  · exact ⟨dec_small.sound k, enter_of Try.func123 (by kernel_rfl) (by kernel_rfl)⟩
  · exact ⟨dec_nought.sound k, enter_of Try.func88 (by kernel_rfl) (by kernel_rfl)⟩) (by
  intro p hp
  simp only [dec_made.jl, List.mem_cons, List.not_mem_nil, or_false] at hp
  rcases hp with rfl
  · exact dec_made.j2000.fit)
theorem dec_made.eq (k : Nat) (x : (Bool × (Int × Int × Int × Int) × Int)) : runF (dec_made.E k) (codeOf Try.f84) (dec_made.mk x) dec_made.re = (dec_made.D k).f x := by kernel_rfl
theorem dec_made.fit (s : St U) (x : (Bool × (Int × Int × Int × Int) × Int)) (h : dec_made.un s = some x) : Fits s (dec_made.mk x) := by
  unfold dec_made.un at h
  split at h
  · cases h
    refine fits_ren [] ?_ ?_ ren_nil rfl
    · exact List.forall_mem_cons.2 ⟨FV.one (FV.same (by assumption) rfl), List.forall_mem_cons.2 ⟨FV.one (FV.same (by assumption) rfl), List.forall_mem_cons.2 ⟨FV.one (FV.same (by assumption) rfl), fun _ hp => (List.not_mem_nil hp).elim⟩⟩⟩
    · exact fun _ hp => (List.not_mem_nil hp).elim
  · cases h
theorem dec_made.fitR (s : St U) (y : (Sapi_Dec × Int)) (h : dec_made.re s = some y) : Fits s (dec_made.fin y) := by
  unfold dec_made.re at h
  split at h
  · cases h
    refine fits_ren [] ?_ ?_ ren_nil rfl
    · exact List.forall_mem_cons.2 ⟨FV.tup (by assumption) (FTs.cons (FVA.one (FV.same rfl rfl)) (FTs.cons (FVA.one (FV.same rfl rfl)) (FTs.nil))), fun _ hp => (List.not_mem_nil hp).elim⟩
    · exact fun _ hp => (List.not_mem_nil hp).elim
  · cases h
theorem dec_made.sound (k : Nat) : Sound Try.prog DD 84 (dec_made.D k) :=
  fun_sound (E := dec_made.E k) (fn := Try.f84) (c := codeOf Try.f84) (dec_made.ok k) mixed rfl Try.func84 (by kernel_rfl) (by kernel_rfl) (allL_of (l := []) (by kernel_rfl) allL_nil) (dec_made.D k) dec_made.mk dec_made.re (by kernel_rfl) (by kernel_rfl) dec_made.fit dec_made.fitR (dec_made.eq k)
/-! ### pyx/dec.cmp: function 86 -/
noncomputable def dec_cmp.l2.once (k : Nat) (x : (Int × List Int × List Int)) : Option ((Int × List Int × List Int) ⊕ (Unit ⊕ Int)) := match x with | (x3, x1, x2) => cond (decide (x3 ≥ 0)) (cond (inb x3 4) (cond (Nat.blt (Int.toNat x3) 4) (cond (inb x3 4) (cond (Nat.blt (Int.toNat x3) 4) (cond ((List.getD x1 (Int.toNat x3) 0) != (List.getD x2 (Int.toNat x3) 0)) (cond (inb x3 4) (cond (Nat.blt (Int.toNat x3) 4) (cond (inb x3 4) (cond (Nat.blt (Int.toNat x3) 4) (cond (decide ((List.getD x1 (Int.toNat x3) 0) < (List.getD x2 (Int.toNat x3) 0))) (some (.inr (.inr (-1)))) (some (.inr (.inr 1)))) none) none) none) none) (some (.inl (IntKind.wrap .i64 (x3 - 1), x1, x2)))) none) none) none) none) (some (.inr (.inl ())))
noncomputable def dec_cmp.f (k : Nat) (a0 : (Int × Int × Int × Int)) (a1 : (Int × Int × Int × Int)) : Option Int := (iter (dec_cmp.l2.once k) k (3, [a0.1, a0.2.1, a0.2.2.1, a0.2.2.2], [a1.1, a1.2.1, a1.2.2.1, a1.2.2.2])).bind fun | .inl y5 => (some 0) | .inr y6 => (some y6)
noncomputable def dec_cmp.un (s : St U) : Option ((Int × Int × Int × Int) × (Int × Int × Int × Int)) := match s.get 0, s.get 1 with | .agg [.flat (.int .u64 x1), .flat (.int .u64 x2), .flat (.int .u64 x3), .flat (.int .u64 x4)], .agg [.flat (.int .u64 x5), .flat (.int .u64 x6), .flat (.int .u64 x7), .flat (.int .u64 x8)] => some ((x1, x2, x3, x4), (x5, x6, x7, x8)) | _, _ => none
noncomputable def dec_cmp.mk (x : ((Int × Int × Int × Int) × (Int × Int × Int × Int))) : St U := ⟨[(0, .agg [.flat (.int .u64 x.1.1), .flat (.int .u64 x.1.2.1), .flat (.int .u64 x.1.2.2.1), .flat (.int .u64 x.1.2.2.2)]), (1, .agg [.flat (.int .u64 x.2.1), .flat (.int .u64 x.2.2.1), .flat (.int .u64 x.2.2.2.1), .flat (.int .u64 x.2.2.2.2)])], []⟩
noncomputable def dec_cmp.fin (y : Int) : St U := ⟨[(0, .flat (.int .i64 y))], []⟩
noncomputable def dec_cmp.D (k : Nat) : FDen U := { X := ((Int × Int × Int × Int) × (Int × Int × Int × Int)), Y := Int, nt := 24, gh := [], un := dec_cmp.un, f := fun x => dec_cmp.f k (x.1) (x.2), fin := dec_cmp.fin, cl := true, clo := fun _ _ => rfl }
noncomputable def dec_cmp.re (s : St U) : Option Int := match s.get 0 with | .flat (.int .i64 x1) => some x1 | _ => none
noncomputable def dec_cmp.l2.mk (x : (Int × List Int × List Int)) : St U := match x with | (x3, x1, x2) => ⟨[(2, .ptr 2 0), (3, .ptr 3 0), (5, .flat (.int .i64 x3))], [(2, .arr 4 C.u64 x1), (3, .arr 4 C.u64 x2)]⟩
noncomputable def dec_cmp.l2.un (s : St U) : Option (Int × List Int × List Int) := match s.get 2, s.get 3, s.get 5, lk s.o 2, lk s.o 3 with | .ptr 2 0, .ptr 3 0, .flat (.int .i64 x3), some (.arr 4 C.u64 x1), some (.arr 4 C.u64 x2) => some (x3, x1, x2) | _, _, _, _, _ => none
noncomputable def dec_cmp.l2.fin (y : Unit ⊕ Int) : Out U := match y with | .inl () => .exit 0 ⟨[], []⟩ | .inr z => .ret (⟨[(0, .flat (.int .i64 z))], []⟩)
noncomputable def dec_cmp.l2.finK {ρ : Type} (y : Unit ⊕ Int) (K : Out U → Option ρ) : Option ρ := match y with | .inl () => K (.exit 0 ⟨[], []⟩) | .inr z => K (.ret (⟨[(0, .flat (.int .i64 z))], []⟩))
theorem dec_cmp.l2.finK_eq {ρ : Type} (y : Unit ⊕ Int) (K : Out U → Option ρ) : dec_cmp.l2.finK y K = K (dec_cmp.l2.fin y) := by
  unfold dec_cmp.l2.finK dec_cmp.l2.fin
  first | rfl | (split <;> rfl)
noncomputable def dec_cmp.l2.re : Out U → Option (Unit ⊕ Int) | .exit 0 s => (some (.inl ())) | .ret s => (match s.get 0 with | .flat (.int .i64 x1) => some (.inr x1) | _ => none) | _ => none
noncomputable def dec_cmp.l2.L (k : Nat) : LDen U := { X := (Int × List Int × List Int), Y := Unit ⊕ Int, un := dec_cmp.l2.un, f := iter (dec_cmp.l2.once k) k, fin := dec_cmp.l2.fin, finK := dec_cmp.l2.finK, finK_eq := dec_cmp.l2.finK_eq }
noncomputable def dec_cmp.jl : List (Nat × JDen U) := []
noncomputable def dec_cmp.fl (k : Nat) : List (Nat × FDen U) := []
noncomputable def dec_cmp.ll (k : Nat) : List (Nat × LDen U) := [(2, dec_cmp.l2.L k)]
noncomputable def dec_cmp.E (k : Nat) : Env U := { P := Try.prog, D := DD, fd := lk (dec_cmp.fl k), ld := lk (dec_cmp.ll k), jd := lk dec_cmp.jl, mode := lk [(149, (4, C.u64))], elc := lk ec, mpc := lk mc, rts := Try.f86.resultTypes.toList, dyn := fun t => false, vecs := fun d => false, results := Try.f86.results.toList, gh := [], own := false, io := fun g i => false }
theorem dec_cmp.ok (k : Nat) : EnvOk (dec_cmp.E k) := envOk lawful (dec_cmp.fl k) (dec_cmp.ll k) dec_cmp.jl _ _ _ _ _ _ _ _ _ _ (by
  intro p hp
  simp [dec_cmp.fl] at hp) (by
  intro p hp
  simp [dec_cmp.jl] at hp)
theorem dec_cmp.l2.eq (k : Nat) (x : (Int × List Int × List Int)) : evC (dec_cmp.E k) (loopAt Try.f86 2) (dec_cmp.l2.mk x) (headK dec_cmp.l2.un dec_cmp.l2.re) = dec_cmp.l2.once k x := by kernel_rfl
theorem dec_cmp.l2.fit (s : St U) (x : (Int × List Int × List Int)) (h : dec_cmp.l2.un s = some x) : Fits s (dec_cmp.l2.mk x) := by
  unfold dec_cmp.l2.un at h
  split at h
  · cases h
    refine fits_ren [] ?_ ?_ ren_nil rfl
    · exact List.forall_mem_cons.2 ⟨FV.one (FV.ptr (by assumption)), List.forall_mem_cons.2 ⟨FV.one (FV.ptr (by assumption)), List.forall_mem_cons.2 ⟨FV.one (FV.same (by assumption) rfl), fun _ hp => (List.not_mem_nil hp).elim⟩⟩⟩
    · exact List.forall_mem_cons.2 ⟨(show lk (St.o _) 2 = some _ from by assumption), List.forall_mem_cons.2 ⟨(show lk (St.o _) 3 = some _ from by assumption), fun _ hp => (List.not_mem_nil hp).elim⟩⟩
  · cases h
theorem dec_cmp.l2.fitO (o : Out U) (y : Unit ⊕ Int) (h : dec_cmp.l2.re o = some y) : FitsO o (dec_cmp.l2.fin y) := by
  unfold dec_cmp.l2.re at h
  split at h
  · cases h
    refine fitsO_exit (fits_ren [] ?_ ?_ ren_nil rfl)
    · exact fun _ hp => (List.not_mem_nil hp).elim
    · exact fun _ hp => (List.not_mem_nil hp).elim
  · split at h
    · cases h
      refine fitsO_ret (fits_ren [] ?_ ?_ ren_nil rfl)
      · exact List.forall_mem_cons.2 ⟨FV.one (FV.same (by assumption) rfl), fun _ hp => (List.not_mem_nil hp).elim⟩
      · exact fun _ hp => (List.not_mem_nil hp).elim
    · cases h
  · cases h
theorem dec_cmp.l2.sound (k : Nat) : LSound (dec_cmp.E k) Try.f86.ntmps Try.f86 (loopAt Try.f86 2) (dec_cmp.l2.L k) :=
  loop_sound (dec_cmp.ok k) mixed rfl (by kernel_rfl) (allL_of (l := []) (by kernel_rfl) allL_nil) dec_cmp.l2.un dec_cmp.l2.mk dec_cmp.l2.fin dec_cmp.l2.re (dec_cmp.l2.once k) k dec_cmp.l2.fit dec_cmp.l2.fitO (dec_cmp.l2.eq k) dec_cmp.l2.finK dec_cmp.l2.finK_eq
theorem dec_cmp.eq (k : Nat) (x : ((Int × Int × Int × Int) × (Int × Int × Int × Int))) : runF (dec_cmp.E k) (codeOf Try.f86) (dec_cmp.mk x) dec_cmp.re = (dec_cmp.D k).f x := by kernel_rfl
theorem dec_cmp.fit (s : St U) (x : ((Int × Int × Int × Int) × (Int × Int × Int × Int))) (h : dec_cmp.un s = some x) : Fits s (dec_cmp.mk x) := by
  unfold dec_cmp.un at h
  split at h
  · cases h
    refine fits_ren [] ?_ ?_ ren_nil rfl
    · exact List.forall_mem_cons.2 ⟨FV.one (FV.same (by assumption) rfl), List.forall_mem_cons.2 ⟨FV.one (FV.same (by assumption) rfl), fun _ hp => (List.not_mem_nil hp).elim⟩⟩
    · exact fun _ hp => (List.not_mem_nil hp).elim
  · cases h
theorem dec_cmp.fitR (s : St U) (y : Int) (h : dec_cmp.re s = some y) : Fits s (dec_cmp.fin y) := by
  unfold dec_cmp.re at h
  split at h
  · cases h
    refine fits_ren [] ?_ ?_ ren_nil rfl
    · exact List.forall_mem_cons.2 ⟨FV.one (FV.same (by assumption) rfl), fun _ hp => (List.not_mem_nil hp).elim⟩
    · exact fun _ hp => (List.not_mem_nil hp).elim
  · cases h
theorem dec_cmp.sound (k : Nat) : Sound Try.prog DD 86 (dec_cmp.D k) :=
  fun_sound (E := dec_cmp.E k) (fn := Try.f86) (c := codeOf Try.f86) (dec_cmp.ok k) mixed rfl Try.func86 (by kernel_rfl) (by kernel_rfl) (allL_of (l := [loopAt Try.f86 2]) (by kernel_rfl) (allL_cons (key := 2) (by kernel_rfl) rfl (dec_cmp.l2.sound k) allL_nil)) (dec_cmp.D k) dec_cmp.mk dec_cmp.re (by kernel_rfl) (by kernel_rfl) dec_cmp.fit dec_cmp.fitR (dec_cmp.eq k)
/-! ### pyx/dec.less: function 87 -/
noncomputable def dec_less.f (k : Nat) (a0 : (Int × Int × Int × Int)) (a1 : (Int × Int × Int × Int)) : Option (Int × Int × Int × Int) := (dec_halves.f k (a0.1, a0.2.1, a0.2.2.1, a0.2.2.2)).bind fun t1 => ((dec_halves.f k (a1.1, a1.2.1, a1.2.2.1, a1.2.2.2)).bind fun t2 => ((limb_Sub.f k (t1.2.1, t1.2.2) (t2.2.1, t2.2.2)).bind fun t3 => ((limb_Sub.f k (t1.1.1, t1.1.2) (t2.1.1, t2.1.2)).bind fun t4 => (((cond (!t4.2) ((limb_Sub.f k (t2.1.1, t2.1.2) (t1.1.1, t1.1.2)).bind fun t5 => ((limb_Of.f k 1).bind fun t6 => ((limb_Sub.f k (t5.1.1, t5.1.2) (t6.1, t6.2)).bind fun t7 => ((limb_Of.f k 1).bind fun t8 => ((limb_Sub.f k (t3.1.1, t3.1.2) (t8.1, t8.2)).bind fun t9 => (some (0, 0, 0, 0, t9.1.1, t9.1.2, bits .xor .u64 18446744073709551615 t7.1.1, bits .xor .u64 18446744073709551615 t7.1.2))))))) (some (0, 0, 0, 0, t3.1.1, t3.1.2, t4.1.1, t4.1.2))) : Option (Int × Int × Int × Int × Int × Int × Int × Int)).bind fun y18 => (some (y18.2.2.2.2.2.2.1, y18.2.2.2.2.2.2.2, y18.2.2.2.2.1, y18.2.2.2.2.2.1))))))
noncomputable def dec_less.un (s : St U) : Option ((Int × Int × Int × Int) × (Int × Int × Int × Int)) := match s.get 0, s.get 1 with | .agg [.flat (.int .u64 x1), .flat (.int .u64 x2), .flat (.int .u64 x3), .flat (.int .u64 x4)], .agg [.flat (.int .u64 x5), .flat (.int .u64 x6), .flat (.int .u64 x7), .flat (.int .u64 x8)] => some ((x1, x2, x3, x4), (x5, x6, x7, x8)) | _, _ => none
noncomputable def dec_less.mk (x : ((Int × Int × Int × Int) × (Int × Int × Int × Int))) : St U := ⟨[(0, .agg [.flat (.int .u64 x.1.1), .flat (.int .u64 x.1.2.1), .flat (.int .u64 x.1.2.2.1), .flat (.int .u64 x.1.2.2.2)]), (1, .agg [.flat (.int .u64 x.2.1), .flat (.int .u64 x.2.2.1), .flat (.int .u64 x.2.2.2.1), .flat (.int .u64 x.2.2.2.2)])], []⟩
noncomputable def dec_less.fin (y : (Int × Int × Int × Int)) : St U := ⟨[(0, .agg [.flat (.int .u64 y.1), .flat (.int .u64 y.2.1), .flat (.int .u64 y.2.2.1), .flat (.int .u64 y.2.2.2)])], []⟩
noncomputable def dec_less.D (k : Nat) : FDen U := { X := ((Int × Int × Int × Int) × (Int × Int × Int × Int)), Y := (Int × Int × Int × Int), nt := 73, gh := [], un := dec_less.un, f := fun x => dec_less.f k (x.1) (x.2), fin := dec_less.fin, cl := true, clo := fun _ _ => rfl }
noncomputable def dec_less.re (s : St U) : Option (Int × Int × Int × Int) := match s.get 0 with | .agg [.flat (.int .u64 x1), .flat (.int .u64 x2), .flat (.int .u64 x3), .flat (.int .u64 x4)] => some (x1, x2, x3, x4) | _ => none
noncomputable def dec_less.j6001.fin (y : (Int × Int × Int × Int × Int × Int × Int × Int)) : Out U := match y with | (x10, x11, x12, x13, x14, x15, x16, x17) => .norm ⟨[(4, .ptr 4 0), (9, .ptr 9 0), (11, .ptr 11 0)], [(4, .lit [.flat (.int .u64 x10), .flat (.int .u64 x11), .flat (.int .u64 x12), .flat (.int .u64 x13)]), (9, .lit [.flat (.int .u64 x14), .flat (.int .u64 x15)]), (11, .lit [.flat (.int .u64 x16), .flat (.int .u64 x17)])]⟩
noncomputable def dec_less.j6001.finK {ρ : Type} (y : (Int × Int × Int × Int × Int × Int × Int × Int)) (K : Out U → Option ρ) : Option ρ := match y with | (x10, x11, x12, x13, x14, x15, x16, x17) => K (.norm ⟨[(4, .ptr 4 0), (9, .ptr 9 0), (11, .ptr 11 0)], [(4, .lit [.flat (.int .u64 x10), .flat (.int .u64 x11), .flat (.int .u64 x12), .flat (.int .u64 x13)]), (9, .lit [.flat (.int .u64 x14), .flat (.int .u64 x15)]), (11, .lit [.flat (.int .u64 x16), .flat (.int .u64 x17)])]⟩)
theorem dec_less.j6001.finK_eq {ρ : Type} (y : (Int × Int × Int × Int × Int × Int × Int × Int)) (K : Out U → Option ρ) : dec_less.j6001.finK y K = K (dec_less.j6001.fin y) := by
  unfold dec_less.j6001.finK dec_less.j6001.fin
  first | rfl | (split <;> rfl)
noncomputable def dec_less.j6001.re : Out U → Option ((Int × Int × Int × Int × Int × Int × Int × Int)) | .norm s => (match s.get 4, s.get 9, s.get 11, lk s.o 4, lk s.o 9, lk s.o 11 with | .ptr 4 0, .ptr 9 0, .ptr 11 0, some (.lit [.flat (.int .u64 x10), .flat (.int .u64 x11), .flat (.int .u64 x12), .flat (.int .u64 x13)]), some (.lit [.flat (.int .u64 x14), .flat (.int .u64 x15)]), some (.lit [.flat (.int .u64 x16), .flat (.int .u64 x17)]) => some (x10, x11, x12, x13, x14, x15, x16, x17) | _, _, _, _, _, _ => none) | _ => none
noncomputable def dec_less.j6001.J : JDen U := { Y := (Int × Int × Int × Int × Int × Int × Int × Int), re := dec_less.j6001.re, fin := dec_less.j6001.fin, finK := dec_less.j6001.finK, finK_eq := dec_less.j6001.finK_eq }
theorem dec_less.j6001.fit (o : Out U) (y : (Int × Int × Int × Int × Int × Int × Int × Int)) (h : dec_less.j6001.re o = some y) : FitsO o (dec_less.j6001.fin y) := by
  unfold dec_less.j6001.re at h
  split at h
  · split at h
    · cases h
      refine fitsO_norm (fits_ren [] ?_ ?_ ren_nil rfl)
      · exact List.forall_mem_cons.2 ⟨FV.one (FV.ptr (by assumption)), List.forall_mem_cons.2 ⟨FV.one (FV.ptr (by assumption)), List.forall_mem_cons.2 ⟨FV.one (FV.ptr (by assumption)), fun _ hp => (List.not_mem_nil hp).elim⟩⟩⟩
      · exact List.forall_mem_cons.2 ⟨(FO.same (show lk (St.o _) 4 = some _ from by assumption) rfl), List.forall_mem_cons.2 ⟨(FO.same (show lk (St.o _) 9 = some _ from by assumption) rfl), List.forall_mem_cons.2 ⟨(FO.same (show lk (St.o _) 11 = some _ from by assumption) rfl), fun _ hp => (List.not_mem_nil hp).elim⟩⟩⟩
    · cases h
  · cases h
noncomputable def dec_less.jl : List (Nat × JDen U) := [(6001, dec_less.j6001.J)]
noncomputable def dec_less.fl (k : Nat) : List (Nat × FDen U) := [(126, dec_halves.D k), (128, limb_Sub.D k), (129, limb_Of.D k)]
noncomputable def dec_less.ll (k : Nat) : List (Nat × LDen U) := []
noncomputable def dec_less.E (k : Nat) : Env U := { P := Try.prog, D := DD, fd := lk (dec_less.fl k), ld := lk (dec_less.ll k), jd := lk dec_less.jl, mode := lk [], elc := lk ec, mpc := lk mc, rts := Try.f87.resultTypes.toList, dyn := fun t => false, vecs := fun d => false, results := Try.f87.results.toList, gh := [], own := false, io := fun g i => false }
theorem dec_less.ok (k : Nat) : EnvOk (dec_less.E k) := envOk lawful (dec_less.fl k) (dec_less.ll k) dec_less.jl _ _ _ _ _ _ _ _ _ _ (by
  intro p hp
  simp only [dec_less.fl, List.mem_cons, List.not_mem_nil, or_false] at hp
  rcases hp with rfl | rfl | rfl
  · exact ⟨dec_halves.sound k, enter_of Try.func126 (by kernel_rfl) (by kernel_rfl)⟩
  · exact ⟨limb_Sub.sound k, enter_of Try.func128 (by kernel_rfl) (by kernel_rfl)⟩
  · exact ⟨limb_Of.sound k, enter_of Try.func129 (by kernel_rfl) (by kernel_rfl)⟩) (by
  intro p hp
  simp only [dec_less.jl, List.mem_cons, List.not_mem_nil, or_false] at hp
  rcases hp with rfl
  · exact dec_less.j6001.fit)
theorem dec_less.eq (k : Nat) (x : ((Int × Int × Int × Int) × (Int × Int × Int × Int))) : runF (dec_less.E k) (codeOf Try.f87) (dec_less.mk x) dec_less.re = (dec_less.D k).f x := by kernel_rfl
theorem dec_less.fit (s : St U) (x : ((Int × Int × Int × Int) × (Int × Int × Int × Int))) (h : dec_less.un s = some x) : Fits s (dec_less.mk x) := by
  unfold dec_less.un at h
  split at h
  · cases h
    refine fits_ren [] ?_ ?_ ren_nil rfl
    · exact List.forall_mem_cons.2 ⟨FV.one (FV.same (by assumption) rfl), List.forall_mem_cons.2 ⟨FV.one (FV.same (by assumption) rfl), fun _ hp => (List.not_mem_nil hp).elim⟩⟩
    · exact fun _ hp => (List.not_mem_nil hp).elim
  · cases h
theorem dec_less.fitR (s : St U) (y : (Int × Int × Int × Int)) (h : dec_less.re s = some y) : Fits s (dec_less.fin y) := by
  unfold dec_less.re at h
  split at h
  · cases h
    refine fits_ren [] ?_ ?_ ren_nil rfl
    · exact List.forall_mem_cons.2 ⟨FV.one (FV.same (by assumption) rfl), fun _ hp => (List.not_mem_nil hp).elim⟩
    · exact fun _ hp => (List.not_mem_nil hp).elim
  · cases h
theorem dec_less.sound (k : Nat) : Sound Try.prog DD 87 (dec_less.D k) :=
  fun_sound (E := dec_less.E k) (fn := Try.f87) (c := codeOf Try.f87) (dec_less.ok k) mixed rfl Try.func87 (by kernel_rfl) (by kernel_rfl) (allL_of (l := []) (by kernel_rfl) allL_nil) (dec_less.D k) dec_less.mk dec_less.re (by kernel_rfl) (by kernel_rfl) dec_less.fit dec_less.fitR (dec_less.eq k)
/-! ### pyx/dec.Add: function 36 -/
noncomputable def dec_Add.f (k : Nat) (a0 : Sapi_Dec) (a1 : Sapi_Dec) : Option (Sapi_Dec × Int) := (((dec_Right.f k (⟨a0.f_Neg, (a0.f_C.1, a0.f_C.2), a0.f_Scale⟩ : Sapi_Dec)).bind fun t1 => (cond (!t1) (some (true, a0.f_Neg, a0.f_C.1, a0.f_C.2, a0.f_Scale, a1.f_Neg, a1.f_C.1, a1.f_C.2, a1.f_Scale, false, 0, 0, 0)) ((dec_Right.f k (⟨a1.f_Neg, (a1.f_C.1, a1.f_C.2), a1.f_Scale⟩ : Sapi_Dec)).bind fun t15 => (some (!t15, a0.f_Neg, a0.f_C.1, a0.f_C.2, a0.f_Scale, a1.f_Neg, a1.f_C.1, a1.f_C.2, a1.f_Scale, false, 0, 0, 0))))) : Option (Bool × Bool × Int × Int × Int × Bool × Int × Int × Int × Bool × Int × Int × Int)).bind fun y16 => (cond (y16.1) (some ((⟨false, (0, 0), 0⟩ : Sapi_Dec), 1)) ((dec_wide.f k (⟨y16.2.1, (y16.2.2.1, y16.2.2.2.1), y16.2.2.2.2.1⟩ : Sapi_Dec) (if y16.2.2.2.2.2.2.2.2.1 > y16.2.2.2.2.1 then y16.2.2.2.2.2.2.2.2.1 else y16.2.2.2.2.1)).bind fun t17 => ((dec_wide.f k (⟨y16.2.2.2.2.2.1, (y16.2.2.2.2.2.2.1, y16.2.2.2.2.2.2.2.1), y16.2.2.2.2.2.2.2.2.1⟩ : Sapi_Dec) (if y16.2.2.2.2.2.2.2.2.1 > y16.2.2.2.2.1 then y16.2.2.2.2.2.2.2.2.1 else y16.2.2.2.2.1)).bind fun t18 => (cond (y16.2.1 == y16.2.2.2.2.2.1) ((dec_plus.f k (t17.1, t17.2.1, t17.2.2.1, t17.2.2.2) (t18.1, t18.2.1, t18.2.2.1, t18.2.2.2)).bind fun t19 => ((dec_made.f k y16.2.1 (t19.1, t19.2.1, t19.2.2.1, t19.2.2.2) (if y16.2.2.2.2.2.2.2.2.1 > y16.2.2.2.2.1 then y16.2.2.2.2.2.2.2.2.1 else y16.2.2.2.2.1)).bind fun t20 => (some ((⟨t20.1.f_Neg, (t20.1.f_C.1, t20.1.f_C.2), t20.1.f_Scale⟩ : Sapi_Dec), t20.2)))) ((dec_cmp.f k (t17.1, t17.2.1, t17.2.2.1, t17.2.2.2) (t18.1, t18.2.1, t18.2.2.1, t18.2.2.2)).bind fun t21 => (cond (decide (t21 ≥ 0)) ((dec_less.f k (t17.1, t17.2.1, t17.2.2.1, t17.2.2.2) (t18.1, t18.2.1, t18.2.2.1, t18.2.2.2)).bind fun t22 => ((dec_made.f k y16.2.1 (t22.1, t22.2.1, t22.2.2.1, t22.2.2.2) (if y16.2.2.2.2.2.2.2.2.1 > y16.2.2.2.2.1 then y16.2.2.2.2.2.2.2.2.1 else y16.2.2.2.2.1)).bind fun t23 => (some ((⟨t23.1.f_Neg, (t23.1.f_C.1, t23.1.f_C.2), t23.1.f_Scale⟩ : Sapi_Dec), t23.2)))) ((dec_less.f k (t18.1, t18.2.1, t18.2.2.1, t18.2.2.2) (t17.1, t17.2.1, t17.2.2.1, t17.2.2.2)).bind fun t24 => ((dec_made.f k y16.2.2.2.2.2.1 (t24.1, t24.2.1, t24.2.2.1, t24.2.2.2) (if y16.2.2.2.2.2.2.2.2.1 > y16.2.2.2.2.1 then y16.2.2.2.2.2.2.2.2.1 else y16.2.2.2.2.1)).bind fun t25 => (some ((⟨t25.1.f_Neg, (t25.1.f_C.1, t25.1.f_C.2), t25.1.f_Scale⟩ : Sapi_Dec), t25.2))))))))))
noncomputable def dec_Add.un (s : St U) : Option (Sapi_Dec × Sapi_Dec) := match s.get 0, s.get 1 with | .agg [.flat (.bool x1), .flat (.int .u64 x2), .flat (.int .u64 x3), .flat (.int .i64 x4)], .agg [.flat (.bool x5), .flat (.int .u64 x6), .flat (.int .u64 x7), .flat (.int .i64 x8)] => some ((⟨x1, (x2, x3), x4⟩ : Sapi_Dec), (⟨x5, (x6, x7), x8⟩ : Sapi_Dec)) | _, _ => none
noncomputable def dec_Add.mk (x : (Sapi_Dec × Sapi_Dec)) : St U := ⟨[(0, .agg [.flat (.bool x.1.f_Neg), .flat (.int .u64 x.1.f_C.1), .flat (.int .u64 x.1.f_C.2), .flat (.int .i64 x.1.f_Scale)]), (1, .agg [.flat (.bool x.2.f_Neg), .flat (.int .u64 x.2.f_C.1), .flat (.int .u64 x.2.f_C.2), .flat (.int .i64 x.2.f_Scale)])], []⟩
noncomputable def dec_Add.fin (y : (Sapi_Dec × Int)) : St U := ⟨[(0, .tup [.agg [.flat (.bool y.1.f_Neg), .flat (.int .u64 y.1.f_C.1), .flat (.int .u64 y.1.f_C.2), .flat (.int .i64 y.1.f_Scale)], .flat (.int .i64 y.2)])], []⟩
noncomputable def dec_Add.D (k : Nat) : FDen U := { X := (Sapi_Dec × Sapi_Dec), Y := (Sapi_Dec × Int), nt := 67, gh := [], un := dec_Add.un, f := fun x => dec_Add.f k (x.1) (x.2), fin := dec_Add.fin, cl := true, clo := fun _ _ => rfl }
noncomputable def dec_Add.re (s : St U) : Option (Sapi_Dec × Int) := match s.get 0 with | .tup [.agg [.flat (.bool x1), .flat (.int .u64 x2), .flat (.int .u64 x3), .flat (.int .i64 x4)], .flat (.int .i64 x5)] => some ((⟨x1, (x2, x3), x4⟩ : Sapi_Dec), x5) | _ => none
noncomputable def dec_Add.j1000.fin (y : (Bool × Bool × Int × Int × Int × Bool × Int × Int × Int × Bool × Int × Int × Int)) : Out U := match y with | (x14, x2, x3, x4, x5, x6, x7, x8, x9, x10, x11, x12, x13) => .norm ⟨[(2, .ptr 2 0), (3, .ptr 3 0), (4, .ptr 4 0), (16, .flat (.bool x14))], [(2, .lit [.flat (.bool x2), .flat (.int .u64 x3), .flat (.int .u64 x4), .flat (.int .i64 x5)]), (3, .lit [.flat (.bool x6), .flat (.int .u64 x7), .flat (.int .u64 x8), .flat (.int .i64 x9)]), (4, .lit [.flat (.bool x10), .flat (.int .u64 x11), .flat (.int .u64 x12), .flat (.int .i64 x13)])]⟩
noncomputable def dec_Add.j1000.finK {ρ : Type} (y : (Bool × Bool × Int × Int × Int × Bool × Int × Int × Int × Bool × Int × Int × Int)) (K : Out U → Option ρ) : Option ρ := match y with | (x14, x2, x3, x4, x5, x6, x7, x8, x9, x10, x11, x12, x13) => K (.norm ⟨[(2, .ptr 2 0), (3, .ptr 3 0), (4, .ptr 4 0), (16, .flat (.bool x14))], [(2, .lit [.flat (.bool x2), .flat (.int .u64 x3), .flat (.int .u64 x4), .flat (.int .i64 x5)]), (3, .lit [.flat (.bool x6), .flat (.int .u64 x7), .flat (.int .u64 x8), .flat (.int .i64 x9)]), (4, .lit [.flat (.bool x10), .flat (.int .u64 x11), .flat (.int .u64 x12), .flat (.int .i64 x13)])]⟩)
theorem dec_Add.j1000.finK_eq {ρ : Type} (y : (Bool × Bool × Int × Int × Int × Bool × Int × Int × Int × Bool × Int × Int × Int)) (K : Out U → Option ρ) : dec_Add.j1000.finK y K = K (dec_Add.j1000.fin y) := by
  unfold dec_Add.j1000.finK dec_Add.j1000.fin
  first | rfl | (split <;> rfl)
noncomputable def dec_Add.j1000.re : Out U → Option ((Bool × Bool × Int × Int × Int × Bool × Int × Int × Int × Bool × Int × Int × Int)) | .norm s => (match s.get 2, s.get 3, s.get 4, s.get 16, lk s.o 2, lk s.o 3, lk s.o 4 with | .ptr 2 0, .ptr 3 0, .ptr 4 0, .flat (.bool x14), some (.lit [.flat (.bool x2), .flat (.int .u64 x3), .flat (.int .u64 x4), .flat (.int .i64 x5)]), some (.lit [.flat (.bool x6), .flat (.int .u64 x7), .flat (.int .u64 x8), .flat (.int .i64 x9)]), some (.lit [.flat (.bool x10), .flat (.int .u64 x11), .flat (.int .u64 x12), .flat (.int .i64 x13)]) => some (x14, x2, x3, x4, x5, x6, x7, x8, x9, x10, x11, x12, x13) | _, _, _, _, _, _, _ => none) | _ => none
noncomputable def dec_Add.j1000.J : JDen U := { Y := (Bool × Bool × Int × Int × Int × Bool × Int × Int × Int × Bool × Int × Int × Int), re := dec_Add.j1000.re, fin := dec_Add.j1000.fin, finK := dec_Add.j1000.finK, finK_eq := dec_Add.j1000.finK_eq }
theorem dec_Add.j1000.fit (o : Out U) (y : (Bool × Bool × Int × Int × Int × Bool × Int × Int × Int × Bool × Int × Int × Int)) (h : dec_Add.j1000.re o = some y) : FitsO o (dec_Add.j1000.fin y) := by
  unfold dec_Add.j1000.re at h
  split at h
  · split at h
    · cases h
      refine fitsO_norm (fits_ren [] ?_ ?_ ren_nil rfl)
      · exact List.forall_mem_cons.2 ⟨FV.one (FV.ptr (by assumption)), List.forall_mem_cons.2 ⟨FV.one (FV.ptr (by assumption)), List.forall_mem_cons.2 ⟨FV.one (FV.ptr (by assumption)), List.forall_mem_cons.2 ⟨FV.one (FV.same (by assumption) rfl), fun _ hp => (List.not_mem_nil hp).elim⟩⟩⟩⟩
      · exact List.forall_mem_cons.2 ⟨(FO.same (show lk (St.o _) 2 = some _ from by assumption) rfl), List.forall_mem_cons.2 ⟨(FO.same (show lk (St.o _) 3 = some _ from by assumption) rfl), List.forall_mem_cons.2 ⟨(FO.same (show lk (St.o _) 4 = some _ from by assumption) rfl), fun _ hp => (List.not_mem_nil hp).elim⟩⟩⟩
    · cases h
  · cases h
noncomputable def dec_Add.jl : List (Nat × JDen U) := [(1000, dec_Add.j1000.J)]
noncomputable def dec_Add.fl (k : Nat) : List (Nat × FDen U) := [(82, dec_Right.D k), (83, dec_wide.D k), (85, dec_plus.D k), (84, dec_made.D k), (86, dec_cmp.D k), (87, dec_less.D k)]
noncomputable def dec_Add.ll (k : Nat) : List (Nat × LDen U) := []
noncomputable def dec_Add.E (k : Nat) : Env U := { P := Try.prog, D := DD, fd := lk (dec_Add.fl k), ld := lk (dec_Add.ll k), jd := lk dec_Add.jl, mode := lk [], elc := lk ec, mpc := lk mc, rts := Try.f36.resultTypes.toList, dyn := fun t => false, vecs := fun d => false, results := Try.f36.results.toList, gh := [], own := false, io := fun g i => false }
theorem dec_Add.ok (k : Nat) : EnvOk (dec_Add.E k) := envOk lawful (dec_Add.fl k) (dec_Add.ll k) dec_Add.jl _ _ _ _ _ _ _ _ _ _ (by
  intro p hp
  simp only [dec_Add.fl, List.mem_cons, List.not_mem_nil, or_false] at hp
  rcases hp with rfl | rfl | rfl | rfl | rfl | rfl
  · exact ⟨dec_Right.sound k, enter_of Try.func82 (by kernel_rfl) (by kernel_rfl)⟩
  · exact ⟨dec_wide.sound k, enter_of Try.func83 (by kernel_rfl) (by kernel_rfl)⟩
  · exact ⟨dec_plus.sound k, enter_of Try.func85 (by kernel_rfl) (by kernel_rfl)⟩
  · exact ⟨dec_made.sound k, enter_of Try.func84 (by kernel_rfl) (by kernel_rfl)⟩
  · exact ⟨dec_cmp.sound k, enter_of Try.func86 (by kernel_rfl) (by kernel_rfl)⟩
  · exact ⟨dec_less.sound k, enter_of Try.func87 (by kernel_rfl) (by kernel_rfl)⟩) (by
  intro p hp
  simp only [dec_Add.jl, List.mem_cons, List.not_mem_nil, or_false] at hp
  rcases hp with rfl
  · exact dec_Add.j1000.fit)
theorem dec_Add.eq (k : Nat) (x : (Sapi_Dec × Sapi_Dec)) : runF (dec_Add.E k) (codeOf Try.f36) (dec_Add.mk x) dec_Add.re = (dec_Add.D k).f x := by kernel_rfl
theorem dec_Add.fit (s : St U) (x : (Sapi_Dec × Sapi_Dec)) (h : dec_Add.un s = some x) : Fits s (dec_Add.mk x) := by
  unfold dec_Add.un at h
  split at h
  · cases h
    refine fits_ren [] ?_ ?_ ren_nil rfl
    · exact List.forall_mem_cons.2 ⟨FV.one (FV.same (by assumption) rfl), List.forall_mem_cons.2 ⟨FV.one (FV.same (by assumption) rfl), fun _ hp => (List.not_mem_nil hp).elim⟩⟩
    · exact fun _ hp => (List.not_mem_nil hp).elim
  · cases h
theorem dec_Add.fitR (s : St U) (y : (Sapi_Dec × Int)) (h : dec_Add.re s = some y) : Fits s (dec_Add.fin y) := by
  unfold dec_Add.re at h
  split at h
  · cases h
    refine fits_ren [] ?_ ?_ ren_nil rfl
    · exact List.forall_mem_cons.2 ⟨FV.tup (by assumption) (FTs.cons (FVA.one (FV.same rfl rfl)) (FTs.cons (FVA.one (FV.same rfl rfl)) (FTs.nil))), fun _ hp => (List.not_mem_nil hp).elim⟩
    · exact fun _ hp => (List.not_mem_nil hp).elim
  · cases h
theorem dec_Add.sound (k : Nat) : Sound Try.prog DD 36 (dec_Add.D k) :=
  fun_sound (E := dec_Add.E k) (fn := Try.f36) (c := codeOf Try.f36) (dec_Add.ok k) mixed rfl Try.func36 (by kernel_rfl) (by kernel_rfl) (allL_of (l := []) (by kernel_rfl) allL_nil) (dec_Add.D k) dec_Add.mk dec_Add.re (by kernel_rfl) (by kernel_rfl) dec_Add.fit dec_Add.fitR (dec_Add.eq k)
/-! ### pyx/entry.Right: function 71 -/
noncomputable def entry_Right.l4.once (k : Nat) (x : (List Sapi_Line × Int × List Sapi_Line × Int × Int)) : Option ((List Sapi_Line × Int × List Sapi_Line × Int × Int) ⊕ ((List Sapi_Line × Int) ⊕ Int)) := match x with | (x5, x6, x7, x8, x9) => cond (decide (x9 < x8)) (cond (inb x9 (List.length x7)) ((entry_rightLine.f k (⟨(List.getD x7 (Int.toNat x9) Sapi_Line.zero).f_Acct, (⟨((List.getD x7 (Int.toNat x9) Sapi_Line.zero).f_Amount).f_Neg, ((((List.getD x7 (Int.toNat x9) Sapi_Line.zero).f_Amount).f_C).1, (((List.getD x7 (Int.toNat x9) Sapi_Line.zero).f_Amount).f_C).2), ((List.getD x7 (Int.toNat x9) Sapi_Line.zero).f_Amount).f_Scale⟩ : Sapi_Dec), (List.getD x7 (Int.toNat x9) Sapi_Line.zero).f_With⟩ : Sapi_Line) x6).bind fun t10 => (cond (!t10) (some (.inr (.inr 1))) (some (.inl (x5, x6, x7, x8, IntKind.wrap .i64 (x9 + 1)))))) none) (some (.inr (.inl (x5, x6))))
noncomputable def entry_Right.l11.once (k : Nat) (x : (List Sapi_Line × Int × Int × Bool × Int × Int × Int)) : Option ((List Sapi_Line × Int × Int × Bool × Int × Int × Int) ⊕ ((Bool × Int × Int × Int) ⊕ Int)) := match x with | (x20, x21, x22, x16, x17, x18, x19) => cond (decide (x22 < x21)) (cond (inb x22 (List.length x20)) ((dec_Add.f k (⟨x16, (x17, x18), x19⟩ : Sapi_Dec) (⟨((List.getD x20 (Int.toNat x22) Sapi_Line.zero).f_Amount).f_Neg, ((((List.getD x20 (Int.toNat x22) Sapi_Line.zero).f_Amount).f_C).1, (((List.getD x20 (Int.toNat x22) Sapi_Line.zero).f_Amount).f_C).2), ((List.getD x20 (Int.toNat x22) Sapi_Line.zero).f_Amount).f_Scale⟩ : Sapi_Dec)).bind fun t23 => (cond (t23.2 != 0) (some (.inr (.inr t23.2))) (some (.inl (x20, x21, IntKind.wrap .i64 (x22 + 1), t23.1.f_Neg, t23.1.f_C.1, t23.1.f_C.2, t23.1.f_Scale))))) none) (some (.inr (.inl (x16, x17, x18, x19))))
noncomputable def entry_Right.f (k : Nat) (a0 : List Sapi_Line) (a1 : Int) : Option Int := ((cond ((List.length a0 : Int) == 0) (some (a0, a1, true)) (some (a0, a1, decide ((List.length a0 : Int) > 8)))) : Option (List Sapi_Line × Int × Bool)).bind fun y4 => (cond (y4.2.2) (some 1) ((iter (entry_Right.l4.once k) k (y4.1, y4.2.1, y4.1, (List.length y4.1 : Int), 0)).bind fun | .inl y14 => ((dec_Of.f k 0 y14.2).bind fun t15 => ((iter (entry_Right.l11.once k) k (y14.1, (List.length y14.1 : Int), 0, t15.f_Neg, t15.f_C.1, t15.f_C.2, t15.f_Scale)).bind fun | .inl y29 => ((dec_Sign.f k (⟨y29.1, (y29.2.1, y29.2.2.1), y29.2.2.2⟩ : Sapi_Dec)).bind fun t30 => (cond (t30 != 0) (some 9) (some 0))) | .inr y31 => (some y31))) | .inr y32 => (some y32)))
noncomputable def entry_Right.un (s : St U) : Option (List Sapi_Line × Int) := match s.get 0, s.get 1 with | .row C.Sapi_Line x1, .flat (.int .i64 x2) => some (x1, x2) | _, _ => none
noncomputable def entry_Right.mk (x : (List Sapi_Line × Int)) : St U := ⟨[(0, .row C.Sapi_Line x.1), (1, .flat (.int .i64 x.2))], []⟩
noncomputable def entry_Right.fin (y : Int) : St U := ⟨[(0, .flat (.int .i64 y))], []⟩
noncomputable def entry_Right.D (k : Nat) : FDen U := { X := (List Sapi_Line × Int), Y := Int, nt := 52, gh := [], un := entry_Right.un, f := fun x => entry_Right.f k (x.1) (x.2), fin := entry_Right.fin, cl := true, clo := fun _ _ => rfl }
noncomputable def entry_Right.re (s : St U) : Option Int := match s.get 0 with | .flat (.int .i64 x1) => some x1 | _ => none
noncomputable def entry_Right.l4.mk (x : (List Sapi_Line × Int × List Sapi_Line × Int × Int)) : St U := match x with | (x5, x6, x7, x8, x9) => ⟨[(0, .row C.Sapi_Line x5), (1, .flat (.int .i64 x6)), (19, .row C.Sapi_Line x7), (20, .flat (.int .i64 x8)), (21, .flat (.int .i64 x9))], []⟩
noncomputable def entry_Right.l4.un (s : St U) : Option (List Sapi_Line × Int × List Sapi_Line × Int × Int) := (row_Sapi_Line (s.get 0)).bind fun q0 => ((row_Sapi_Line (s.get 19)).bind fun q1 => (match s.get 1, s.get 20, s.get 21 with | .flat (.int .i64 x6), .flat (.int .i64 x8), .flat (.int .i64 x9) => some (q0, x6, q1, x8, x9) | _, _, _ => none))
noncomputable def entry_Right.l4.fin (y : (List Sapi_Line × Int) ⊕ Int) : Out U := match y with | .inl (x11, x12) => .exit 0 ⟨[(0, .row C.Sapi_Line x11), (1, .flat (.int .i64 x12))], []⟩ | .inr z => .ret (⟨[(0, .flat (.int .i64 z))], []⟩)
noncomputable def entry_Right.l4.finK {ρ : Type} (y : (List Sapi_Line × Int) ⊕ Int) (K : Out U → Option ρ) : Option ρ := match y with | .inl (x11, x12) => K (.exit 0 ⟨[(0, .row C.Sapi_Line x11), (1, .flat (.int .i64 x12))], []⟩) | .inr z => K (.ret (⟨[(0, .flat (.int .i64 z))], []⟩))
theorem entry_Right.l4.finK_eq {ρ : Type} (y : (List Sapi_Line × Int) ⊕ Int) (K : Out U → Option ρ) : entry_Right.l4.finK y K = K (entry_Right.l4.fin y) := by
  unfold entry_Right.l4.finK entry_Right.l4.fin
  first | rfl | (split <;> rfl)
noncomputable def entry_Right.l4.re : Out U → Option ((List Sapi_Line × Int) ⊕ Int) | .exit 0 s => ((row_Sapi_Line (s.get 0)).bind fun q0 => (match s.get 1 with | .flat (.int .i64 x12) => some (.inl (q0, x12)) | _ => none)) | .ret s => (match s.get 0 with | .flat (.int .i64 x1) => some (.inr x1) | _ => none) | _ => none
noncomputable def entry_Right.l4.L (k : Nat) : LDen U := { X := (List Sapi_Line × Int × List Sapi_Line × Int × Int), Y := (List Sapi_Line × Int) ⊕ Int, un := entry_Right.l4.un, f := iter (entry_Right.l4.once k) k, fin := entry_Right.l4.fin, finK := entry_Right.l4.finK, finK_eq := entry_Right.l4.finK_eq }
noncomputable def entry_Right.l11.mk (x : (List Sapi_Line × Int × Int × Bool × Int × Int × Int)) : St U := match x with | (x20, x21, x22, x16, x17, x18, x19) => ⟨[(7, .ptr 7 0), (32, .row C.Sapi_Line x20), (33, .flat (.int .i64 x21)), (34, .flat (.int .i64 x22))], [(7, .lit [.flat (.bool x16), .flat (.int .u64 x17), .flat (.int .u64 x18), .flat (.int .i64 x19)])]⟩
noncomputable def entry_Right.l11.un (s : St U) : Option (List Sapi_Line × Int × Int × Bool × Int × Int × Int) := (row_Sapi_Line (s.get 32)).bind fun q0 => (match s.get 7, s.get 33, s.get 34, lk s.o 7 with | .ptr 7 0, .flat (.int .i64 x21), .flat (.int .i64 x22), some (.lit [.flat (.bool x16), .flat (.int .u64 x17), .flat (.int .u64 x18), .flat (.int .i64 x19)]) => some (q0, x21, x22, x16, x17, x18, x19) | _, _, _, _ => none)
noncomputable def entry_Right.l11.fin (y : (Bool × Int × Int × Int) ⊕ Int) : Out U := match y with | .inl (x24, x25, x26, x27) => .exit 2 ⟨[(7, .ptr 7 0)], [(7, .lit [.flat (.bool x24), .flat (.int .u64 x25), .flat (.int .u64 x26), .flat (.int .i64 x27)])]⟩ | .inr z => .ret (⟨[(0, .flat (.int .i64 z))], []⟩)
noncomputable def entry_Right.l11.finK {ρ : Type} (y : (Bool × Int × Int × Int) ⊕ Int) (K : Out U → Option ρ) : Option ρ := match y with | .inl (x24, x25, x26, x27) => K (.exit 2 ⟨[(7, .ptr 7 0)], [(7, .lit [.flat (.bool x24), .flat (.int .u64 x25), .flat (.int .u64 x26), .flat (.int .i64 x27)])]⟩) | .inr z => K (.ret (⟨[(0, .flat (.int .i64 z))], []⟩))
theorem entry_Right.l11.finK_eq {ρ : Type} (y : (Bool × Int × Int × Int) ⊕ Int) (K : Out U → Option ρ) : entry_Right.l11.finK y K = K (entry_Right.l11.fin y) := by
  unfold entry_Right.l11.finK entry_Right.l11.fin
  first | rfl | (split <;> rfl)
noncomputable def entry_Right.l11.re : Out U → Option ((Bool × Int × Int × Int) ⊕ Int) | .exit 2 s => (match s.get 7, lk s.o 7 with | .ptr 7 0, some (.lit [.flat (.bool x24), .flat (.int .u64 x25), .flat (.int .u64 x26), .flat (.int .i64 x27)]) => some (.inl (x24, x25, x26, x27)) | _, _ => none) | .ret s => (match s.get 0 with | .flat (.int .i64 x1) => some (.inr x1) | _ => none) | _ => none
noncomputable def entry_Right.l11.L (k : Nat) : LDen U := { X := (List Sapi_Line × Int × Int × Bool × Int × Int × Int), Y := (Bool × Int × Int × Int) ⊕ Int, un := entry_Right.l11.un, f := iter (entry_Right.l11.once k) k, fin := entry_Right.l11.fin, finK := entry_Right.l11.finK, finK_eq := entry_Right.l11.finK_eq }
noncomputable def entry_Right.j1000.fin (y : (List Sapi_Line × Int × Bool)) : Out U := match y with | (x1, x2, x3) => .norm ⟨[(0, .row C.Sapi_Line x1), (1, .flat (.int .i64 x2)), (18, .flat (.bool x3))], []⟩
noncomputable def entry_Right.j1000.finK {ρ : Type} (y : (List Sapi_Line × Int × Bool)) (K : Out U → Option ρ) : Option ρ := match y with | (x1, x2, x3) => K (.norm ⟨[(0, .row C.Sapi_Line x1), (1, .flat (.int .i64 x2)), (18, .flat (.bool x3))], []⟩)
theorem entry_Right.j1000.finK_eq {ρ : Type} (y : (List Sapi_Line × Int × Bool)) (K : Out U → Option ρ) : entry_Right.j1000.finK y K = K (entry_Right.j1000.fin y) := by
  unfold entry_Right.j1000.finK entry_Right.j1000.fin
  first | rfl | (split <;> rfl)
noncomputable def entry_Right.j1000.re : Out U → Option ((List Sapi_Line × Int × Bool)) | .norm s => ((row_Sapi_Line (s.get 0)).bind fun q0 => (match s.get 1, s.get 18 with | .flat (.int .i64 x2), .flat (.bool x3) => some (q0, x2, x3) | _, _ => none)) | _ => none
noncomputable def entry_Right.j1000.J : JDen U := { Y := (List Sapi_Line × Int × Bool), re := entry_Right.j1000.re, fin := entry_Right.j1000.fin, finK := entry_Right.j1000.finK, finK_eq := entry_Right.j1000.finK_eq }
theorem entry_Right.j1000.fit (o : Out U) (y : (List Sapi_Line × Int × Bool)) (h : entry_Right.j1000.re o = some y) : FitsO o (entry_Right.j1000.fin y) := by
  unfold entry_Right.j1000.re at h
  split at h
  · obtain ⟨q0, eq0, h1⟩ := Option.bind_eq_some_iff.1 h
    split at h1
    · cases h1
      refine fitsO_norm (fits_ren [] ?_ ?_ ren_nil rfl)
      · exact List.forall_mem_cons.2 ⟨FV.one (row_Sapi_Line_fit eq0), List.forall_mem_cons.2 ⟨FV.one (FV.same (by assumption) rfl), List.forall_mem_cons.2 ⟨FV.one (FV.same (by assumption) rfl), fun _ hp => (List.not_mem_nil hp).elim⟩⟩⟩
      · exact fun _ hp => (List.not_mem_nil hp).elim
    · cases h1
  · cases h
noncomputable def entry_Right.jl : List (Nat × JDen U) := [(1000, entry_Right.j1000.J)]
noncomputable def entry_Right.fl (k : Nat) : List (Nat × FDen U) := [(120, entry_rightLine.D k), (96, dec_Of.D k), (36, dec_Add.D k), (37, dec_Sign.D k)]
noncomputable def entry_Right.ll (k : Nat) : List (Nat × LDen U) := [(4, entry_Right.l4.L k), (11, entry_Right.l11.L k)]
noncomputable def entry_Right.E (k : Nat) : Env U := { P := Try.prog, D := DD, fd := lk (entry_Right.fl k), ld := lk (entry_Right.ll k), jd := lk entry_Right.jl, mode := lk [], elc := lk ec, mpc := lk mc, rts := Try.f71.resultTypes.toList, dyn := fun t => false, vecs := fun d => false, results := Try.f71.results.toList, gh := [], own := false, io := fun g i => false }
theorem entry_Right.ok (k : Nat) : EnvOk (entry_Right.E k) := envOk lawful (entry_Right.fl k) (entry_Right.ll k) entry_Right.jl _ _ _ _ _ _ _ _ _ _ (by
  intro p hp
  simp only [entry_Right.fl, List.mem_cons, List.not_mem_nil, or_false] at hp
  rcases hp with rfl | rfl | rfl | rfl
  · exact ⟨entry_rightLine.sound k, enter_of Try.func120 (by kernel_rfl) (by kernel_rfl)⟩
  · exact ⟨dec_Of.sound k, enter_of Try.func96 (by kernel_rfl) (by kernel_rfl)⟩
  · exact ⟨dec_Add.sound k, enter_of Try.func36 (by kernel_rfl) (by kernel_rfl)⟩
  · exact ⟨dec_Sign.sound k, enter_of Try.func37 (by kernel_rfl) (by kernel_rfl)⟩) (by
  intro p hp
  simp only [entry_Right.jl, List.mem_cons, List.not_mem_nil, or_false] at hp
  rcases hp with rfl
  · exact entry_Right.j1000.fit)
theorem entry_Right.l4.eq (k : Nat) (x : (List Sapi_Line × Int × List Sapi_Line × Int × Int)) : evC (entry_Right.E k) (loopAt Try.f71 4) (entry_Right.l4.mk x) (headK entry_Right.l4.un entry_Right.l4.re) = entry_Right.l4.once k x := by kernel_rfl
theorem entry_Right.l4.fit (s : St U) (x : (List Sapi_Line × Int × List Sapi_Line × Int × Int)) (h : entry_Right.l4.un s = some x) : Fits s (entry_Right.l4.mk x) := by
  unfold entry_Right.l4.un at h
  obtain ⟨q0, eq0, h1⟩ := Option.bind_eq_some_iff.1 h
  obtain ⟨q1, eq1, h2⟩ := Option.bind_eq_some_iff.1 h1
  split at h2
  · cases h2
    refine fits_ren [] ?_ ?_ ren_nil rfl
    · exact List.forall_mem_cons.2 ⟨FV.one (row_Sapi_Line_fit eq0), List.forall_mem_cons.2 ⟨FV.one (FV.same (by assumption) rfl), List.forall_mem_cons.2 ⟨FV.one (row_Sapi_Line_fit eq1), List.forall_mem_cons.2 ⟨FV.one (FV.same (by assumption) rfl), List.forall_mem_cons.2 ⟨FV.one (FV.same (by assumption) rfl), fun _ hp => (List.not_mem_nil hp).elim⟩⟩⟩⟩⟩
    · exact fun _ hp => (List.not_mem_nil hp).elim
  · cases h2
theorem entry_Right.l4.fitO (o : Out U) (y : (List Sapi_Line × Int) ⊕ Int) (h : entry_Right.l4.re o = some y) : FitsO o (entry_Right.l4.fin y) := by
  unfold entry_Right.l4.re at h
  split at h
  · obtain ⟨q0, eq0, h1⟩ := Option.bind_eq_some_iff.1 h
    split at h1
    · cases h1
      refine fitsO_exit (fits_ren [] ?_ ?_ ren_nil rfl)
      · exact List.forall_mem_cons.2 ⟨FV.one (row_Sapi_Line_fit eq0), List.forall_mem_cons.2 ⟨FV.one (FV.same (by assumption) rfl), fun _ hp => (List.not_mem_nil hp).elim⟩⟩
      · exact fun _ hp => (List.not_mem_nil hp).elim
    · cases h1
  · split at h
    · cases h
      refine fitsO_ret (fits_ren [] ?_ ?_ ren_nil rfl)
      · exact List.forall_mem_cons.2 ⟨FV.one (FV.same (by assumption) rfl), fun _ hp => (List.not_mem_nil hp).elim⟩
      · exact fun _ hp => (List.not_mem_nil hp).elim
    · cases h
  · cases h
theorem entry_Right.l4.sound (k : Nat) : LSound (entry_Right.E k) Try.f71.ntmps Try.f71 (loopAt Try.f71 4) (entry_Right.l4.L k) :=
  loop_sound (entry_Right.ok k) mixed rfl (by kernel_rfl) (allL_of (l := []) (by kernel_rfl) allL_nil) entry_Right.l4.un entry_Right.l4.mk entry_Right.l4.fin entry_Right.l4.re (entry_Right.l4.once k) k entry_Right.l4.fit entry_Right.l4.fitO (entry_Right.l4.eq k) entry_Right.l4.finK entry_Right.l4.finK_eq
theorem entry_Right.l11.eq (k : Nat) (x : (List Sapi_Line × Int × Int × Bool × Int × Int × Int)) : evC (entry_Right.E k) (loopAt Try.f71 11) (entry_Right.l11.mk x) (headK entry_Right.l11.un entry_Right.l11.re) = entry_Right.l11.once k x := by kernel_rfl
theorem entry_Right.l11.fit (s : St U) (x : (List Sapi_Line × Int × Int × Bool × Int × Int × Int)) (h : entry_Right.l11.un s = some x) : Fits s (entry_Right.l11.mk x) := by
  unfold entry_Right.l11.un at h
  obtain ⟨q0, eq0, h1⟩ := Option.bind_eq_some_iff.1 h
  split at h1
  · cases h1
    refine fits_ren [] ?_ ?_ ren_nil rfl
    · exact List.forall_mem_cons.2 ⟨FV.one (FV.ptr (by assumption)), List.forall_mem_cons.2 ⟨FV.one (row_Sapi_Line_fit eq0), List.forall_mem_cons.2 ⟨FV.one (FV.same (by assumption) rfl), List.forall_mem_cons.2 ⟨FV.one (FV.same (by assumption) rfl), fun _ hp => (List.not_mem_nil hp).elim⟩⟩⟩⟩
    · exact List.forall_mem_cons.2 ⟨(FO.same (show lk (St.o _) 7 = some _ from by assumption) rfl), fun _ hp => (List.not_mem_nil hp).elim⟩
  · cases h1
theorem entry_Right.l11.fitO (o : Out U) (y : (Bool × Int × Int × Int) ⊕ Int) (h : entry_Right.l11.re o = some y) : FitsO o (entry_Right.l11.fin y) := by
  unfold entry_Right.l11.re at h
  split at h
  · split at h
    · cases h
      refine fitsO_exit (fits_ren [] ?_ ?_ ren_nil rfl)
      · exact List.forall_mem_cons.2 ⟨FV.one (FV.ptr (by assumption)), fun _ hp => (List.not_mem_nil hp).elim⟩
      · exact List.forall_mem_cons.2 ⟨(FO.same (show lk (St.o _) 7 = some _ from by assumption) rfl), fun _ hp => (List.not_mem_nil hp).elim⟩
    · cases h
  · split at h
    · cases h
      refine fitsO_ret (fits_ren [] ?_ ?_ ren_nil rfl)
      · exact List.forall_mem_cons.2 ⟨FV.one (FV.same (by assumption) rfl), fun _ hp => (List.not_mem_nil hp).elim⟩
      · exact fun _ hp => (List.not_mem_nil hp).elim
    · cases h
  · cases h
theorem entry_Right.l11.sound (k : Nat) : LSound (entry_Right.E k) Try.f71.ntmps Try.f71 (loopAt Try.f71 11) (entry_Right.l11.L k) :=
  loop_sound (entry_Right.ok k) mixed rfl (by kernel_rfl) (allL_of (l := []) (by kernel_rfl) allL_nil) entry_Right.l11.un entry_Right.l11.mk entry_Right.l11.fin entry_Right.l11.re (entry_Right.l11.once k) k entry_Right.l11.fit entry_Right.l11.fitO (entry_Right.l11.eq k) entry_Right.l11.finK entry_Right.l11.finK_eq
theorem entry_Right.eq (k : Nat) (x : (List Sapi_Line × Int)) : runF (entry_Right.E k) (codeOf Try.f71) (entry_Right.mk x) entry_Right.re = (entry_Right.D k).f x := by kernel_rfl
theorem entry_Right.fit (s : St U) (x : (List Sapi_Line × Int)) (h : entry_Right.un s = some x) : Fits s (entry_Right.mk x) := by
  unfold entry_Right.un at h
  split at h
  · cases h
    refine fits_ren [] ?_ ?_ ren_nil rfl
    · exact List.forall_mem_cons.2 ⟨FV.one (FV.same (by assumption) rfl), List.forall_mem_cons.2 ⟨FV.one (FV.same (by assumption) rfl), fun _ hp => (List.not_mem_nil hp).elim⟩⟩
    · exact fun _ hp => (List.not_mem_nil hp).elim
  · cases h
theorem entry_Right.fitR (s : St U) (y : Int) (h : entry_Right.re s = some y) : Fits s (entry_Right.fin y) := by
  unfold entry_Right.re at h
  split at h
  · cases h
    refine fits_ren [] ?_ ?_ ren_nil rfl
    · exact List.forall_mem_cons.2 ⟨FV.one (FV.same (by assumption) rfl), fun _ hp => (List.not_mem_nil hp).elim⟩
    · exact fun _ hp => (List.not_mem_nil hp).elim
  · cases h
theorem entry_Right.sound (k : Nat) : Sound Try.prog DD 71 (entry_Right.D k) :=
  fun_sound (E := entry_Right.E k) (fn := Try.f71) (c := codeOf Try.f71) (entry_Right.ok k) mixed rfl Try.func71 (by kernel_rfl) (by kernel_rfl) (allL_of (l := [loopAt Try.f71 4, loopAt Try.f71 11]) (by kernel_rfl) (allL_cons (key := 4) (by kernel_rfl) rfl (entry_Right.l4.sound k) (allL_cons (key := 11) (by kernel_rfl) rfl (entry_Right.l11.sound k) allL_nil))) (entry_Right.D k) entry_Right.mk entry_Right.re (by kernel_rfl) (by kernel_rfl) entry_Right.fit entry_Right.fitR (entry_Right.eq k)
/-! ### pyx/period.is: function 130 -/
noncomputable def period_is.f (k : Nat) (a0 : Int) : Option Bool := cond (decide (a0 ≥ 0)) (some (decide (a0 < 12))) (some false)
noncomputable def period_is.un (s : St U) : Option Int := match s.get 0 with | .flat (.int .i64 x1) => some x1 | _ => none
noncomputable def period_is.mk (x : Int) : St U := ⟨[(0, .flat (.int .i64 x))], []⟩
noncomputable def period_is.fin (y : Bool) : St U := ⟨[(0, .flat (.bool y))], []⟩
noncomputable def period_is.D (k : Nat) : FDen U := { X := Int, Y := Bool, nt := 9, gh := [], un := period_is.un, f := fun x => period_is.f k (x), fin := period_is.fin, cl := true, clo := fun _ _ => rfl }
noncomputable def period_is.re (s : St U) : Option Bool := match s.get 0 with | .flat (.bool x1) => some x1 | _ => none
noncomputable def period_is.jl : List (Nat × JDen U) := []
noncomputable def period_is.fl (k : Nat) : List (Nat × FDen U) := []
noncomputable def period_is.ll (k : Nat) : List (Nat × LDen U) := []
noncomputable def period_is.E (k : Nat) : Env U := { P := Try.prog, D := DD, fd := lk (period_is.fl k), ld := lk (period_is.ll k), jd := lk period_is.jl, mode := lk [], elc := lk ec, mpc := lk mc, rts := Try.f130.resultTypes.toList, dyn := fun t => false, vecs := fun d => false, results := Try.f130.results.toList, gh := [], own := false, io := fun g i => false }
theorem period_is.ok (k : Nat) : EnvOk (period_is.E k) := envOk lawful (period_is.fl k) (period_is.ll k) period_is.jl _ _ _ _ _ _ _ _ _ _ (by
  intro p hp
  simp [period_is.fl] at hp) (by
  intro p hp
  simp [period_is.jl] at hp)
theorem period_is.eq (k : Nat) (x : Int) : runF (period_is.E k) (codeOf Try.f130) (period_is.mk x) period_is.re = (period_is.D k).f x := by kernel_rfl
theorem period_is.fit (s : St U) (x : Int) (h : period_is.un s = some x) : Fits s (period_is.mk x) := by
  unfold period_is.un at h
  split at h
  · cases h
    refine fits_ren [] ?_ ?_ ren_nil rfl
    · exact List.forall_mem_cons.2 ⟨FV.one (FV.same (by assumption) rfl), fun _ hp => (List.not_mem_nil hp).elim⟩
    · exact fun _ hp => (List.not_mem_nil hp).elim
  · cases h
theorem period_is.fitR (s : St U) (y : Bool) (h : period_is.re s = some y) : Fits s (period_is.fin y) := by
  unfold period_is.re at h
  split at h
  · cases h
    refine fits_ren [] ?_ ?_ ren_nil rfl
    · exact List.forall_mem_cons.2 ⟨FV.one (FV.same (by assumption) rfl), fun _ hp => (List.not_mem_nil hp).elim⟩
    · exact fun _ hp => (List.not_mem_nil hp).elim
  · cases h
theorem period_is.sound (k : Nat) : Sound Try.prog DD 130 (period_is.D k) :=
  fun_sound (E := period_is.E k) (fn := Try.f130) (c := codeOf Try.f130) (period_is.ok k) mixed rfl Try.func130 (by kernel_rfl) (by kernel_rfl) (allL_of (l := []) (by kernel_rfl) allL_nil) (period_is.D k) period_is.mk period_is.re (by kernel_rfl) (by kernel_rfl) period_is.fit period_is.fitR (period_is.eq k)
end
end Go.Proofs.Ytlaogfkgkpgofaa
