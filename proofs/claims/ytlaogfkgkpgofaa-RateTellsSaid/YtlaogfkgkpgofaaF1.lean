import Derived.Test.YtlaogfkgkpgofaaF0
/-! Functions, told; their equations with the evaluator; that they are sound. Written by gen.py. -/
namespace Go.Proofs.Ytlaogfkgkpgofaa
open Go Go.Ev
noncomputable section
set_option linter.unusedVariables false
set_option linter.unusedSimpArgs false
set_option maxRecDepth 100000
/-! ### pyx/limb.less: function 152 -/
noncomputable def limb_less.f (k : Nat) (a0 : Int) (a1 : Int) (a2 : Int) : Option (Int × Int) := some (IntKind.wrap .u64 ((IntKind.wrap .u64 (a0 - a1)) - a2), Int.fdiv (bits .or .u64 (bits .and .u64 (bits .xor .u64 18446744073709551615 a0) a1) (bits .and .u64 (bits .or .u64 (bits .xor .u64 18446744073709551615 a0) a1) (IntKind.wrap .u64 ((IntKind.wrap .u64 (a0 - a1)) - a2)))) (2 ^ 63))
noncomputable def limb_less.un (s : St U) : Option (Int × Int × Int) := match s.get 0, s.get 1, s.get 2 with | .flat (.int .u64 x1), .flat (.int .u64 x2), .flat (.int .u64 x3) => some (x1, x2, x3) | _, _, _ => none
noncomputable def limb_less.mk (x : (Int × Int × Int)) : St U := ⟨[(0, .flat (.int .u64 x.1)), (1, .flat (.int .u64 x.2.1)), (2, .flat (.int .u64 x.2.2))], []⟩
noncomputable def limb_less.fin (y : (Int × Int)) : St U := ⟨[(0, .tup [.flat (.int .u64 y.1), .flat (.int .u64 y.2)])], []⟩
noncomputable def limb_less.D (k : Nat) : FDen U := { X := (Int × Int × Int), Y := (Int × Int), nt := 27, gh := [], un := limb_less.un, f := fun x => limb_less.f k (x.1) (x.2.1) (x.2.2), fin := limb_less.fin, cl := true, clo := fun _ _ => rfl }
noncomputable def limb_less.re (s : St U) : Option (Int × Int) := match s.get 0 with | .tup [.flat (.int .u64 x1), .flat (.int .u64 x2)] => some (x1, x2) | _ => none
noncomputable def limb_less.jl : List (Nat × JDen U) := []
noncomputable def limb_less.fl (k : Nat) : List (Nat × FDen U) := []
noncomputable def limb_less.ll (k : Nat) : List (Nat × LDen U) := []
noncomputable def limb_less.E (k : Nat) : Env U := { P := Try.prog, D := DD, fd := lk (limb_less.fl k), sf := lk sl0, ld := lk (limb_less.ll k), jd := lk limb_less.jl, mode := lk [], elc := lk ec, mpc := lk mc, rts := Try.f152.resultTypes.toList, dyn := fun t => false, vecs := fun d => false, results := Try.f152.results.toList, gh := [], own := false, io := fun g i => false }
theorem limb_less.ok (k : Nat) : EnvOk (limb_less.E k) := envOk lawful (limb_less.fl k) sl0 (limb_less.ll k) limb_less.jl _ _ _ _ _ _ _ _ _ _ (by
  intro p hp
  simp [limb_less.fl] at hp) sl0_ok (by
  intro p hp
  simp [limb_less.jl] at hp)
theorem limb_less.eq (k : Nat) (x : (Int × Int × Int)) : runF (limb_less.E k) (codeOf Try.f152) (limb_less.mk x) limb_less.re = (limb_less.D k).f x := by kernel_rfl
theorem limb_less.fit (s : St U) (x : (Int × Int × Int)) (h : limb_less.un s = some x) : Fits s (limb_less.mk x) := by
  unfold limb_less.un at h
  split at h
  · cases h
    refine fits_ren [] ?_ ?_ ren_nil rfl
    · exact List.forall_mem_cons.2 ⟨FV.one (FV.same (by assumption) rfl), List.forall_mem_cons.2 ⟨FV.one (FV.same (by assumption) rfl), List.forall_mem_cons.2 ⟨FV.one (FV.same (by assumption) rfl), fun _ hp => (List.not_mem_nil hp).elim⟩⟩⟩
    · exact fun _ hp => (List.not_mem_nil hp).elim
  · cases h
theorem limb_less.fitR (s : St U) (y : (Int × Int)) (h : limb_less.re s = some y) : Fits s (limb_less.fin y) := by
  unfold limb_less.re at h
  split at h
  · cases h
    refine fits_ren [] ?_ ?_ ren_nil rfl
    · exact List.forall_mem_cons.2 ⟨FV.tup (by assumption) (FTs.cons (FVA.one (FV.same rfl rfl)) (FTs.cons (FVA.one (FV.same rfl rfl)) (FTs.nil))), fun _ hp => (List.not_mem_nil hp).elim⟩
    · exact fun _ hp => (List.not_mem_nil hp).elim
  · cases h
theorem limb_less.sound (k : Nat) : Sound Try.prog DD 152 (limb_less.D k) :=
  fun_sound (E := limb_less.E k) (fn := Try.f152) (c := codeOf Try.f152) (limb_less.ok k) mixed rfl Try.func152 (by kernel_rfl) (by kernel_rfl) (allL_of (l := []) (by kernel_rfl) allL_nil) (limb_less.D k) limb_less.mk limb_less.re (by kernel_rfl) (by kernel_rfl) limb_less.fit limb_less.fitR (limb_less.eq k)
/-! ### pyx/limb.Sub: function 128 -/
noncomputable def limb_Sub.f (k : Nat) (a0 : (Int × Int)) (a1 : (Int × Int)) : Option ((Int × Int) × Bool) := (limb_less.f k a0.1 a1.1 0).bind fun t1 => ((limb_less.f k a0.2 a1.2 t1.2).bind fun t2 => (cond (decide (t2.2 > 0)) (some ((0, 0), false)) (some ((t1.1, t2.1), true))))
noncomputable def limb_Sub.un (s : St U) : Option ((Int × Int) × (Int × Int)) := match s.get 0, s.get 1 with | .agg [.flat (.int .u64 x1), .flat (.int .u64 x2)], .agg [.flat (.int .u64 x3), .flat (.int .u64 x4)] => some ((x1, x2), (x3, x4)) | _, _ => none
noncomputable def limb_Sub.mk (x : ((Int × Int) × (Int × Int))) : St U := ⟨[(0, .agg [.flat (.int .u64 x.1.1), .flat (.int .u64 x.1.2)]), (1, .agg [.flat (.int .u64 x.2.1), .flat (.int .u64 x.2.2)])], []⟩
noncomputable def limb_Sub.fin (y : ((Int × Int) × Bool)) : St U := ⟨[(0, .tup [.agg [.flat (.int .u64 y.1.1), .flat (.int .u64 y.1.2)], .flat (.bool y.2)])], []⟩
noncomputable def limb_Sub.D (k : Nat) : FDen U := { X := ((Int × Int) × (Int × Int)), Y := ((Int × Int) × Bool), nt := 33, gh := [], un := limb_Sub.un, f := fun x => limb_Sub.f k (x.1) (x.2), fin := limb_Sub.fin, cl := true, clo := fun _ _ => rfl }
noncomputable def limb_Sub.re (s : St U) : Option ((Int × Int) × Bool) := match s.get 0 with | .tup [.agg [.flat (.int .u64 x1), .flat (.int .u64 x2)], .flat (.bool x3)] => some ((x1, x2), x3) | _ => none
noncomputable def limb_Sub.jl : List (Nat × JDen U) := []
noncomputable def limb_Sub.fl (k : Nat) : List (Nat × FDen U) := [(152, limb_less.D k)]
noncomputable def limb_Sub.ll (k : Nat) : List (Nat × LDen U) := []
noncomputable def limb_Sub.E (k : Nat) : Env U := { P := Try.prog, D := DD, fd := lk (limb_Sub.fl k), sf := lk sl0, ld := lk (limb_Sub.ll k), jd := lk limb_Sub.jl, mode := lk [], elc := lk ec, mpc := lk mc, rts := Try.f128.resultTypes.toList, dyn := fun t => false, vecs := fun d => false, results := Try.f128.results.toList, gh := [], own := false, io := fun g i => false }
theorem limb_Sub.ok (k : Nat) : EnvOk (limb_Sub.E k) := envOk lawful (limb_Sub.fl k) sl0 (limb_Sub.ll k) limb_Sub.jl _ _ _ _ _ _ _ _ _ _ (by
  intro p hp
  simp only [limb_Sub.fl, List.mem_cons, List.not_mem_nil, or_false] at hp
  rcases hp with rfl
  · exact ⟨limb_less.sound k, enter_of Try.func152 (by kernel_rfl) (by kernel_rfl)⟩) sl0_ok (by
  intro p hp
  simp [limb_Sub.jl] at hp)
theorem limb_Sub.eq (k : Nat) (x : ((Int × Int) × (Int × Int))) : runF (limb_Sub.E k) (codeOf Try.f128) (limb_Sub.mk x) limb_Sub.re = (limb_Sub.D k).f x := by kernel_rfl
theorem limb_Sub.fit (s : St U) (x : ((Int × Int) × (Int × Int))) (h : limb_Sub.un s = some x) : Fits s (limb_Sub.mk x) := by
  unfold limb_Sub.un at h
  split at h
  · cases h
    refine fits_ren [] ?_ ?_ ren_nil rfl
    · exact List.forall_mem_cons.2 ⟨FV.one (FV.same (by assumption) rfl), List.forall_mem_cons.2 ⟨FV.one (FV.same (by assumption) rfl), fun _ hp => (List.not_mem_nil hp).elim⟩⟩
    · exact fun _ hp => (List.not_mem_nil hp).elim
  · cases h
theorem limb_Sub.fitR (s : St U) (y : ((Int × Int) × Bool)) (h : limb_Sub.re s = some y) : Fits s (limb_Sub.fin y) := by
  unfold limb_Sub.re at h
  split at h
  · cases h
    refine fits_ren [] ?_ ?_ ren_nil rfl
    · exact List.forall_mem_cons.2 ⟨FV.tup (by assumption) (FTs.cons (FVA.one (FV.same rfl rfl)) (FTs.cons (FVA.one (FV.same rfl rfl)) (FTs.nil))), fun _ hp => (List.not_mem_nil hp).elim⟩
    · exact fun _ hp => (List.not_mem_nil hp).elim
  · cases h
theorem limb_Sub.sound (k : Nat) : Sound Try.prog DD 128 (limb_Sub.D k) :=
  fun_sound (E := limb_Sub.E k) (fn := Try.f128) (c := codeOf Try.f128) (limb_Sub.ok k) mixed rfl Try.func128 (by kernel_rfl) (by kernel_rfl) (allL_of (l := []) (by kernel_rfl) allL_nil) (limb_Sub.D k) limb_Sub.mk limb_Sub.re (by kernel_rfl) (by kernel_rfl) limb_Sub.fit limb_Sub.fitR (limb_Sub.eq k)
/-! ### pyx/dec.plus: function 85 -/
noncomputable def dec_plus.f (k : Nat) (a0 : (Int × Int × Int × Int)) (a1 : (Int × Int × Int × Int)) : Option (Int × Int × Int × Int) := (dec_halves.f k (a0.1, a0.2.1, a0.2.2.1, a0.2.2.2)).bind fun t1 => ((dec_halves.f k (a1.1, a1.2.1, a1.2.2.1, a1.2.2.2)).bind fun t2 => ((limb_Add.f k (t1.2.1, t1.2.2) (t2.2.1, t2.2.2)).bind fun t3 => ((limb_Add.f k (t1.1.1, t1.1.2) (t2.1.1, t2.1.2)).bind fun t4 => (((cond (!t4.2) ((limb_Sub.f k (t2.1.1, t2.1.2) (bits .xor .u64 18446744073709551615 t1.1.1, bits .xor .u64 18446744073709551615 t1.1.2)).bind fun t5 => ((limb_Of.f k 1).bind fun t6 => ((limb_Sub.f k (t5.1.1, t5.1.2) (t6.1, t6.2)).bind fun t7 => ((limb_Of.f k 1).bind fun t8 => ((limb_Add.f k (t3.1.1, t3.1.2) (t8.1, t8.2)).bind fun t9 => (some (0, 0, 0, 0, t9.1.1, t9.1.2, t7.1.1, t7.1.2))))))) (some (0, 0, 0, 0, t3.1.1, t3.1.2, t4.1.1, t4.1.2))) : Option (Int × Int × Int × Int × Int × Int × Int × Int)).bind fun y18 => (some (y18.2.2.2.2.2.2.1, y18.2.2.2.2.2.2.2, y18.2.2.2.2.1, y18.2.2.2.2.2.1))))))
noncomputable def dec_plus.un (s : St U) : Option ((Int × Int × Int × Int) × (Int × Int × Int × Int)) := match s.get 0, s.get 1 with | .agg [.flat (.int .u64 x1), .flat (.int .u64 x2), .flat (.int .u64 x3), .flat (.int .u64 x4)], .agg [.flat (.int .u64 x5), .flat (.int .u64 x6), .flat (.int .u64 x7), .flat (.int .u64 x8)] => some ((x1, x2, x3, x4), (x5, x6, x7, x8)) | _, _ => none
noncomputable def dec_plus.mk (x : ((Int × Int × Int × Int) × (Int × Int × Int × Int))) : St U := ⟨[(0, .agg [.flat (.int .u64 x.1.1), .flat (.int .u64 x.1.2.1), .flat (.int .u64 x.1.2.2.1), .flat (.int .u64 x.1.2.2.2)]), (1, .agg [.flat (.int .u64 x.2.1), .flat (.int .u64 x.2.2.1), .flat (.int .u64 x.2.2.2.1), .flat (.int .u64 x.2.2.2.2)])], []⟩
noncomputable def dec_plus.fin (y : (Int × Int × Int × Int)) : St U := ⟨[(0, .agg [.flat (.int .u64 y.1), .flat (.int .u64 y.2.1), .flat (.int .u64 y.2.2.1), .flat (.int .u64 y.2.2.2)])], []⟩
noncomputable def dec_plus.D (k : Nat) : FDen U := { X := ((Int × Int × Int × Int) × (Int × Int × Int × Int)), Y := (Int × Int × Int × Int), nt := 70, gh := [], un := dec_plus.un, f := fun x => dec_plus.f k (x.1) (x.2), fin := dec_plus.fin, cl := true, clo := fun _ _ => rfl }
noncomputable def dec_plus.re (s : St U) : Option (Int × Int × Int × Int) := match s.get 0 with | .agg [.flat (.int .u64 x1), .flat (.int .u64 x2), .flat (.int .u64 x3), .flat (.int .u64 x4)] => some (x1, x2, x3, x4) | _ => none
noncomputable def dec_plus.j6001.fin (y : (Int × Int × Int × Int × Int × Int × Int × Int)) : Out U := match y with | (x10, x11, x12, x13, x14, x15, x16, x17) => .norm ⟨[(4, .ptr 4 0), (9, .ptr 9 0), (11, .ptr 11 0)], [(4, .lit [.flat (.int .u64 x10), .flat (.int .u64 x11), .flat (.int .u64 x12), .flat (.int .u64 x13)]), (9, .lit [.flat (.int .u64 x14), .flat (.int .u64 x15)]), (11, .lit [.flat (.int .u64 x16), .flat (.int .u64 x17)])]⟩
noncomputable def dec_plus.j6001.finK {ρ : Type} (y : (Int × Int × Int × Int × Int × Int × Int × Int)) (K : Out U → Option ρ) : Option ρ := match y with | (x10, x11, x12, x13, x14, x15, x16, x17) => K (.norm ⟨[(4, .ptr 4 0), (9, .ptr 9 0), (11, .ptr 11 0)], [(4, .lit [.flat (.int .u64 x10), .flat (.int .u64 x11), .flat (.int .u64 x12), .flat (.int .u64 x13)]), (9, .lit [.flat (.int .u64 x14), .flat (.int .u64 x15)]), (11, .lit [.flat (.int .u64 x16), .flat (.int .u64 x17)])]⟩)
theorem dec_plus.j6001.finK_eq {ρ : Type} (y : (Int × Int × Int × Int × Int × Int × Int × Int)) (K : Out U → Option ρ) : dec_plus.j6001.finK y K = K (dec_plus.j6001.fin y) := by
  unfold dec_plus.j6001.finK dec_plus.j6001.fin
  first | rfl | (split <;> rfl)
noncomputable def dec_plus.j6001.re : Out U → Option ((Int × Int × Int × Int × Int × Int × Int × Int)) | .norm s => (match s.get 4, s.get 9, s.get 11, lk s.o 4, lk s.o 9, lk s.o 11 with | .ptr 4 0, .ptr 9 0, .ptr 11 0, some (.lit [.flat (.int .u64 x10), .flat (.int .u64 x11), .flat (.int .u64 x12), .flat (.int .u64 x13)]), some (.lit [.flat (.int .u64 x14), .flat (.int .u64 x15)]), some (.lit [.flat (.int .u64 x16), .flat (.int .u64 x17)]) => some (x10, x11, x12, x13, x14, x15, x16, x17) | _, _, _, _, _, _ => none) | _ => none
noncomputable def dec_plus.j6001.J : JDen U := { Y := (Int × Int × Int × Int × Int × Int × Int × Int), re := dec_plus.j6001.re, fin := dec_plus.j6001.fin, finK := dec_plus.j6001.finK, finK_eq := dec_plus.j6001.finK_eq }
theorem dec_plus.j6001.fit (o : Out U) (y : (Int × Int × Int × Int × Int × Int × Int × Int)) (h : dec_plus.j6001.re o = some y) : FitsO o (dec_plus.j6001.fin y) := by
  unfold dec_plus.j6001.re at h
  split at h
  · split at h
    · cases h
      refine fitsO_norm (fits_ren [] ?_ ?_ ren_nil rfl)
      · exact List.forall_mem_cons.2 ⟨FV.one (FV.ptr (by assumption)), List.forall_mem_cons.2 ⟨FV.one (FV.ptr (by assumption)), List.forall_mem_cons.2 ⟨FV.one (FV.ptr (by assumption)), fun _ hp => (List.not_mem_nil hp).elim⟩⟩⟩
      · exact List.forall_mem_cons.2 ⟨(FO.same (show lk (St.o _) 4 = some _ from by assumption) rfl), List.forall_mem_cons.2 ⟨(FO.same (show lk (St.o _) 9 = some _ from by assumption) rfl), List.forall_mem_cons.2 ⟨(FO.same (show lk (St.o _) 11 = some _ from by assumption) rfl), fun _ hp => (List.not_mem_nil hp).elim⟩⟩⟩
    · cases h
  · cases h
noncomputable def dec_plus.jl : List (Nat × JDen U) := [(6001, dec_plus.j6001.J)]
noncomputable def dec_plus.fl (k : Nat) : List (Nat × FDen U) := [(126, dec_halves.D k), (127, limb_Add.D k), (128, limb_Sub.D k), (129, limb_Of.D k)]
noncomputable def dec_plus.ll (k : Nat) : List (Nat × LDen U) := []
noncomputable def dec_plus.E (k : Nat) : Env U := { P := Try.prog, D := DD, fd := lk (dec_plus.fl k), sf := lk sl0, ld := lk (dec_plus.ll k), jd := lk dec_plus.jl, mode := lk [], elc := lk ec, mpc := lk mc, rts := Try.f85.resultTypes.toList, dyn := fun t => false, vecs := fun d => false, results := Try.f85.results.toList, gh := [], own := false, io := fun g i => false }
theorem dec_plus.ok (k : Nat) : EnvOk (dec_plus.E k) := envOk lawful (dec_plus.fl k) sl0 (dec_plus.ll k) dec_plus.jl _ _ _ _ _ _ _ _ _ _ (by
  intro p hp
  simp only [dec_plus.fl, List.mem_cons, List.not_mem_nil, or_false] at hp
  rcases hp with rfl | rfl | rfl | rfl
  · exact ⟨dec_halves.sound k, enter_of Try.func126 (by kernel_rfl) (by kernel_rfl)⟩
  · exact ⟨limb_Add.sound k, enter_of Try.func127 (by kernel_rfl) (by kernel_rfl)⟩
  · exact ⟨limb_Sub.sound k, enter_of Try.func128 (by kernel_rfl) (by kernel_rfl)⟩
  · exact ⟨limb_Of.sound k, enter_of Try.func129 (by kernel_rfl) (by kernel_rfl)⟩) sl0_ok (by
  intro p hp
  simp only [dec_plus.jl, List.mem_cons, List.not_mem_nil, or_false] at hp
  rcases hp with rfl
  · exact dec_plus.j6001.fit)
theorem dec_plus.eq (k : Nat) (x : ((Int × Int × Int × Int) × (Int × Int × Int × Int))) : runF (dec_plus.E k) (codeOf Try.f85) (dec_plus.mk x) dec_plus.re = (dec_plus.D k).f x := by kernel_rfl
theorem dec_plus.fit (s : St U) (x : ((Int × Int × Int × Int) × (Int × Int × Int × Int))) (h : dec_plus.un s = some x) : Fits s (dec_plus.mk x) := by
  unfold dec_plus.un at h
  split at h
  · cases h
    refine fits_ren [] ?_ ?_ ren_nil rfl
    · exact List.forall_mem_cons.2 ⟨FV.one (FV.same (by assumption) rfl), List.forall_mem_cons.2 ⟨FV.one (FV.same (by assumption) rfl), fun _ hp => (List.not_mem_nil hp).elim⟩⟩
    · exact fun _ hp => (List.not_mem_nil hp).elim
  · cases h
theorem dec_plus.fitR (s : St U) (y : (Int × Int × Int × Int)) (h : dec_plus.re s = some y) : Fits s (dec_plus.fin y) := by
  unfold dec_plus.re at h
  split at h
  · cases h
    refine fits_ren [] ?_ ?_ ren_nil rfl
    · exact List.forall_mem_cons.2 ⟨FV.one (FV.same (by assumption) rfl), fun _ hp => (List.not_mem_nil hp).elim⟩
    · exact fun _ hp => (List.not_mem_nil hp).elim
  · cases h
theorem dec_plus.sound (k : Nat) : Sound Try.prog DD 85 (dec_plus.D k) :=
  fun_sound (E := dec_plus.E k) (fn := Try.f85) (c := codeOf Try.f85) (dec_plus.ok k) mixed rfl Try.func85 (by kernel_rfl) (by kernel_rfl) (allL_of (l := []) (by kernel_rfl) allL_nil) (dec_plus.D k) dec_plus.mk dec_plus.re (by kernel_rfl) (by kernel_rfl) dec_plus.fit dec_plus.fitR (dec_plus.eq k)
/-! ### pyx/dec.made: function 84 -/
noncomputable def dec_made.f (k : Nat) (a0 : Bool) (a1 : (Int × Int × Int × Int)) (a2 : Int) : Option (Sapi_Dec × Int) := (limb_Short.f k (a1.1, a1.2.1, a1.2.2.1, a1.2.2.2)).bind fun t1 => (((cond (!t1.2) (some (a0, a2, true, false, 0, 0, 0, t1.1.1, t1.1.2)) ((dec_small.f k (t1.1.1, t1.1.2)).bind fun t11 => (some (a0, a2, !t11, false, 0, 0, 0, t1.1.1, t1.1.2)))) : Option (Bool × Int × Bool × Bool × Int × Int × Int × Int × Int)).bind fun y12 => (cond (y12.2.2.1) (some ((⟨false, (0, 0), 0⟩ : Sapi_Dec), 3)) (cond (y12.1) ((dec_nought.f k (y12.2.2.2.2.2.2.2.1, y12.2.2.2.2.2.2.2.2)).bind fun t13 => (some ((⟨!t13, (y12.2.2.2.2.2.2.2.1, y12.2.2.2.2.2.2.2.2), y12.2.1⟩ : Sapi_Dec), 0))) (some ((⟨false, (y12.2.2.2.2.2.2.2.1, y12.2.2.2.2.2.2.2.2), y12.2.1⟩ : Sapi_Dec), 0)))))
noncomputable def dec_made.un (s : St U) : Option (Bool × (Int × Int × Int × Int) × Int) := match s.get 0, s.get 1, s.get 2 with | .flat (.bool x1), .agg [.flat (.int .u64 x2), .flat (.int .u64 x3), .flat (.int .u64 x4), .flat (.int .u64 x5)], .flat (.int .i64 x6) => some (x1, (x2, x3, x4, x5), x6) | _, _, _ => none
noncomputable def dec_made.mk (x : (Bool × (Int × Int × Int × Int) × Int)) : St U := ⟨[(0, .flat (.bool x.1)), (1, .agg [.flat (.int .u64 x.2.1.1), .flat (.int .u64 x.2.1.2.1), .flat (.int .u64 x.2.1.2.2.1), .flat (.int .u64 x.2.1.2.2.2)]), (2, .flat (.int .i64 x.2.2))], []⟩
noncomputable def dec_made.fin (y : (Sapi_Dec × Int)) : St U := ⟨[(0, .tup [.agg [.flat (.bool y.1.f_Neg), .flat (.int .u64 y.1.f_C.1), .flat (.int .u64 y.1.f_C.2), .flat (.int .i64 y.1.f_Scale)], .flat (.int .i64 y.2)])], []⟩
noncomputable def dec_made.D (k : Nat) : FDen U := { X := (Bool × (Int × Int × Int × Int) × Int), Y := (Sapi_Dec × Int), nt := 32, gh := [], un := dec_made.un, f := fun x => dec_made.f k (x.1) (x.2.1) (x.2.2), fin := dec_made.fin, cl := true, clo := fun _ _ => rfl }
noncomputable def dec_made.re (s : St U) : Option (Sapi_Dec × Int) := match s.get 0 with | .tup [.agg [.flat (.bool x1), .flat (.int .u64 x2), .flat (.int .u64 x3), .flat (.int .i64 x4)], .flat (.int .i64 x5)] => some ((⟨x1, (x2, x3), x4⟩ : Sapi_Dec), x5) | _ => none
noncomputable def dec_made.j2000.fin (y : (Bool × Int × Bool × Bool × Int × Int × Int × Int × Int)) : Out U := match y with | (x2, x3, x10, x4, x5, x6, x7, x8, x9) => .norm ⟨[(6, .ptr 6 0), (8, .ptr 8 0), (0, .flat (.bool x2)), (2, .flat (.int .i64 x3)), (21, .flat (.bool x10))], [(6, .lit [.flat (.bool x4), .flat (.int .u64 x5), .flat (.int .u64 x6), .flat (.int .i64 x7)]), (8, .lit [.flat (.int .u64 x8), .flat (.int .u64 x9)])]⟩
noncomputable def dec_made.j2000.finK {ρ : Type} (y : (Bool × Int × Bool × Bool × Int × Int × Int × Int × Int)) (K : Out U → Option ρ) : Option ρ := match y with | (x2, x3, x10, x4, x5, x6, x7, x8, x9) => K (.norm ⟨[(6, .ptr 6 0), (8, .ptr 8 0), (0, .flat (.bool x2)), (2, .flat (.int .i64 x3)), (21, .flat (.bool x10))], [(6, .lit [.flat (.bool x4), .flat (.int .u64 x5), .flat (.int .u64 x6), .flat (.int .i64 x7)]), (8, .lit [.flat (.int .u64 x8), .flat (.int .u64 x9)])]⟩)
theorem dec_made.j2000.finK_eq {ρ : Type} (y : (Bool × Int × Bool × Bool × Int × Int × Int × Int × Int)) (K : Out U → Option ρ) : dec_made.j2000.finK y K = K (dec_made.j2000.fin y) := by
  unfold dec_made.j2000.finK dec_made.j2000.fin
  first | rfl | (split <;> rfl)
noncomputable def dec_made.j2000.re : Out U → Option ((Bool × Int × Bool × Bool × Int × Int × Int × Int × Int)) | .norm s => (match s.get 6, s.get 8, s.get 0, s.get 2, s.get 21, lk s.o 6, lk s.o 8 with | .ptr 6 0, .ptr 8 0, .flat (.bool x2), .flat (.int .i64 x3), .flat (.bool x10), some (.lit [.flat (.bool x4), .flat (.int .u64 x5), .flat (.int .u64 x6), .flat (.int .i64 x7)]), some (.lit [.flat (.int .u64 x8), .flat (.int .u64 x9)]) => some (x2, x3, x10, x4, x5, x6, x7, x8, x9) | _, _, _, _, _, _, _ => none) | _ => none
noncomputable def dec_made.j2000.J : JDen U := { Y := (Bool × Int × Bool × Bool × Int × Int × Int × Int × Int), re := dec_made.j2000.re, fin := dec_made.j2000.fin, finK := dec_made.j2000.finK, finK_eq := dec_made.j2000.finK_eq }
theorem dec_made.j2000.fit (o : Out U) (y : (Bool × Int × Bool × Bool × Int × Int × Int × Int × Int)) (h : dec_made.j2000.re o = some y) : FitsO o (dec_made.j2000.fin y) := by
  unfold dec_made.j2000.re at h
  split at h
  · split at h
    · cases h
      refine fitsO_norm (fits_ren [] ?_ ?_ ren_nil rfl)
      · exact List.forall_mem_cons.2 ⟨FV.one (FV.ptr (by assumption)), List.forall_mem_cons.2 ⟨FV.one (FV.ptr (by assumption)), List.forall_mem_cons.2 ⟨FV.one (FV.same (by assumption) rfl), List.forall_mem_cons.2 ⟨FV.one (FV.same (by assumption) rfl), List.forall_mem_cons.2 ⟨FV.one (FV.same (by assumption) rfl), fun _ hp => (List.not_mem_nil hp).elim⟩⟩⟩⟩⟩
      · exact List.forall_mem_cons.2 ⟨(FO.same (show lk (St.o _) 6 = some _ from by assumption) rfl), List.forall_mem_cons.2 ⟨(FO.same (show lk (St.o _) 8 = some _ from by assumption) rfl), fun _ hp => (List.not_mem_nil hp).elim⟩⟩
    · cases h
  · cases h
noncomputable def dec_made.jl : List (Nat × JDen U) := [(2000, dec_made.j2000.J)]
noncomputable def dec_made.fl (k : Nat) : List (Nat × FDen U) := [(125, limb_Short.D k), (123, dec_small.D k), (88, dec_nought.D k)]
noncomputable def dec_made.ll (k : Nat) : List (Nat × LDen U) := []
noncomputable def dec_made.E (k : Nat) : Env U := { P := Try.prog, D := DD, fd := lk (dec_made.fl k), sf := lk sl0, ld := lk (dec_made.ll k), jd := lk dec_made.jl, mode := lk [], elc := lk ec, mpc := lk mc, rts := Try.f84.resultTypes.toList, dyn := fun t => false, vecs := fun d => false, results := Try.f84.results.toList, gh := [], own := false, io := fun g i => false }
theorem dec_made.ok (k : Nat) : EnvOk (dec_made.E k) := envOk lawful (dec_made.fl k) sl0 (dec_made.ll k) dec_made.jl _ _ _ _ _ _ _ _ _ _ (by
  intro p hp
  simp only [dec_made.fl, List.mem_cons, List.not_mem_nil, or_false] at hp
  rcases hp with rfl | rfl | rfl
  · exact ⟨limb_Short.sound k, enter_of Try.func125 (by kernel_rfl) (by kernel_rfl)⟩
  · exact ⟨dec_small.sound k, enter_of Try.func123 (by kernel_rfl) (by kernel_rfl)⟩
  · exact ⟨dec_nought.sound k, enter_of Try.func88 (by kernel_rfl) (by kernel_rfl)⟩) sl0_ok (by
  intro p hp
  simp only [dec_made.jl, List.mem_cons, List.not_mem_nil, or_false] at hp
  rcases hp with rfl
  · exact dec_made.j2000.fit)
theorem dec_made.eq (k : Nat) (x : (Bool × (Int × Int × Int × Int) × Int)) : runF (dec_made.E k) (codeOf Try.f84) (dec_made.mk x) dec_made.re = (dec_made.D k).f x := by kernel_rfl
theorem dec_made.fit (s : St U) (x : (Bool × (Int × Int × Int × Int) × Int)) (h : dec_made.un s = some x) : Fits s (dec_made.mk x) := by
  unfold dec_made.un at h
  split at h
  · cases h
    refine fits_ren [] ?_ ?_ ren_nil rfl
    · exact List.forall_mem_cons.2 ⟨FV.one (FV.same (by assumption) rfl), List.forall_mem_cons.2 ⟨FV.one (FV.same (by assumption) rfl), List.forall_mem_cons.2 ⟨FV.one (FV.same (by assumption) rfl), fun _ hp => (List.not_mem_nil hp).elim⟩⟩⟩
    · exact fun _ hp => (List.not_mem_nil hp).elim
  · cases h
theorem dec_made.fitR (s : St U) (y : (Sapi_Dec × Int)) (h : dec_made.re s = some y) : Fits s (dec_made.fin y) := by
  unfold dec_made.re at h
  split at h
  · cases h
    refine fits_ren [] ?_ ?_ ren_nil rfl
    · exact List.forall_mem_cons.2 ⟨FV.tup (by assumption) (FTs.cons (FVA.one (FV.same rfl rfl)) (FTs.cons (FVA.one (FV.same rfl rfl)) (FTs.nil))), fun _ hp => (List.not_mem_nil hp).elim⟩
    · exact fun _ hp => (List.not_mem_nil hp).elim
  · cases h
theorem dec_made.sound (k : Nat) : Sound Try.prog DD 84 (dec_made.D k) :=
  fun_sound (E := dec_made.E k) (fn := Try.f84) (c := codeOf Try.f84) (dec_made.ok k) mixed rfl Try.func84 (by kernel_rfl) (by kernel_rfl) (allL_of (l := []) (by kernel_rfl) allL_nil) (dec_made.D k) dec_made.mk dec_made.re (by kernel_rfl) (by kernel_rfl) dec_made.fit dec_made.fitR (dec_made.eq k)
/-! ### pyx/dec.cmp: function 86 -/
noncomputable def dec_cmp.l2.once (k : Nat) (x : (Int × List Int × List Int)) : Option ((Int × List Int × List Int) ⊕ (Unit ⊕ Int)) := match x with | (x3, x1, x2) => cond (decide (x3 ≥ 0)) (cond (inb x3 4) (cond (Nat.blt (Int.toNat x3) 4) (cond (inb x3 4) (cond (Nat.blt (Int.toNat x3) 4) (cond ((List.getD x1 (Int.toNat x3) 0) != (List.getD x2 (Int.toNat x3) 0)) (cond (inb x3 4) (cond (Nat.blt (Int.toNat x3) 4) (cond (inb x3 4) (cond (Nat.blt (Int.toNat x3) 4) (cond (decide ((List.getD x1 (Int.toNat x3) 0) < (List.getD x2 (Int.toNat x3) 0))) (some (.inr (.inr (-1)))) (some (.inr (.inr 1)))) none) none) none) none) (some (.inl (IntKind.wrap .i64 (x3 - 1), x1, x2)))) none) none) none) none) (some (.inr (.inl ())))
noncomputable def dec_cmp.f (k : Nat) (a0 : (Int × Int × Int × Int)) (a1 : (Int × Int × Int × Int)) : Option Int := (iter (dec_cmp.l2.once k) k (3, [a0.1, a0.2.1, a0.2.2.1, a0.2.2.2], [a1.1, a1.2.1, a1.2.2.1, a1.2.2.2])).bind fun | .inl y5 => (some 0) | .inr y6 => (some y6)
noncomputable def dec_cmp.un (s : St U) : Option ((Int × Int × Int × Int) × (Int × Int × Int × Int)) := match s.get 0, s.get 1 with | .agg [.flat (.int .u64 x1), .flat (.int .u64 x2), .flat (.int .u64 x3), .flat (.int .u64 x4)], .agg [.flat (.int .u64 x5), .flat (.int .u64 x6), .flat (.int .u64 x7), .flat (.int .u64 x8)] => some ((x1, x2, x3, x4), (x5, x6, x7, x8)) | _, _ => none
noncomputable def dec_cmp.mk (x : ((Int × Int × Int × Int) × (Int × Int × Int × Int))) : St U := ⟨[(0, .agg [.flat (.int .u64 x.1.1), .flat (.int .u64 x.1.2.1), .flat (.int .u64 x.1.2.2.1), .flat (.int .u64 x.1.2.2.2)]), (1, .agg [.flat (.int .u64 x.2.1), .flat (.int .u64 x.2.2.1), .flat (.int .u64 x.2.2.2.1), .flat (.int .u64 x.2.2.2.2)])], []⟩
noncomputable def dec_cmp.fin (y : Int) : St U := ⟨[(0, .flat (.int .i64 y))], []⟩
noncomputable def dec_cmp.D (k : Nat) : FDen U := { X := ((Int × Int × Int × Int) × (Int × Int × Int × Int)), Y := Int, nt := 24, gh := [], un := dec_cmp.un, f := fun x => dec_cmp.f k (x.1) (x.2), fin := dec_cmp.fin, cl := true, clo := fun _ _ => rfl }
noncomputable def dec_cmp.re (s : St U) : Option Int := match s.get 0 with | .flat (.int .i64 x1) => some x1 | _ => none
noncomputable def dec_cmp.l2.mk (x : (Int × List Int × List Int)) : St U := match x with | (x3, x1, x2) => ⟨[(2, .ptr 2 0), (3, .ptr 3 0), (5, .flat (.int .i64 x3))], [(2, .arr 4 C.u64 x1), (3, .arr 4 C.u64 x2)]⟩
noncomputable def dec_cmp.l2.un (s : St U) : Option (Int × List Int × List Int) := match s.get 2, s.get 3, s.get 5, lk s.o 2, lk s.o 3 with | .ptr 2 0, .ptr 3 0, .flat (.int .i64 x3), some (.arr 4 C.u64 x1), some (.arr 4 C.u64 x2) => some (x3, x1, x2) | _, _, _, _, _ => none
noncomputable def dec_cmp.l2.fin (y : Unit ⊕ Int) : Out U := match y with | .inl () => .exit 0 ⟨[], []⟩ | .inr z => .ret (⟨[(0, .flat (.int .i64 z))], []⟩)
noncomputable def dec_cmp.l2.finK {ρ : Type} (y : Unit ⊕ Int) (K : Out U → Option ρ) : Option ρ := match y with | .inl () => K (.exit 0 ⟨[], []⟩) | .inr z => K (.ret (⟨[(0, .flat (.int .i64 z))], []⟩))
theorem dec_cmp.l2.finK_eq {ρ : Type} (y : Unit ⊕ Int) (K : Out U → Option ρ) : dec_cmp.l2.finK y K = K (dec_cmp.l2.fin y) := by
  unfold dec_cmp.l2.finK dec_cmp.l2.fin
  first | rfl | (split <;> rfl)
noncomputable def dec_cmp.l2.re : Out U → Option (Unit ⊕ Int) | .exit 0 s => (some (.inl ())) | .ret s => (match s.get 0 with | .flat (.int .i64 x1) => some (.inr x1) | _ => none) | _ => none
noncomputable def dec_cmp.l2.L (k : Nat) : LDen U := { X := (Int × List Int × List Int), Y := Unit ⊕ Int, un := dec_cmp.l2.un, f := iter (dec_cmp.l2.once k) k, fin := dec_cmp.l2.fin, finK := dec_cmp.l2.finK, finK_eq := dec_cmp.l2.finK_eq }
noncomputable def dec_cmp.jl : List (Nat × JDen U) := []
noncomputable def dec_cmp.fl (k : Nat) : List (Nat × FDen U) := []
noncomputable def dec_cmp.ll (k : Nat) : List (Nat × LDen U) := [(2, dec_cmp.l2.L k)]
noncomputable def dec_cmp.E (k : Nat) : Env U := { P := Try.prog, D := DD, fd := lk (dec_cmp.fl k), sf := lk sl0, ld := lk (dec_cmp.ll k), jd := lk dec_cmp.jl, mode := lk [(149, (4, C.u64))], elc := lk ec, mpc := lk mc, rts := Try.f86.resultTypes.toList, dyn := fun t => false, vecs := fun d => false, results := Try.f86.results.toList, gh := [], own := false, io := fun g i => false }
theorem dec_cmp.ok (k : Nat) : EnvOk (dec_cmp.E k) := envOk lawful (dec_cmp.fl k) sl0 (dec_cmp.ll k) dec_cmp.jl _ _ _ _ _ _ _ _ _ _ (by
  intro p hp
  simp [dec_cmp.fl] at hp) sl0_ok (by
  intro p hp
  simp [dec_cmp.jl] at hp)
theorem dec_cmp.l2.eq (k : Nat) (x : (Int × List Int × List Int)) : evC (dec_cmp.E k) (loopAt Try.f86 2) (dec_cmp.l2.mk x) (headK dec_cmp.l2.un dec_cmp.l2.re) = dec_cmp.l2.once k x := by kernel_rfl
theorem dec_cmp.l2.fit (s : St U) (x : (Int × List Int × List Int)) (h : dec_cmp.l2.un s = some x) : Fits s (dec_cmp.l2.mk x) := by
  unfold dec_cmp.l2.un at h
  split at h
  · cases h
    refine fits_ren [] ?_ ?_ ren_nil rfl
    · exact List.forall_mem_cons.2 ⟨FV.one (FV.ptr (by assumption)), List.forall_mem_cons.2 ⟨FV.one (FV.ptr (by assumption)), List.forall_mem_cons.2 ⟨FV.one (FV.same (by assumption) rfl), fun _ hp => (List.not_mem_nil hp).elim⟩⟩⟩
    · exact List.forall_mem_cons.2 ⟨(show lk (St.o _) 2 = some _ from by assumption), List.forall_mem_cons.2 ⟨(show lk (St.o _) 3 = some _ from by assumption), fun _ hp => (List.not_mem_nil hp).elim⟩⟩
  · cases h
theorem dec_cmp.l2.fitO (o : Out U) (y : Unit ⊕ Int) (h : dec_cmp.l2.re o = some y) : FitsO o (dec_cmp.l2.fin y) := by
  unfold dec_cmp.l2.re at h
  split at h
  · cases h
    refine fitsO_exit (fits_ren [] ?_ ?_ ren_nil rfl)
    · exact fun _ hp => (List.not_mem_nil hp).elim
    · exact fun _ hp => (List.not_mem_nil hp).elim
  · split at h
    · cases h
      refine fitsO_ret (fits_ren [] ?_ ?_ ren_nil rfl)
      · exact List.forall_mem_cons.2 ⟨FV.one (FV.same (by assumption) rfl), fun _ hp => (List.not_mem_nil hp).elim⟩
      · exact fun _ hp => (List.not_mem_nil hp).elim
    · cases h
  · cases h
theorem dec_cmp.l2.sound (k : Nat) : LSound (dec_cmp.E k) Try.f86.ntmps Try.f86 (loopAt Try.f86 2) (dec_cmp.l2.L k) :=
  loop_sound (dec_cmp.ok k) mixed rfl (by kernel_rfl) (allL_of (l := []) (by kernel_rfl) allL_nil) dec_cmp.l2.un dec_cmp.l2.mk dec_cmp.l2.fin dec_cmp.l2.re (dec_cmp.l2.once k) k dec_cmp.l2.fit dec_cmp.l2.fitO (dec_cmp.l2.eq k) dec_cmp.l2.finK dec_cmp.l2.finK_eq
theorem dec_cmp.eq (k : Nat) (x : ((Int × Int × Int × Int) × (Int × Int × Int × Int))) : runF (dec_cmp.E k) (codeOf Try.f86) (dec_cmp.mk x) dec_cmp.re = (dec_cmp.D k).f x := by kernel_rfl
theorem dec_cmp.fit (s : St U) (x : ((Int × Int × Int × Int) × (Int × Int × Int × Int))) (h : dec_cmp.un s = some x) : Fits s (dec_cmp.mk x) := by
  unfold dec_cmp.un at h
  split at h
  · cases h
    refine fits_ren [] ?_ ?_ ren_nil rfl
    · exact List.forall_mem_cons.2 ⟨FV.one (FV.same (by assumption) rfl), List.forall_mem_cons.2 ⟨FV.one (FV.same (by assumption) rfl), fun _ hp => (List.not_mem_nil hp).elim⟩⟩
    · exact fun _ hp => (List.not_mem_nil hp).elim
  · cases h
theorem dec_cmp.fitR (s : St U) (y : Int) (h : dec_cmp.re s = some y) : Fits s (dec_cmp.fin y) := by
  unfold dec_cmp.re at h
  split at h
  · cases h
    refine fits_ren [] ?_ ?_ ren_nil rfl
    · exact List.forall_mem_cons.2 ⟨FV.one (FV.same (by assumption) rfl), fun _ hp => (List.not_mem_nil hp).elim⟩
    · exact fun _ hp => (List.not_mem_nil hp).elim
  · cases h
theorem dec_cmp.sound (k : Nat) : Sound Try.prog DD 86 (dec_cmp.D k) :=
  fun_sound (E := dec_cmp.E k) (fn := Try.f86) (c := codeOf Try.f86) (dec_cmp.ok k) mixed rfl Try.func86 (by kernel_rfl) (by kernel_rfl) (allL_of (l := [loopAt Try.f86 2]) (by kernel_rfl) (allL_cons (key := 2) (by kernel_rfl) rfl (dec_cmp.l2.sound k) allL_nil)) (dec_cmp.D k) dec_cmp.mk dec_cmp.re (by kernel_rfl) (by kernel_rfl) dec_cmp.fit dec_cmp.fitR (dec_cmp.eq k)
/-! ### pyx/dec.less: function 87 -/
noncomputable def dec_less.f (k : Nat) (a0 : (Int × Int × Int × Int)) (a1 : (Int × Int × Int × Int)) : Option (Int × Int × Int × Int) := (dec_halves.f k (a0.1, a0.2.1, a0.2.2.1, a0.2.2.2)).bind fun t1 => ((dec_halves.f k (a1.1, a1.2.1, a1.2.2.1, a1.2.2.2)).bind fun t2 => ((limb_Sub.f k (t1.2.1, t1.2.2) (t2.2.1, t2.2.2)).bind fun t3 => ((limb_Sub.f k (t1.1.1, t1.1.2) (t2.1.1, t2.1.2)).bind fun t4 => (((cond (!t4.2) ((limb_Sub.f k (t2.1.1, t2.1.2) (t1.1.1, t1.1.2)).bind fun t5 => ((limb_Of.f k 1).bind fun t6 => ((limb_Sub.f k (t5.1.1, t5.1.2) (t6.1, t6.2)).bind fun t7 => ((limb_Of.f k 1).bind fun t8 => ((limb_Sub.f k (t3.1.1, t3.1.2) (t8.1, t8.2)).bind fun t9 => (some (0, 0, 0, 0, t9.1.1, t9.1.2, bits .xor .u64 18446744073709551615 t7.1.1, bits .xor .u64 18446744073709551615 t7.1.2))))))) (some (0, 0, 0, 0, t3.1.1, t3.1.2, t4.1.1, t4.1.2))) : Option (Int × Int × Int × Int × Int × Int × Int × Int)).bind fun y18 => (some (y18.2.2.2.2.2.2.1, y18.2.2.2.2.2.2.2, y18.2.2.2.2.1, y18.2.2.2.2.2.1))))))
noncomputable def dec_less.un (s : St U) : Option ((Int × Int × Int × Int) × (Int × Int × Int × Int)) := match s.get 0, s.get 1 with | .agg [.flat (.int .u64 x1), .flat (.int .u64 x2), .flat (.int .u64 x3), .flat (.int .u64 x4)], .agg [.flat (.int .u64 x5), .flat (.int .u64 x6), .flat (.int .u64 x7), .flat (.int .u64 x8)] => some ((x1, x2, x3, x4), (x5, x6, x7, x8)) | _, _ => none
noncomputable def dec_less.mk (x : ((Int × Int × Int × Int) × (Int × Int × Int × Int))) : St U := ⟨[(0, .agg [.flat (.int .u64 x.1.1), .flat (.int .u64 x.1.2.1), .flat (.int .u64 x.1.2.2.1), .flat (.int .u64 x.1.2.2.2)]), (1, .agg [.flat (.int .u64 x.2.1), .flat (.int .u64 x.2.2.1), .flat (.int .u64 x.2.2.2.1), .flat (.int .u64 x.2.2.2.2)])], []⟩
noncomputable def dec_less.fin (y : (Int × Int × Int × Int)) : St U := ⟨[(0, .agg [.flat (.int .u64 y.1), .flat (.int .u64 y.2.1), .flat (.int .u64 y.2.2.1), .flat (.int .u64 y.2.2.2)])], []⟩
noncomputable def dec_less.D (k : Nat) : FDen U := { X := ((Int × Int × Int × Int) × (Int × Int × Int × Int)), Y := (Int × Int × Int × Int), nt := 73, gh := [], un := dec_less.un, f := fun x => dec_less.f k (x.1) (x.2), fin := dec_less.fin, cl := true, clo := fun _ _ => rfl }
noncomputable def dec_less.re (s : St U) : Option (Int × Int × Int × Int) := match s.get 0 with | .agg [.flat (.int .u64 x1), .flat (.int .u64 x2), .flat (.int .u64 x3), .flat (.int .u64 x4)] => some (x1, x2, x3, x4) | _ => none
noncomputable def dec_less.j6001.fin (y : (Int × Int × Int × Int × Int × Int × Int × Int)) : Out U := match y with | (x10, x11, x12, x13, x14, x15, x16, x17) => .norm ⟨[(4, .ptr 4 0), (9, .ptr 9 0), (11, .ptr 11 0)], [(4, .lit [.flat (.int .u64 x10), .flat (.int .u64 x11), .flat (.int .u64 x12), .flat (.int .u64 x13)]), (9, .lit [.flat (.int .u64 x14), .flat (.int .u64 x15)]), (11, .lit [.flat (.int .u64 x16), .flat (.int .u64 x17)])]⟩
noncomputable def dec_less.j6001.finK {ρ : Type} (y : (Int × Int × Int × Int × Int × Int × Int × Int)) (K : Out U → Option ρ) : Option ρ := match y with | (x10, x11, x12, x13, x14, x15, x16, x17) => K (.norm ⟨[(4, .ptr 4 0), (9, .ptr 9 0), (11, .ptr 11 0)], [(4, .lit [.flat (.int .u64 x10), .flat (.int .u64 x11), .flat (.int .u64 x12), .flat (.int .u64 x13)]), (9, .lit [.flat (.int .u64 x14), .flat (.int .u64 x15)]), (11, .lit [.flat (.int .u64 x16), .flat (.int .u64 x17)])]⟩)
theorem dec_less.j6001.finK_eq {ρ : Type} (y : (Int × Int × Int × Int × Int × Int × Int × Int)) (K : Out U → Option ρ) : dec_less.j6001.finK y K = K (dec_less.j6001.fin y) := by
  unfold dec_less.j6001.finK dec_less.j6001.fin
  first | rfl | (split <;> rfl)
noncomputable def dec_less.j6001.re : Out U → Option ((Int × Int × Int × Int × Int × Int × Int × Int)) | .norm s => (match s.get 4, s.get 9, s.get 11, lk s.o 4, lk s.o 9, lk s.o 11 with | .ptr 4 0, .ptr 9 0, .ptr 11 0, some (.lit [.flat (.int .u64 x10), .flat (.int .u64 x11), .flat (.int .u64 x12), .flat (.int .u64 x13)]), some (.lit [.flat (.int .u64 x14), .flat (.int .u64 x15)]), some (.lit [.flat (.int .u64 x16), .flat (.int .u64 x17)]) => some (x10, x11, x12, x13, x14, x15, x16, x17) | _, _, _, _, _, _ => none) | _ => none
noncomputable def dec_less.j6001.J : JDen U := { Y := (Int × Int × Int × Int × Int × Int × Int × Int), re := dec_less.j6001.re, fin := dec_less.j6001.fin, finK := dec_less.j6001.finK, finK_eq := dec_less.j6001.finK_eq }
theorem dec_less.j6001.fit (o : Out U) (y : (Int × Int × Int × Int × Int × Int × Int × Int)) (h : dec_less.j6001.re o = some y) : FitsO o (dec_less.j6001.fin y) := by
  unfold dec_less.j6001.re at h
  split at h
  · split at h
    · cases h
      refine fitsO_norm (fits_ren [] ?_ ?_ ren_nil rfl)
      · exact List.forall_mem_cons.2 ⟨FV.one (FV.ptr (by assumption)), List.forall_mem_cons.2 ⟨FV.one (FV.ptr (by assumption)), List.forall_mem_cons.2 ⟨FV.one (FV.ptr (by assumption)), fun _ hp => (List.not_mem_nil hp).elim⟩⟩⟩
      · exact List.forall_mem_cons.2 ⟨(FO.same (show lk (St.o _) 4 = some _ from by assumption) rfl), List.forall_mem_cons.2 ⟨(FO.same (show lk (St.o _) 9 = some _ from by assumption) rfl), List.forall_mem_cons.2 ⟨(FO.same (show lk (St.o _) 11 = some _ from by assumption) rfl), fun _ hp => (List.not_mem_nil hp).elim⟩⟩⟩
    · cases h
  · cases h
noncomputable def dec_less.jl : List (Nat × JDen U) := [(6001, dec_less.j6001.J)]
noncomputable def dec_less.fl (k : Nat) : List (Nat × FDen U) := [(126, dec_halves.D k), (128, limb_Sub.D k), (129, limb_Of.D k)]
noncomputable def dec_less.ll (k : Nat) : List (Nat × LDen U) := []
noncomputable def dec_less.E (k : Nat) : Env U := { P := Try.prog, D := DD, fd := lk (dec_less.fl k), sf := lk sl0, ld := lk (dec_less.ll k), jd := lk dec_less.jl, mode := lk [], elc := lk ec, mpc := lk mc, rts := Try.f87.resultTypes.toList, dyn := fun t => false, vecs := fun d => false, results := Try.f87.results.toList, gh := [], own := false, io := fun g i => false }
theorem dec_less.ok (k : Nat) : EnvOk (dec_less.E k) := envOk lawful (dec_less.fl k) sl0 (dec_less.ll k) dec_less.jl _ _ _ _ _ _ _ _ _ _ (by
  intro p hp
  simp only [dec_less.fl, List.mem_cons, List.not_mem_nil, or_false] at hp
  rcases hp with rfl | rfl | rfl
  · exact ⟨dec_halves.sound k, enter_of Try.func126 (by kernel_rfl) (by kernel_rfl)⟩
  · exact ⟨limb_Sub.sound k, enter_of Try.func128 (by kernel_rfl) (by kernel_rfl)⟩
  · exact ⟨limb_Of.sound k, enter_of Try.func129 (by kernel_rfl) (by kernel_rfl)⟩) sl0_ok (by
  intro p hp
  simp only [dec_less.jl, List.mem_cons, List.not_mem_nil, or_false] at hp
  rcases hp with rfl
  · exact dec_less.j6001.fit)
theorem dec_less.eq (k : Nat) (x : ((Int × Int × Int × Int) × (Int × Int × Int × Int))) : runF (dec_less.E k) (codeOf Try.f87) (dec_less.mk x) dec_less.re = (dec_less.D k).f x := by kernel_rfl
theorem dec_less.fit (s : St U) (x : ((Int × Int × Int × Int) × (Int × Int × Int × Int))) (h : dec_less.un s = some x) : Fits s (dec_less.mk x) := by
  unfold dec_less.un at h
  split at h
  · cases h
    refine fits_ren [] ?_ ?_ ren_nil rfl
    · exact List.forall_mem_cons.2 ⟨FV.one (FV.same (by assumption) rfl), List.forall_mem_cons.2 ⟨FV.one (FV.same (by assumption) rfl), fun _ hp => (List.not_mem_nil hp).elim⟩⟩
    · exact fun _ hp => (List.not_mem_nil hp).elim
  · cases h
theorem dec_less.fitR (s : St U) (y : (Int × Int × Int × Int)) (h : dec_less.re s = some y) : Fits s (dec_less.fin y) := by
  unfold dec_less.re at h
  split at h
  · cases h
    refine fits_ren [] ?_ ?_ ren_nil rfl
    · exact List.forall_mem_cons.2 ⟨FV.one (FV.same (by assumption) rfl), fun _ hp => (List.not_mem_nil hp).elim⟩
    · exact fun _ hp => (List.not_mem_nil hp).elim
  · cases h
theorem dec_less.sound (k : Nat) : Sound Try.prog DD 87 (dec_less.D k) :=
  fun_sound (E := dec_less.E k) (fn := Try.f87) (c := codeOf Try.f87) (dec_less.ok k) mixed rfl Try.func87 (by kernel_rfl) (by kernel_rfl) (allL_of (l := []) (by kernel_rfl) allL_nil) (dec_less.D k) dec_less.mk dec_less.re (by kernel_rfl) (by kernel_rfl) dec_less.fit dec_less.fitR (dec_less.eq k)
/-! ### pyx/dec.Add: function 36 -/
noncomputable def dec_Add.f (k : Nat) (a0 : Sapi_Dec) (a1 : Sapi_Dec) : Option (Sapi_Dec × Int) := (((dec_Right.f k (⟨a0.f_Neg, (a0.f_C.1, a0.f_C.2), a0.f_Scale⟩ : Sapi_Dec)).bind fun t1 => (cond (!t1) (some (true, a0.f_Neg, a0.f_C.1, a0.f_C.2, a0.f_Scale, a1.f_Neg, a1.f_C.1, a1.f_C.2, a1.f_Scale, false, 0, 0, 0)) ((dec_Right.f k (⟨a1.f_Neg, (a1.f_C.1, a1.f_C.2), a1.f_Scale⟩ : Sapi_Dec)).bind fun t15 => (some (!t15, a0.f_Neg, a0.f_C.1, a0.f_C.2, a0.f_Scale, a1.f_Neg, a1.f_C.1, a1.f_C.2, a1.f_Scale, false, 0, 0, 0))))) : Option (Bool × Bool × Int × Int × Int × Bool × Int × Int × Int × Bool × Int × Int × Int)).bind fun y16 => (cond (y16.1) (some ((⟨false, (0, 0), 0⟩ : Sapi_Dec), 1)) ((dec_wide.f k (⟨y16.2.1, (y16.2.2.1, y16.2.2.2.1), y16.2.2.2.2.1⟩ : Sapi_Dec) (if y16.2.2.2.2.2.2.2.2.1 > y16.2.2.2.2.1 then y16.2.2.2.2.2.2.2.2.1 else y16.2.2.2.2.1)).bind fun t17 => ((dec_wide.f k (⟨y16.2.2.2.2.2.1, (y16.2.2.2.2.2.2.1, y16.2.2.2.2.2.2.2.1), y16.2.2.2.2.2.2.2.2.1⟩ : Sapi_Dec) (if y16.2.2.2.2.2.2.2.2.1 > y16.2.2.2.2.1 then y16.2.2.2.2.2.2.2.2.1 else y16.2.2.2.2.1)).bind fun t18 => (cond (y16.2.1 == y16.2.2.2.2.2.1) ((dec_plus.f k (t17.1, t17.2.1, t17.2.2.1, t17.2.2.2) (t18.1, t18.2.1, t18.2.2.1, t18.2.2.2)).bind fun t19 => ((dec_made.f k y16.2.1 (t19.1, t19.2.1, t19.2.2.1, t19.2.2.2) (if y16.2.2.2.2.2.2.2.2.1 > y16.2.2.2.2.1 then y16.2.2.2.2.2.2.2.2.1 else y16.2.2.2.2.1)).bind fun t20 => (some ((⟨t20.1.f_Neg, (t20.1.f_C.1, t20.1.f_C.2), t20.1.f_Scale⟩ : Sapi_Dec), t20.2)))) ((dec_cmp.f k (t17.1, t17.2.1, t17.2.2.1, t17.2.2.2) (t18.1, t18.2.1, t18.2.2.1, t18.2.2.2)).bind fun t21 => (cond (decide (t21 ≥ 0)) ((dec_less.f k (t17.1, t17.2.1, t17.2.2.1, t17.2.2.2) (t18.1, t18.2.1, t18.2.2.1, t18.2.2.2)).bind fun t22 => ((dec_made.f k y16.2.1 (t22.1, t22.2.1, t22.2.2.1, t22.2.2.2) (if y16.2.2.2.2.2.2.2.2.1 > y16.2.2.2.2.1 then y16.2.2.2.2.2.2.2.2.1 else y16.2.2.2.2.1)).bind fun t23 => (some ((⟨t23.1.f_Neg, (t23.1.f_C.1, t23.1.f_C.2), t23.1.f_Scale⟩ : Sapi_Dec), t23.2)))) ((dec_less.f k (t18.1, t18.2.1, t18.2.2.1, t18.2.2.2) (t17.1, t17.2.1, t17.2.2.1, t17.2.2.2)).bind fun t24 => ((dec_made.f k y16.2.2.2.2.2.1 (t24.1, t24.2.1, t24.2.2.1, t24.2.2.2) (if y16.2.2.2.2.2.2.2.2.1 > y16.2.2.2.2.1 then y16.2.2.2.2.2.2.2.2.1 else y16.2.2.2.2.1)).bind fun t25 => (some ((⟨t25.1.f_Neg, (t25.1.f_C.1, t25.1.f_C.2), t25.1.f_Scale⟩ : Sapi_Dec), t25.2))))))))))
noncomputable def dec_Add.un (s : St U) : Option (Sapi_Dec × Sapi_Dec) := match s.get 0, s.get 1 with | .agg [.flat (.bool x1), .flat (.int .u64 x2), .flat (.int .u64 x3), .flat (.int .i64 x4)], .agg [.flat (.bool x5), .flat (.int .u64 x6), .flat (.int .u64 x7), .flat (.int .i64 x8)] => some ((⟨x1, (x2, x3), x4⟩ : Sapi_Dec), (⟨x5, (x6, x7), x8⟩ : Sapi_Dec)) | _, _ => none
noncomputable def dec_Add.mk (x : (Sapi_Dec × Sapi_Dec)) : St U := ⟨[(0, .agg [.flat (.bool x.1.f_Neg), .flat (.int .u64 x.1.f_C.1), .flat (.int .u64 x.1.f_C.2), .flat (.int .i64 x.1.f_Scale)]), (1, .agg [.flat (.bool x.2.f_Neg), .flat (.int .u64 x.2.f_C.1), .flat (.int .u64 x.2.f_C.2), .flat (.int .i64 x.2.f_Scale)])], []⟩
noncomputable def dec_Add.fin (y : (Sapi_Dec × Int)) : St U := ⟨[(0, .tup [.agg [.flat (.bool y.1.f_Neg), .flat (.int .u64 y.1.f_C.1), .flat (.int .u64 y.1.f_C.2), .flat (.int .i64 y.1.f_Scale)], .flat (.int .i64 y.2)])], []⟩
noncomputable def dec_Add.D (k : Nat) : FDen U := { X := (Sapi_Dec × Sapi_Dec), Y := (Sapi_Dec × Int), nt := 67, gh := [], un := dec_Add.un, f := fun x => dec_Add.f k (x.1) (x.2), fin := dec_Add.fin, cl := true, clo := fun _ _ => rfl }
noncomputable def dec_Add.re (s : St U) : Option (Sapi_Dec × Int) := match s.get 0 with | .tup [.agg [.flat (.bool x1), .flat (.int .u64 x2), .flat (.int .u64 x3), .flat (.int .i64 x4)], .flat (.int .i64 x5)] => some ((⟨x1, (x2, x3), x4⟩ : Sapi_Dec), x5) | _ => none
noncomputable def dec_Add.j1000.fin (y : (Bool × Bool × Int × Int × Int × Bool × Int × Int × Int × Bool × Int × Int × Int)) : Out U := match y with | (x14, x2, x3, x4, x5, x6, x7, x8, x9, x10, x11, x12, x13) => .norm ⟨[(2, .ptr 2 0), (3, .ptr 3 0), (4, .ptr 4 0), (16, .flat (.bool x14))], [(2, .lit [.flat (.bool x2), .flat (.int .u64 x3), .flat (.int .u64 x4), .flat (.int .i64 x5)]), (3, .lit [.flat (.bool x6), .flat (.int .u64 x7), .flat (.int .u64 x8), .flat (.int .i64 x9)]), (4, .lit [.flat (.bool x10), .flat (.int .u64 x11), .flat (.int .u64 x12), .flat (.int .i64 x13)])]⟩
noncomputable def dec_Add.j1000.finK {ρ : Type} (y : (Bool × Bool × Int × Int × Int × Bool × Int × Int × Int × Bool × Int × Int × Int)) (K : Out U → Option ρ) : Option ρ := match y with | (x14, x2, x3, x4, x5, x6, x7, x8, x9, x10, x11, x12, x13) => K (.norm ⟨[(2, .ptr 2 0), (3, .ptr 3 0), (4, .ptr 4 0), (16, .flat (.bool x14))], [(2, .lit [.flat (.bool x2), .flat (.int .u64 x3), .flat (.int .u64 x4), .flat (.int .i64 x5)]), (3, .lit [.flat (.bool x6), .flat (.int .u64 x7), .flat (.int .u64 x8), .flat (.int .i64 x9)]), (4, .lit [.flat (.bool x10), .flat (.int .u64 x11), .flat (.int .u64 x12), .flat (.int .i64 x13)])]⟩)
theorem dec_Add.j1000.finK_eq {ρ : Type} (y : (Bool × Bool × Int × Int × Int × Bool × Int × Int × Int × Bool × Int × Int × Int)) (K : Out U → Option ρ) : dec_Add.j1000.finK y K = K (dec_Add.j1000.fin y) := by
  unfold dec_Add.j1000.finK dec_Add.j1000.fin
  first | rfl | (split <;> rfl)
noncomputable def dec_Add.j1000.re : Out U → Option ((Bool × Bool × Int × Int × Int × Bool × Int × Int × Int × Bool × Int × Int × Int)) | .norm s => (match s.get 2, s.get 3, s.get 4, s.get 16, lk s.o 2, lk s.o 3, lk s.o 4 with | .ptr 2 0, .ptr 3 0, .ptr 4 0, .flat (.bool x14), some (.lit [.flat (.bool x2), .flat (.int .u64 x3), .flat (.int .u64 x4), .flat (.int .i64 x5)]), some (.lit [.flat (.bool x6), .flat (.int .u64 x7), .flat (.int .u64 x8), .flat (.int .i64 x9)]), some (.lit [.flat (.bool x10), .flat (.int .u64 x11), .flat (.int .u64 x12), .flat (.int .i64 x13)]) => some (x14, x2, x3, x4, x5, x6, x7, x8, x9, x10, x11, x12, x13) | _, _, _, _, _, _, _ => none) | _ => none
noncomputable def dec_Add.j1000.J : JDen U := { Y := (Bool × Bool × Int × Int × Int × Bool × Int × Int × Int × Bool × Int × Int × Int), re := dec_Add.j1000.re, fin := dec_Add.j1000.fin, finK := dec_Add.j1000.finK, finK_eq := dec_Add.j1000.finK_eq }
theorem dec_Add.j1000.fit (o : Out U) (y : (Bool × Bool × Int × Int × Int × Bool × Int × Int × Int × Bool × Int × Int × Int)) (h : dec_Add.j1000.re o = some y) : FitsO o (dec_Add.j1000.fin y) := by
  unfold dec_Add.j1000.re at h
  split at h
  · split at h
    · cases h
      refine fitsO_norm (fits_ren [] ?_ ?_ ren_nil rfl)
      · exact List.forall_mem_cons.2 ⟨FV.one (FV.ptr (by assumption)), List.forall_mem_cons.2 ⟨FV.one (FV.ptr (by assumption)), List.forall_mem_cons.2 ⟨FV.one (FV.ptr (by assumption)), List.forall_mem_cons.2 ⟨FV.one (FV.same (by assumption) rfl), fun _ hp => (List.not_mem_nil hp).elim⟩⟩⟩⟩
      · exact List.forall_mem_cons.2 ⟨(FO.same (show lk (St.o _) 2 = some _ from by assumption) rfl), List.forall_mem_cons.2 ⟨(FO.same (show lk (St.o _) 3 = some _ from by assumption) rfl), List.forall_mem_cons.2 ⟨(FO.same (show lk (St.o _) 4 = some _ from by assumption) rfl), fun _ hp => (List.not_mem_nil hp).elim⟩⟩⟩
    · cases h
  · cases h
noncomputable def dec_Add.jl : List (Nat × JDen U) := [(1000, dec_Add.j1000.J)]
noncomputable def dec_Add.fl (k : Nat) : List (Nat × FDen U) := [(82, dec_Right.D k), (83, dec_wide.D k), (85, dec_plus.D k), (84, dec_made.D k), (86, dec_cmp.D k), (87, dec_less.D k)]
noncomputable def dec_Add.ll (k : Nat) : List (Nat × LDen U) := []
noncomputable def dec_Add.E (k : Nat) : Env U := { P := Try.prog, D := DD, fd := lk (dec_Add.fl k), sf := lk sl0, ld := lk (dec_Add.ll k), jd := lk dec_Add.jl, mode := lk [], elc := lk ec, mpc := lk mc, rts := Try.f36.resultTypes.toList, dyn := fun t => false, vecs := fun d => false, results := Try.f36.results.toList, gh := [], own := false, io := fun g i => false }
theorem dec_Add.ok (k : Nat) : EnvOk (dec_Add.E k) := envOk lawful (dec_Add.fl k) sl0 (dec_Add.ll k) dec_Add.jl _ _ _ _ _ _ _ _ _ _ (by
  intro p hp
  simp only [dec_Add.fl, List.mem_cons, List.not_mem_nil, or_false] at hp
  rcases hp with rfl | rfl | rfl | rfl | rfl | rfl
  · exact ⟨dec_Right.sound k, enter_of Try.func82 (by kernel_rfl) (by kernel_rfl)⟩
  · exact ⟨dec_wide.sound k, enter_of Try.func83 (by kernel_rfl) (by kernel_rfl)⟩
  · exact ⟨dec_plus.sound k, enter_of Try.func85 (by kernel_rfl) (by kernel_rfl)⟩
  · exact ⟨dec_made.sound k, enter_of Try.func84 (by kernel_rfl) (by kernel_rfl)⟩
  · exact ⟨dec_cmp.sound k, enter_of Try.func86 (by kernel_rfl) (by kernel_rfl)⟩
  · exact ⟨dec_less.sound k, enter_of Try.func87 (by kernel_rfl) (by kernel_rfl)⟩) sl0_ok (by
  intro p hp
  simp only [dec_Add.jl, List.mem_cons, List.not_mem_nil, or_false] at hp
  rcases hp with rfl
  · exact dec_Add.j1000.fit)
theorem dec_Add.eq (k : Nat) (x : (Sapi_Dec × Sapi_Dec)) : runF (dec_Add.E k) (codeOf Try.f36) (dec_Add.mk x) dec_Add.re = (dec_Add.D k).f x := by kernel_rfl
theorem dec_Add.fit (s : St U) (x : (Sapi_Dec × Sapi_Dec)) (h : dec_Add.un s = some x) : Fits s (dec_Add.mk x) := by
  unfold dec_Add.un at h
  split at h
  · cases h
    refine fits_ren [] ?_ ?_ ren_nil rfl
    · exact List.forall_mem_cons.2 ⟨FV.one (FV.same (by assumption) rfl), List.forall_mem_cons.2 ⟨FV.one (FV.same (by assumption) rfl), fun _ hp => (List.not_mem_nil hp).elim⟩⟩
    · exact fun _ hp => (List.not_mem_nil hp).elim
  · cases h
theorem dec_Add.fitR (s : St U) (y : (Sapi_Dec × Int)) (h : dec_Add.re s = some y) : Fits s (dec_Add.fin y) := by
  unfold dec_Add.re at h
  split at h
  · cases h
    refine fits_ren [] ?_ ?_ ren_nil rfl
    · exact List.forall_mem_cons.2 ⟨FV.tup (by assumption) (FTs.cons (FVA.one (FV.same rfl rfl)) (FTs.cons (FVA.one (FV.same rfl rfl)) (FTs.nil))), fun _ hp => (List.not_mem_nil hp).elim⟩
    · exact fun _ hp => (List.not_mem_nil hp).elim
  · cases h
theorem dec_Add.sound (k : Nat) : Sound Try.prog DD 36 (dec_Add.D k) :=
  fun_sound (E := dec_Add.E k) (fn := Try.f36) (c := codeOf Try.f36) (dec_Add.ok k) mixed rfl Try.func36 (by kernel_rfl) (by kernel_rfl) (allL_of (l := []) (by kernel_rfl) allL_nil) (dec_Add.D k) dec_Add.mk dec_Add.re (by kernel_rfl) (by kernel_rfl) dec_Add.fit dec_Add.fitR (dec_Add.eq k)
/-! ### pyx/dec.Neg: function 47 -/
noncomputable def dec_Neg.f (k : Nat) (a0 : Sapi_Dec) : Option Sapi_Dec := (dec_Right.f k (⟨a0.f_Neg, (a0.f_C.1, a0.f_C.2), a0.f_Scale⟩ : Sapi_Dec)).bind fun t1 => (cond (!t1) (some (⟨false, (0, 0), 0⟩ : Sapi_Dec)) (cond (!a0.f_Neg) ((dec_nought.f k (a0.f_C.1, a0.f_C.2)).bind fun t2 => (some (⟨!t2, (a0.f_C.1, a0.f_C.2), a0.f_Scale⟩ : Sapi_Dec))) (some (⟨false, (a0.f_C.1, a0.f_C.2), a0.f_Scale⟩ : Sapi_Dec))))
noncomputable def dec_Neg.un (s : St U) : Option Sapi_Dec := match s.get 0 with | .agg [.flat (.bool x1), .flat (.int .u64 x2), .flat (.int .u64 x3), .flat (.int .i64 x4)] => some (⟨x1, (x2, x3), x4⟩ : Sapi_Dec) | _ => none
noncomputable def dec_Neg.mk (x : Sapi_Dec) : St U := ⟨[(0, .agg [.flat (.bool x.f_Neg), .flat (.int .u64 x.f_C.1), .flat (.int .u64 x.f_C.2), .flat (.int .i64 x.f_Scale)])], []⟩
noncomputable def dec_Neg.fin (y : Sapi_Dec) : St U := ⟨[(0, .agg [.flat (.bool y.f_Neg), .flat (.int .u64 y.f_C.1), .flat (.int .u64 y.f_C.2), .flat (.int .i64 y.f_Scale)])], []⟩
noncomputable def dec_Neg.D (k : Nat) : FDen U := { X := Sapi_Dec, Y := Sapi_Dec, nt := 18, gh := [], un := dec_Neg.un, f := fun x => dec_Neg.f k (x), fin := dec_Neg.fin, cl := true, clo := fun _ _ => rfl }
noncomputable def dec_Neg.re (s : St U) : Option Sapi_Dec := match s.get 0 with | .agg [.flat (.bool x1), .flat (.int .u64 x2), .flat (.int .u64 x3), .flat (.int .i64 x4)] => some (⟨x1, (x2, x3), x4⟩ : Sapi_Dec) | _ => none
noncomputable def dec_Neg.jl : List (Nat × JDen U) := []
noncomputable def dec_Neg.fl (k : Nat) : List (Nat × FDen U) := [(82, dec_Right.D k), (88, dec_nought.D k)]
noncomputable def dec_Neg.ll (k : Nat) : List (Nat × LDen U) := []
noncomputable def dec_Neg.E (k : Nat) : Env U := { P := Try.prog, D := DD, fd := lk (dec_Neg.fl k), sf := lk sl0, ld := lk (dec_Neg.ll k), jd := lk dec_Neg.jl, mode := lk [], elc := lk ec, mpc := lk mc, rts := Try.f47.resultTypes.toList, dyn := fun t => false, vecs := fun d => false, results := Try.f47.results.toList, gh := [], own := false, io := fun g i => false }
theorem dec_Neg.ok (k : Nat) : EnvOk (dec_Neg.E k) := envOk lawful (dec_Neg.fl k) sl0 (dec_Neg.ll k) dec_Neg.jl _ _ _ _ _ _ _ _ _ _ (by
  intro p hp
  simp only [dec_Neg.fl, List.mem_cons, List.not_mem_nil, or_false] at hp
  rcases hp with rfl | rfl
  · exact ⟨dec_Right.sound k, enter_of Try.func82 (by kernel_rfl) (by kernel_rfl)⟩
  · exact ⟨dec_nought.sound k, enter_of Try.func88 (by kernel_rfl) (by kernel_rfl)⟩) sl0_ok (by
  intro p hp
  simp [dec_Neg.jl] at hp)
theorem dec_Neg.eq (k : Nat) (x : Sapi_Dec) : runF (dec_Neg.E k) (codeOf Try.f47) (dec_Neg.mk x) dec_Neg.re = (dec_Neg.D k).f x := by kernel_rfl
theorem dec_Neg.fit (s : St U) (x : Sapi_Dec) (h : dec_Neg.un s = some x) : Fits s (dec_Neg.mk x) := by
  unfold dec_Neg.un at h
  split at h
  · cases h
    refine fits_ren [] ?_ ?_ ren_nil rfl
    · exact List.forall_mem_cons.2 ⟨FV.one (FV.same (by assumption) rfl), fun _ hp => (List.not_mem_nil hp).elim⟩
    · exact fun _ hp => (List.not_mem_nil hp).elim
  · cases h
theorem dec_Neg.fitR (s : St U) (y : Sapi_Dec) (h : dec_Neg.re s = some y) : Fits s (dec_Neg.fin y) := by
  unfold dec_Neg.re at h
  split at h
  · cases h
    refine fits_ren [] ?_ ?_ ren_nil rfl
    · exact List.forall_mem_cons.2 ⟨FV.one (FV.same (by assumption) rfl), fun _ hp => (List.not_mem_nil hp).elim⟩
    · exact fun _ hp => (List.not_mem_nil hp).elim
  · cases h
theorem dec_Neg.sound (k : Nat) : Sound Try.prog DD 47 (dec_Neg.D k) :=
  fun_sound (E := dec_Neg.E k) (fn := Try.f47) (c := codeOf Try.f47) (dec_Neg.ok k) mixed rfl Try.func47 (by kernel_rfl) (by kernel_rfl) (allL_of (l := []) (by kernel_rfl) allL_nil) (dec_Neg.D k) dec_Neg.mk dec_Neg.re (by kernel_rfl) (by kernel_rfl) dec_Neg.fit dec_Neg.fitR (dec_Neg.eq k)
/-! ### pyx/dec.Sub: function 46 -/
noncomputable def dec_Sub.f (k : Nat) (a0 : Sapi_Dec) (a1 : Sapi_Dec) : Option (Sapi_Dec × Int) := (dec_Right.f k (⟨a1.f_Neg, (a1.f_C.1, a1.f_C.2), a1.f_Scale⟩ : Sapi_Dec)).bind fun t1 => (cond (!t1) (some ((⟨false, (0, 0), 0⟩ : Sapi_Dec), 1)) ((dec_Neg.f k (⟨a1.f_Neg, (a1.f_C.1, a1.f_C.2), a1.f_Scale⟩ : Sapi_Dec)).bind fun t2 => ((dec_Add.f k (⟨a0.f_Neg, (a0.f_C.1, a0.f_C.2), a0.f_Scale⟩ : Sapi_Dec) (⟨t2.f_Neg, (t2.f_C.1, t2.f_C.2), t2.f_Scale⟩ : Sapi_Dec)).bind fun t3 => (some ((⟨t3.1.f_Neg, (t3.1.f_C.1, t3.1.f_C.2), t3.1.f_Scale⟩ : Sapi_Dec), t3.2)))))
noncomputable def dec_Sub.un (s : St U) : Option (Sapi_Dec × Sapi_Dec) := match s.get 0, s.get 1 with | .agg [.flat (.bool x1), .flat (.int .u64 x2), .flat (.int .u64 x3), .flat (.int .i64 x4)], .agg [.flat (.bool x5), .flat (.int .u64 x6), .flat (.int .u64 x7), .flat (.int .i64 x8)] => some ((⟨x1, (x2, x3), x4⟩ : Sapi_Dec), (⟨x5, (x6, x7), x8⟩ : Sapi_Dec)) | _, _ => none
noncomputable def dec_Sub.mk (x : (Sapi_Dec × Sapi_Dec)) : St U := ⟨[(0, .agg [.flat (.bool x.1.f_Neg), .flat (.int .u64 x.1.f_C.1), .flat (.int .u64 x.1.f_C.2), .flat (.int .i64 x.1.f_Scale)]), (1, .agg [.flat (.bool x.2.f_Neg), .flat (.int .u64 x.2.f_C.1), .flat (.int .u64 x.2.f_C.2), .flat (.int .i64 x.2.f_Scale)])], []⟩
noncomputable def dec_Sub.fin (y : (Sapi_Dec × Int)) : St U := ⟨[(0, .tup [.agg [.flat (.bool y.1.f_Neg), .flat (.int .u64 y.1.f_C.1), .flat (.int .u64 y.1.f_C.2), .flat (.int .i64 y.1.f_Scale)], .flat (.int .i64 y.2)])], []⟩
noncomputable def dec_Sub.D (k : Nat) : FDen U := { X := (Sapi_Dec × Sapi_Dec), Y := (Sapi_Dec × Int), nt := 16, gh := [], un := dec_Sub.un, f := fun x => dec_Sub.f k (x.1) (x.2), fin := dec_Sub.fin, cl := true, clo := fun _ _ => rfl }
noncomputable def dec_Sub.re (s : St U) : Option (Sapi_Dec × Int) := match s.get 0 with | .tup [.agg [.flat (.bool x1), .flat (.int .u64 x2), .flat (.int .u64 x3), .flat (.int .i64 x4)], .flat (.int .i64 x5)] => some ((⟨x1, (x2, x3), x4⟩ : Sapi_Dec), x5) | _ => none
noncomputable def dec_Sub.jl : List (Nat × JDen U) := []
noncomputable def dec_Sub.fl (k : Nat) : List (Nat × FDen U) := [(82, dec_Right.D k), (47, dec_Neg.D k), (36, dec_Add.D k)]
noncomputable def dec_Sub.ll (k : Nat) : List (Nat × LDen U) := []
noncomputable def dec_Sub.E (k : Nat) : Env U := { P := Try.prog, D := DD, fd := lk (dec_Sub.fl k), sf := lk sl0, ld := lk (dec_Sub.ll k), jd := lk dec_Sub.jl, mode := lk [], elc := lk ec, mpc := lk mc, rts := Try.f46.resultTypes.toList, dyn := fun t => false, vecs := fun d => false, results := Try.f46.results.toList, gh := [], own := false, io := fun g i => false }
theorem dec_Sub.ok (k : Nat) : EnvOk (dec_Sub.E k) := envOk lawful (dec_Sub.fl k) sl0 (dec_Sub.ll k) dec_Sub.jl _ _ _ _ _ _ _ _ _ _ (by
  intro p hp
  simp only [dec_Sub.fl, List.mem_cons, List.not_mem_nil, or_false] at hp
  rcases hp with rfl | rfl | rfl
  · exact ⟨dec_Right.sound k, enter_of Try.func82 (by kernel_rfl) (by kernel_rfl)⟩
  · exact ⟨dec_Neg.sound k, enter_of Try.func47 (by kernel_rfl) (by kernel_rfl)⟩
  · exact ⟨dec_Add.sound k, enter_of Try.func36 (by kernel_rfl) (by kernel_rfl)⟩) sl0_ok (by
  intro p hp
  simp [dec_Sub.jl] at hp)
theorem dec_Sub.eq (k : Nat) (x : (Sapi_Dec × Sapi_Dec)) : runF (dec_Sub.E k) (codeOf Try.f46) (dec_Sub.mk x) dec_Sub.re = (dec_Sub.D k).f x := by kernel_rfl
theorem dec_Sub.fit (s : St U) (x : (Sapi_Dec × Sapi_Dec)) (h : dec_Sub.un s = some x) : Fits s (dec_Sub.mk x) := by
  unfold dec_Sub.un at h
  split at h
  · cases h
    refine fits_ren [] ?_ ?_ ren_nil rfl
    · exact List.forall_mem_cons.2 ⟨FV.one (FV.same (by assumption) rfl), List.forall_mem_cons.2 ⟨FV.one (FV.same (by assumption) rfl), fun _ hp => (List.not_mem_nil hp).elim⟩⟩
    · exact fun _ hp => (List.not_mem_nil hp).elim
  · cases h
theorem dec_Sub.fitR (s : St U) (y : (Sapi_Dec × Int)) (h : dec_Sub.re s = some y) : Fits s (dec_Sub.fin y) := by
  unfold dec_Sub.re at h
  split at h
  · cases h
    refine fits_ren [] ?_ ?_ ren_nil rfl
    · exact List.forall_mem_cons.2 ⟨FV.tup (by assumption) (FTs.cons (FVA.one (FV.same rfl rfl)) (FTs.cons (FVA.one (FV.same rfl rfl)) (FTs.nil))), fun _ hp => (List.not_mem_nil hp).elim⟩
    · exact fun _ hp => (List.not_mem_nil hp).elim
  · cases h
theorem dec_Sub.sound (k : Nat) : Sound Try.prog DD 46 (dec_Sub.D k) :=
  fun_sound (E := dec_Sub.E k) (fn := Try.f46) (c := codeOf Try.f46) (dec_Sub.ok k) mixed rfl Try.func46 (by kernel_rfl) (by kernel_rfl) (allL_of (l := []) (by kernel_rfl) allL_nil) (dec_Sub.D k) dec_Sub.mk dec_Sub.re (by kernel_rfl) (by kernel_rfl) dec_Sub.fit dec_Sub.fitR (dec_Sub.eq k)
/-! ### pyx/dec.Sign: function 37 -/
noncomputable def dec_Sign.f (k : Nat) (a0 : Sapi_Dec) : Option Int := (((dec_Right.f k (⟨a0.f_Neg, (a0.f_C.1, a0.f_C.2), a0.f_Scale⟩ : Sapi_Dec)).bind fun t1 => (cond (!t1) (some (true, a0.f_Neg, a0.f_C.1, a0.f_C.2, a0.f_Scale)) ((dec_nought.f k (a0.f_C.1, a0.f_C.2)).bind fun t7 => (some (t7, a0.f_Neg, a0.f_C.1, a0.f_C.2, a0.f_Scale))))) : Option (Bool × Bool × Int × Int × Int)).bind fun y8 => (cond (y8.1) (some 0) (cond (y8.2.1) (some (-1)) (some 1)))
noncomputable def dec_Sign.un (s : St U) : Option Sapi_Dec := match s.get 0 with | .agg [.flat (.bool x1), .flat (.int .u64 x2), .flat (.int .u64 x3), .flat (.int .i64 x4)] => some (⟨x1, (x2, x3), x4⟩ : Sapi_Dec) | _ => none
noncomputable def dec_Sign.mk (x : Sapi_Dec) : St U := ⟨[(0, .agg [.flat (.bool x.f_Neg), .flat (.int .u64 x.f_C.1), .flat (.int .u64 x.f_C.2), .flat (.int .i64 x.f_Scale)])], []⟩
noncomputable def dec_Sign.fin (y : Int) : St U := ⟨[(0, .flat (.int .i64 y))], []⟩
noncomputable def dec_Sign.D (k : Nat) : FDen U := { X := Sapi_Dec, Y := Int, nt := 15, gh := [], un := dec_Sign.un, f := fun x => dec_Sign.f k (x), fin := dec_Sign.fin, cl := true, clo := fun _ _ => rfl }
noncomputable def dec_Sign.re (s : St U) : Option Int := match s.get 0 with | .flat (.int .i64 x1) => some x1 | _ => none
noncomputable def dec_Sign.j1000.fin (y : (Bool × Bool × Int × Int × Int)) : Out U := match y with | (x6, x2, x3, x4, x5) => .norm ⟨[(1, .ptr 1 0), (3, .flat (.bool x6))], [(1, .lit [.flat (.bool x2), .flat (.int .u64 x3), .flat (.int .u64 x4), .flat (.int .i64 x5)])]⟩
noncomputable def dec_Sign.j1000.finK {ρ : Type} (y : (Bool × Bool × Int × Int × Int)) (K : Out U → Option ρ) : Option ρ := match y with | (x6, x2, x3, x4, x5) => K (.norm ⟨[(1, .ptr 1 0), (3, .flat (.bool x6))], [(1, .lit [.flat (.bool x2), .flat (.int .u64 x3), .flat (.int .u64 x4), .flat (.int .i64 x5)])]⟩)
theorem dec_Sign.j1000.finK_eq {ρ : Type} (y : (Bool × Bool × Int × Int × Int)) (K : Out U → Option ρ) : dec_Sign.j1000.finK y K = K (dec_Sign.j1000.fin y) := by
  unfold dec_Sign.j1000.finK dec_Sign.j1000.fin
  first | rfl | (split <;> rfl)
noncomputable def dec_Sign.j1000.re : Out U → Option ((Bool × Bool × Int × Int × Int)) | .norm s => (match s.get 1, s.get 3, lk s.o 1 with | .ptr 1 0, .flat (.bool x6), some (.lit [.flat (.bool x2), .flat (.int .u64 x3), .flat (.int .u64 x4), .flat (.int .i64 x5)]) => some (x6, x2, x3, x4, x5) | _, _, _ => none) | _ => none
noncomputable def dec_Sign.j1000.J : JDen U := { Y := (Bool × Bool × Int × Int × Int), re := dec_Sign.j1000.re, fin := dec_Sign.j1000.fin, finK := dec_Sign.j1000.finK, finK_eq := dec_Sign.j1000.finK_eq }
theorem dec_Sign.j1000.fit (o : Out U) (y : (Bool × Bool × Int × Int × Int)) (h : dec_Sign.j1000.re o = some y) : FitsO o (dec_Sign.j1000.fin y) := by
  unfold dec_Sign.j1000.re at h
  split at h
  · split at h
    · cases h
      refine fitsO_norm (fits_ren [] ?_ ?_ ren_nil rfl)
      · exact List.forall_mem_cons.2 ⟨FV.one (FV.ptr (by assumption)), List.forall_mem_cons.2 ⟨FV.one (FV.same (by assumption) rfl), fun _ hp => (List.not_mem_nil hp).elim⟩⟩
      · exact List.forall_mem_cons.2 ⟨(FO.same (show lk (St.o _) 1 = some _ from by assumption) rfl), fun _ hp => (List.not_mem_nil hp).elim⟩
    · cases h
  · cases h
noncomputable def dec_Sign.jl : List (Nat × JDen U) := [(1000, dec_Sign.j1000.J)]
noncomputable def dec_Sign.fl (k : Nat) : List (Nat × FDen U) := [(82, dec_Right.D k), (88, dec_nought.D k)]
noncomputable def dec_Sign.ll (k : Nat) : List (Nat × LDen U) := []
noncomputable def dec_Sign.E (k : Nat) : Env U := { P := Try.prog, D := DD, fd := lk (dec_Sign.fl k), sf := lk sl0, ld := lk (dec_Sign.ll k), jd := lk dec_Sign.jl, mode := lk [], elc := lk ec, mpc := lk mc, rts := Try.f37.resultTypes.toList, dyn := fun t => false, vecs := fun d => false, results := Try.f37.results.toList, gh := [], own := false, io := fun g i => false }
theorem dec_Sign.ok (k : Nat) : EnvOk (dec_Sign.E k) := envOk lawful (dec_Sign.fl k) sl0 (dec_Sign.ll k) dec_Sign.jl _ _ _ _ _ _ _ _ _ _ (by
  intro p hp
  simp only [dec_Sign.fl, List.mem_cons, List.not_mem_nil, or_false] at hp
  rcases hp with rfl | rfl
  · exact ⟨dec_Right.sound k, enter_of Try.func82 (by kernel_rfl) (by kernel_rfl)⟩
  · exact ⟨dec_nought.sound k, enter_of Try.func88 (by kernel_rfl) (by kernel_rfl)⟩) sl0_ok (by
  intro p hp
  simp only [dec_Sign.jl, List.mem_cons, List.not_mem_nil, or_false] at hp
  rcases hp with rfl
  · exact dec_Sign.j1000.fit)
theorem dec_Sign.eq (k : Nat) (x : Sapi_Dec) : runF (dec_Sign.E k) (codeOf Try.f37) (dec_Sign.mk x) dec_Sign.re = (dec_Sign.D k).f x := by kernel_rfl
theorem dec_Sign.fit (s : St U) (x : Sapi_Dec) (h : dec_Sign.un s = some x) : Fits s (dec_Sign.mk x) := by
  unfold dec_Sign.un at h
  split at h
  · cases h
    refine fits_ren [] ?_ ?_ ren_nil rfl
    · exact List.forall_mem_cons.2 ⟨FV.one (FV.same (by assumption) rfl), fun _ hp => (List.not_mem_nil hp).elim⟩
    · exact fun _ hp => (List.not_mem_nil hp).elim
  · cases h
theorem dec_Sign.fitR (s : St U) (y : Int) (h : dec_Sign.re s = some y) : Fits s (dec_Sign.fin y) := by
  unfold dec_Sign.re at h
  split at h
  · cases h
    refine fits_ren [] ?_ ?_ ren_nil rfl
    · exact List.forall_mem_cons.2 ⟨FV.one (FV.same (by assumption) rfl), fun _ hp => (List.not_mem_nil hp).elim⟩
    · exact fun _ hp => (List.not_mem_nil hp).elim
  · cases h
theorem dec_Sign.sound (k : Nat) : Sound Try.prog DD 37 (dec_Sign.D k) :=
  fun_sound (E := dec_Sign.E k) (fn := Try.f37) (c := codeOf Try.f37) (dec_Sign.ok k) mixed rfl Try.func37 (by kernel_rfl) (by kernel_rfl) (allL_of (l := []) (by kernel_rfl) allL_nil) (dec_Sign.D k) dec_Sign.mk dec_Sign.re (by kernel_rfl) (by kernel_rfl) dec_Sign.fit dec_Sign.fitR (dec_Sign.eq k)
/-! ### pyx/dec.Cmp: function 48 -/
noncomputable def dec_Cmp.f (k : Nat) (a0 : Sapi_Dec) (a1 : Sapi_Dec) : Option Int := (((dec_Right.f k (⟨a0.f_Neg, (a0.f_C.1, a0.f_C.2), a0.f_Scale⟩ : Sapi_Dec)).bind fun t1 => (cond (!t1) (some (true, a0.f_Neg, a0.f_C.1, a0.f_C.2, a0.f_Scale, a1.f_Neg, a1.f_C.1, a1.f_C.2, a1.f_Scale)) ((dec_Right.f k (⟨a1.f_Neg, (a1.f_C.1, a1.f_C.2), a1.f_Scale⟩ : Sapi_Dec)).bind fun t11 => (some (!t11, a0.f_Neg, a0.f_C.1, a0.f_C.2, a0.f_Scale, a1.f_Neg, a1.f_C.1, a1.f_C.2, a1.f_Scale))))) : Option (Bool × Bool × Int × Int × Int × Bool × Int × Int × Int)).bind fun y12 => (cond (y12.1) (some 0) ((dec_Sign.f k (⟨y12.2.1, (y12.2.2.1, y12.2.2.2.1), y12.2.2.2.2.1⟩ : Sapi_Dec)).bind fun t13 => ((dec_Sign.f k (⟨y12.2.2.2.2.2.1, (y12.2.2.2.2.2.2.1, y12.2.2.2.2.2.2.2.1), y12.2.2.2.2.2.2.2.2⟩ : Sapi_Dec)).bind fun t14 => (cond (t13 != t14) (cond (decide (t13 < t14)) (some (-1)) (some 1)) ((dec_wide.f k (⟨y12.2.1, (y12.2.2.1, y12.2.2.2.1), y12.2.2.2.2.1⟩ : Sapi_Dec) (if y12.2.2.2.2.2.2.2.2 > y12.2.2.2.2.1 then y12.2.2.2.2.2.2.2.2 else y12.2.2.2.2.1)).bind fun t15 => ((dec_wide.f k (⟨y12.2.2.2.2.2.1, (y12.2.2.2.2.2.2.1, y12.2.2.2.2.2.2.2.1), y12.2.2.2.2.2.2.2.2⟩ : Sapi_Dec) (if y12.2.2.2.2.2.2.2.2 > y12.2.2.2.2.1 then y12.2.2.2.2.2.2.2.2 else y12.2.2.2.2.1)).bind fun t16 => ((dec_cmp.f k (t15.1, t15.2.1, t15.2.2.1, t15.2.2.2) (t16.1, t16.2.1, t16.2.2.1, t16.2.2.2)).bind fun t17 => (some (IntKind.wrap .i64 (t17 * t13))))))))))
noncomputable def dec_Cmp.un (s : St U) : Option (Sapi_Dec × Sapi_Dec) := match s.get 0, s.get 1 with | .agg [.flat (.bool x1), .flat (.int .u64 x2), .flat (.int .u64 x3), .flat (.int .i64 x4)], .agg [.flat (.bool x5), .flat (.int .u64 x6), .flat (.int .u64 x7), .flat (.int .i64 x8)] => some ((⟨x1, (x2, x3), x4⟩ : Sapi_Dec), (⟨x5, (x6, x7), x8⟩ : Sapi_Dec)) | _, _ => none
noncomputable def dec_Cmp.mk (x : (Sapi_Dec × Sapi_Dec)) : St U := ⟨[(0, .agg [.flat (.bool x.1.f_Neg), .flat (.int .u64 x.1.f_C.1), .flat (.int .u64 x.1.f_C.2), .flat (.int .i64 x.1.f_Scale)]), (1, .agg [.flat (.bool x.2.f_Neg), .flat (.int .u64 x.2.f_C.1), .flat (.int .u64 x.2.f_C.2), .flat (.int .i64 x.2.f_Scale)])], []⟩
noncomputable def dec_Cmp.fin (y : Int) : St U := ⟨[(0, .flat (.int .i64 y))], []⟩
noncomputable def dec_Cmp.D (k : Nat) : FDen U := { X := (Sapi_Dec × Sapi_Dec), Y := Int, nt := 40, gh := [], un := dec_Cmp.un, f := fun x => dec_Cmp.f k (x.1) (x.2), fin := dec_Cmp.fin, cl := true, clo := fun _ _ => rfl }
noncomputable def dec_Cmp.re (s : St U) : Option Int := match s.get 0 with | .flat (.int .i64 x1) => some x1 | _ => none
noncomputable def dec_Cmp.j1000.fin (y : (Bool × Bool × Int × Int × Int × Bool × Int × Int × Int)) : Out U := match y with | (x10, x2, x3, x4, x5, x6, x7, x8, x9) => .norm ⟨[(2, .ptr 2 0), (3, .ptr 3 0), (15, .flat (.bool x10))], [(2, .lit [.flat (.bool x2), .flat (.int .u64 x3), .flat (.int .u64 x4), .flat (.int .i64 x5)]), (3, .lit [.flat (.bool x6), .flat (.int .u64 x7), .flat (.int .u64 x8), .flat (.int .i64 x9)])]⟩
noncomputable def dec_Cmp.j1000.finK {ρ : Type} (y : (Bool × Bool × Int × Int × Int × Bool × Int × Int × Int)) (K : Out U → Option ρ) : Option ρ := match y with | (x10, x2, x3, x4, x5, x6, x7, x8, x9) => K (.norm ⟨[(2, .ptr 2 0), (3, .ptr 3 0), (15, .flat (.bool x10))], [(2, .lit [.flat (.bool x2), .flat (.int .u64 x3), .flat (.int .u64 x4), .flat (.int .i64 x5)]), (3, .lit [.flat (.bool x6), .flat (.int .u64 x7), .flat (.int .u64 x8), .flat (.int .i64 x9)])]⟩)
theorem dec_Cmp.j1000.finK_eq {ρ : Type} (y : (Bool × Bool × Int × Int × Int × Bool × Int × Int × Int)) (K : Out U → Option ρ) : dec_Cmp.j1000.finK y K = K (dec_Cmp.j1000.fin y) := by
  unfold dec_Cmp.j1000.finK dec_Cmp.j1000.fin
  first | rfl | (split <;> rfl)
noncomputable def dec_Cmp.j1000.re : Out U → Option ((Bool × Bool × Int × Int × Int × Bool × Int × Int × Int)) | .norm s => (match s.get 2, s.get 3, s.get 15, lk s.o 2, lk s.o 3 with | .ptr 2 0, .ptr 3 0, .flat (.bool x10), some (.lit [.flat (.bool x2), .flat (.int .u64 x3), .flat (.int .u64 x4), .flat (.int .i64 x5)]), some (.lit [.flat (.bool x6), .flat (.int .u64 x7), .flat (.int .u64 x8), .flat (.int .i64 x9)]) => some (x10, x2, x3, x4, x5, x6, x7, x8, x9) | _, _, _, _, _ => none) | _ => none
noncomputable def dec_Cmp.j1000.J : JDen U := { Y := (Bool × Bool × Int × Int × Int × Bool × Int × Int × Int), re := dec_Cmp.j1000.re, fin := dec_Cmp.j1000.fin, finK := dec_Cmp.j1000.finK, finK_eq := dec_Cmp.j1000.finK_eq }
theorem dec_Cmp.j1000.fit (o : Out U) (y : (Bool × Bool × Int × Int × Int × Bool × Int × Int × Int)) (h : dec_Cmp.j1000.re o = some y) : FitsO o (dec_Cmp.j1000.fin y) := by
  unfold dec_Cmp.j1000.re at h
  split at h
  · split at h
    · cases h
      refine fitsO_norm (fits_ren [] ?_ ?_ ren_nil rfl)
      · exact List.forall_mem_cons.2 ⟨FV.one (FV.ptr (by assumption)), List.forall_mem_cons.2 ⟨FV.one (FV.ptr (by assumption)), List.forall_mem_cons.2 ⟨FV.one (FV.same (by assumption) rfl), fun _ hp => (List.not_mem_nil hp).elim⟩⟩⟩
      · exact List.forall_mem_cons.2 ⟨(FO.same (show lk (St.o _) 2 = some _ from by assumption) rfl), List.forall_mem_cons.2 ⟨(FO.same (show lk (St.o _) 3 = some _ from by assumption) rfl), fun _ hp => (List.not_mem_nil hp).elim⟩⟩
    · cases h
  · cases h
noncomputable def dec_Cmp.jl : List (Nat × JDen U) := [(1000, dec_Cmp.j1000.J)]
noncomputable def dec_Cmp.fl (k : Nat) : List (Nat × FDen U) := [(82, dec_Right.D k), (37, dec_Sign.D k), (83, dec_wide.D k), (86, dec_cmp.D k)]
noncomputable def dec_Cmp.ll (k : Nat) : List (Nat × LDen U) := []
noncomputable def dec_Cmp.E (k : Nat) : Env U := { P := Try.prog, D := DD, fd := lk (dec_Cmp.fl k), sf := lk sl0, ld := lk (dec_Cmp.ll k), jd := lk dec_Cmp.jl, mode := lk [], elc := lk ec, mpc := lk mc, rts := Try.f48.resultTypes.toList, dyn := fun t => false, vecs := fun d => false, results := Try.f48.results.toList, gh := [], own := false, io := fun g i => false }
theorem dec_Cmp.ok (k : Nat) : EnvOk (dec_Cmp.E k) := envOk lawful (dec_Cmp.fl k) sl0 (dec_Cmp.ll k) dec_Cmp.jl _ _ _ _ _ _ _ _ _ _ (by
  intro p hp
  simp only [dec_Cmp.fl, List.mem_cons, List.not_mem_nil, or_false] at hp
  rcases hp with rfl | rfl | rfl | rfl
  · exact ⟨dec_Right.sound k, enter_of Try.func82 (by kernel_rfl) (by kernel_rfl)⟩
  · exact ⟨dec_Sign.sound k, enter_of Try.func37 (by kernel_rfl) (by kernel_rfl)⟩
  · exact ⟨dec_wide.sound k, enter_of Try.func83 (by kernel_rfl) (by kernel_rfl)⟩
  · exact ⟨dec_cmp.sound k, enter_of Try.func86 (by kernel_rfl) (by kernel_rfl)⟩) sl0_ok (by
  intro p hp
  simp only [dec_Cmp.jl, List.mem_cons, List.not_mem_nil, or_false] at hp
  rcases hp with rfl
  · exact dec_Cmp.j1000.fit)
theorem dec_Cmp.eq (k : Nat) (x : (Sapi_Dec × Sapi_Dec)) : runF (dec_Cmp.E k) (codeOf Try.f48) (dec_Cmp.mk x) dec_Cmp.re = (dec_Cmp.D k).f x := by kernel_rfl
theorem dec_Cmp.fit (s : St U) (x : (Sapi_Dec × Sapi_Dec)) (h : dec_Cmp.un s = some x) : Fits s (dec_Cmp.mk x) := by
  unfold dec_Cmp.un at h
  split at h
  · cases h
    refine fits_ren [] ?_ ?_ ren_nil rfl
    · exact List.forall_mem_cons.2 ⟨FV.one (FV.same (by assumption) rfl), List.forall_mem_cons.2 ⟨FV.one (FV.same (by assumption) rfl), fun _ hp => (List.not_mem_nil hp).elim⟩⟩
    · exact fun _ hp => (List.not_mem_nil hp).elim
  · cases h
theorem dec_Cmp.fitR (s : St U) (y : Int) (h : dec_Cmp.re s = some y) : Fits s (dec_Cmp.fin y) := by
  unfold dec_Cmp.re at h
  split at h
  · cases h
    refine fits_ren [] ?_ ?_ ren_nil rfl
    · exact List.forall_mem_cons.2 ⟨FV.one (FV.same (by assumption) rfl), fun _ hp => (List.not_mem_nil hp).elim⟩
    · exact fun _ hp => (List.not_mem_nil hp).elim
  · cases h
theorem dec_Cmp.sound (k : Nat) : Sound Try.prog DD 48 (dec_Cmp.D k) :=
  fun_sound (E := dec_Cmp.E k) (fn := Try.f48) (c := codeOf Try.f48) (dec_Cmp.ok k) mixed rfl Try.func48 (by kernel_rfl) (by kernel_rfl) (allL_of (l := []) (by kernel_rfl) allL_nil) (dec_Cmp.D k) dec_Cmp.mk dec_Cmp.re (by kernel_rfl) (by kernel_rfl) dec_Cmp.fit dec_Cmp.fitR (dec_Cmp.eq k)
/-! ### pyx/pyxref1.Word: function 59 -/
noncomputable def pyxref1_Word.l2.once (k : Nat) (x : (Int × List Int)) : Option ((Int × List Int) ⊕ (List Int)) := match x with | (x1, x2) => cond (decide (x1 > 0)) (cond (okLen (List.length x2 + List.length [IntKind.wrap .i64 (Int.tmod x1 10)]) 8) (some (.inl (IntKind.wrap .u64 (Int.tdiv x1 10), x2 ++ [IntKind.wrap .i64 (Int.tmod x1 10)]))) none) (some (.inr x2))
noncomputable def pyxref1_Word.f (k : Nat) (a0 : Int) : Option (List Int) := (iter (pyxref1_Word.l2.once k) k (a0, ([] : List Int))).bind fun y4 => (some y4)
noncomputable def pyxref1_Word.un (s : St U) : Option Int := match s.get 0 with | .flat (.int .u64 x1) => some x1 | _ => none
noncomputable def pyxref1_Word.mk (x : Int) : St U := ⟨[(0, .flat (.int .u64 x))], []⟩
noncomputable def pyxref1_Word.fin (y : List Int) : St U := ⟨[(0, .row C.i64 y)], []⟩
noncomputable def pyxref1_Word.D (k : Nat) : FDen U := { X := Int, Y := List Int, nt := 15, gh := [], un := pyxref1_Word.un, f := fun x => pyxref1_Word.f k (x), fin := pyxref1_Word.fin, cl := true, clo := fun _ _ => rfl }
noncomputable def pyxref1_Word.re (s : St U) : Option (List Int) := match s.get 0 with | .row C.i64 x1 => some x1 | _ => none
noncomputable def pyxref1_Word.l2.mk (x : (Int × List Int)) : St U := match x with | (x1, x2) => ⟨[(0, .flat (.int .u64 x1)), (3, .tip 1002003 C.i64 x2)], [(1002003, .tip 1)]⟩
noncomputable def pyxref1_Word.l2.un (s : St U) : Option (Int × List Int) := (tip_i64 s.o 1 (s.get 3)).bind fun q0 => (match s.get 0 with | .flat (.int .u64 x1) => some (x1, q0.2) | _ => none)
noncomputable def pyxref1_Word.l2.fin (y : List Int) : Out U := match y with | x3 => .exit 0 ⟨[(3, .tip 1002003 C.i64 x3)], [(1002003, .tip 1)]⟩
noncomputable def pyxref1_Word.l2.finK {ρ : Type} (y : List Int) (K : Out U → Option ρ) : Option ρ := match y with | x3 => K (.exit 0 ⟨[(3, .tip 1002003 C.i64 x3)], [(1002003, .tip 1)]⟩)
theorem pyxref1_Word.l2.finK_eq {ρ : Type} (y : List Int) (K : Out U → Option ρ) : pyxref1_Word.l2.finK y K = K (pyxref1_Word.l2.fin y) := by
  unfold pyxref1_Word.l2.finK pyxref1_Word.l2.fin
  first | rfl | (split <;> rfl)
noncomputable def pyxref1_Word.l2.re : Out U → Option (List Int) | .exit 0 s => ((tip_i64 s.o 1 (s.get 3)).bind fun q0 => (some q0.2)) | _ => none
noncomputable def pyxref1_Word.l2.L (k : Nat) : LDen U := { X := (Int × List Int), Y := List Int, un := pyxref1_Word.l2.un, f := iter (pyxref1_Word.l2.once k) k, fin := pyxref1_Word.l2.fin, finK := pyxref1_Word.l2.finK, finK_eq := pyxref1_Word.l2.finK_eq }
noncomputable def pyxref1_Word.jl : List (Nat × JDen U) := []
noncomputable def pyxref1_Word.fl (k : Nat) : List (Nat × FDen U) := []
noncomputable def pyxref1_Word.ll (k : Nat) : List (Nat × LDen U) := [(2, pyxref1_Word.l2.L k)]
noncomputable def pyxref1_Word.E (k : Nat) : Env U := { P := Try.prog, D := DD, fd := lk (pyxref1_Word.fl k), sf := lk sl0, ld := lk (pyxref1_Word.ll k), jd := lk pyxref1_Word.jl, mode := lk [], elc := lk ec, mpc := lk mc, rts := Try.f59.resultTypes.toList, dyn := fun t => false, vecs := fun d => false, results := Try.f59.results.toList, gh := [], own := false, io := fun g i => false }
theorem pyxref1_Word.ok (k : Nat) : EnvOk (pyxref1_Word.E k) := envOk lawful (pyxref1_Word.fl k) sl0 (pyxref1_Word.ll k) pyxref1_Word.jl _ _ _ _ _ _ _ _ _ _ (by
  intro p hp
  simp [pyxref1_Word.fl] at hp) sl0_ok (by
  intro p hp
  simp [pyxref1_Word.jl] at hp)
theorem pyxref1_Word.l2.eq (k : Nat) (x : (Int × List Int)) : evC (pyxref1_Word.E k) (loopAt Try.f59 2) (pyxref1_Word.l2.mk x) (headK pyxref1_Word.l2.un pyxref1_Word.l2.re) = pyxref1_Word.l2.once k x := by kernel_rfl
theorem pyxref1_Word.l2.fit (s : St U) (x : (Int × List Int)) (h : pyxref1_Word.l2.un s = some x) : Fits s (pyxref1_Word.l2.mk x) := by
  unfold pyxref1_Word.l2.un at h
  obtain ⟨q0, eq0, h1⟩ := Option.bind_eq_some_iff.1 h
  split at h1
  · cases h1
    refine fits_ren [(1002003, q0.1)] ?_ ?_ ren_one rfl
    · exact List.forall_mem_cons.2 ⟨FV.one (FV.same (by assumption) rfl), List.forall_mem_cons.2 ⟨FV.one (tip_i64_fit eq0 rfl).1, fun _ hp => (List.not_mem_nil hp).elim⟩⟩
    · exact List.forall_mem_cons.2 ⟨(tip_i64_fit eq0 rfl).2, fun _ hp => (List.not_mem_nil hp).elim⟩
  · cases h1
theorem pyxref1_Word.l2.fitO (o : Out U) (y : List Int) (h : pyxref1_Word.l2.re o = some y) : FitsO o (pyxref1_Word.l2.fin y) := by
  unfold pyxref1_Word.l2.re at h
  split at h
  · obtain ⟨q0, eq0, h1⟩ := Option.bind_eq_some_iff.1 h
    cases h1
    refine fitsO_exit (fits_ren [(1002003, q0.1)] ?_ ?_ ren_one rfl)
    · exact List.forall_mem_cons.2 ⟨FV.one (tip_i64_fit eq0 rfl).1, fun _ hp => (List.not_mem_nil hp).elim⟩
    · exact List.forall_mem_cons.2 ⟨(tip_i64_fit eq0 rfl).2, fun _ hp => (List.not_mem_nil hp).elim⟩
  · cases h
theorem pyxref1_Word.l2.sound (k : Nat) : LSound (pyxref1_Word.E k) Try.f59.ntmps Try.f59 (loopAt Try.f59 2) (pyxref1_Word.l2.L k) :=
  loop_sound (pyxref1_Word.ok k) mixed rfl (by kernel_rfl) (allL_of (l := []) (by kernel_rfl) allL_nil) pyxref1_Word.l2.un pyxref1_Word.l2.mk pyxref1_Word.l2.fin pyxref1_Word.l2.re (pyxref1_Word.l2.once k) k pyxref1_Word.l2.fit pyxref1_Word.l2.fitO (pyxref1_Word.l2.eq k) pyxref1_Word.l2.finK pyxref1_Word.l2.finK_eq
theorem pyxref1_Word.eq (k : Nat) (x : Int) : runF (pyxref1_Word.E k) (codeOf Try.f59) (pyxref1_Word.mk x) pyxref1_Word.re = (pyxref1_Word.D k).f x := by kernel_rfl
theorem pyxref1_Word.fit (s : St U) (x : Int) (h : pyxref1_Word.un s = some x) : Fits s (pyxref1_Word.mk x) := by
  unfold pyxref1_Word.un at h
  split at h
  · cases h
    refine fits_ren [] ?_ ?_ ren_nil rfl
    · exact List.forall_mem_cons.2 ⟨FV.one (FV.same (by assumption) rfl), fun _ hp => (List.not_mem_nil hp).elim⟩
    · exact fun _ hp => (List.not_mem_nil hp).elim
  · cases h
theorem pyxref1_Word.fitR (s : St U) (y : List Int) (h : pyxref1_Word.re s = some y) : Fits s (pyxref1_Word.fin y) := by
  unfold pyxref1_Word.re at h
  split at h
  · cases h
    refine fits_ren [] ?_ ?_ ren_nil rfl
    · exact List.forall_mem_cons.2 ⟨FV.one (FV.same (by assumption) rfl), fun _ hp => (List.not_mem_nil hp).elim⟩
    · exact fun _ hp => (List.not_mem_nil hp).elim
  · cases h
theorem pyxref1_Word.sound (k : Nat) : Sound Try.prog DD 59 (pyxref1_Word.D k) :=
  fun_sound (E := pyxref1_Word.E k) (fn := Try.f59) (c := codeOf Try.f59) (pyxref1_Word.ok k) mixed rfl Try.func59 (by kernel_rfl) (by kernel_rfl) (allL_of (l := [loopAt Try.f59 2]) (by kernel_rfl) (allL_cons (key := 2) (by kernel_rfl) rfl (pyxref1_Word.l2.sound k) allL_nil)) (pyxref1_Word.D k) pyxref1_Word.mk pyxref1_Word.re (by kernel_rfl) (by kernel_rfl) pyxref1_Word.fit pyxref1_Word.fitR (pyxref1_Word.eq k)
/-! ### pyx/pyxref1.digit: function 145 -/
noncomputable def pyxref1_digit.f (k : Nat) (a0 : List Int) (a1 : Int) : Option Int := cond (decide (a1 < (List.length a0 : Int))) (cond (inb a1 (List.length a0)) (some (List.getD a0 (Int.toNat a1) 0)) none) (some 0)
noncomputable def pyxref1_digit.un (s : St U) : Option (List Int × Int) := match s.get 0, s.get 1 with | .row C.i64 x1, .flat (.int .i64 x2) => some (x1, x2) | _, _ => none
noncomputable def pyxref1_digit.mk (x : (List Int × Int)) : St U := ⟨[(0, .row C.i64 x.1), (1, .flat (.int .i64 x.2))], []⟩
noncomputable def pyxref1_digit.fin (y : Int) : St U := ⟨[(0, .flat (.int .i64 y))], []⟩
noncomputable def pyxref1_digit.D (k : Nat) : FDen U := { X := (List Int × Int), Y := Int, nt := 13, gh := [], un := pyxref1_digit.un, f := fun x => pyxref1_digit.f k (x.1) (x.2), fin := pyxref1_digit.fin, cl := true, clo := fun _ _ => rfl }
noncomputable def pyxref1_digit.re (s : St U) : Option Int := match s.get 0 with | .flat (.int .i64 x1) => some x1 | _ => none
noncomputable def pyxref1_digit.jl : List (Nat × JDen U) := []
noncomputable def pyxref1_digit.fl (k : Nat) : List (Nat × FDen U) := []
noncomputable def pyxref1_digit.ll (k : Nat) : List (Nat × LDen U) := []
noncomputable def pyxref1_digit.E (k : Nat) : Env U := { P := Try.prog, D := DD, fd := lk (pyxref1_digit.fl k), sf := lk sl0, ld := lk (pyxref1_digit.ll k), jd := lk pyxref1_digit.jl, mode := lk [], elc := lk ec, mpc := lk mc, rts := Try.f145.resultTypes.toList, dyn := fun t => false, vecs := fun d => false, results := Try.f145.results.toList, gh := [], own := false, io := fun g i => false }
theorem pyxref1_digit.ok (k : Nat) : EnvOk (pyxref1_digit.E k) := envOk lawful (pyxref1_digit.fl k) sl0 (pyxref1_digit.ll k) pyxref1_digit.jl _ _ _ _ _ _ _ _ _ _ (by
  intro p hp
  simp [pyxref1_digit.fl] at hp) sl0_ok (by
  intro p hp
  simp [pyxref1_digit.jl] at hp)
theorem pyxref1_digit.eq (k : Nat) (x : (List Int × Int)) : runF (pyxref1_digit.E k) (codeOf Try.f145) (pyxref1_digit.mk x) pyxref1_digit.re = (pyxref1_digit.D k).f x := by kernel_rfl
theorem pyxref1_digit.fit (s : St U) (x : (List Int × Int)) (h : pyxref1_digit.un s = some x) : Fits s (pyxref1_digit.mk x) := by
  unfold pyxref1_digit.un at h
  split at h
  · cases h
    refine fits_ren [] ?_ ?_ ren_nil rfl
    · exact List.forall_mem_cons.2 ⟨FV.one (FV.same (by assumption) rfl), List.forall_mem_cons.2 ⟨FV.one (FV.same (by assumption) rfl), fun _ hp => (List.not_mem_nil hp).elim⟩⟩
    · exact fun _ hp => (List.not_mem_nil hp).elim
  · cases h
theorem pyxref1_digit.fitR (s : St U) (y : Int) (h : pyxref1_digit.re s = some y) : Fits s (pyxref1_digit.fin y) := by
  unfold pyxref1_digit.re at h
  split at h
  · cases h
    refine fits_ren [] ?_ ?_ ren_nil rfl
    · exact List.forall_mem_cons.2 ⟨FV.one (FV.same (by assumption) rfl), fun _ hp => (List.not_mem_nil hp).elim⟩
    · exact fun _ hp => (List.not_mem_nil hp).elim
  · cases h
theorem pyxref1_digit.sound (k : Nat) : Sound Try.prog DD 145 (pyxref1_digit.D k) :=
  fun_sound (E := pyxref1_digit.E k) (fn := Try.f145) (c := codeOf Try.f145) (pyxref1_digit.ok k) mixed rfl Try.func145 (by kernel_rfl) (by kernel_rfl) (allL_of (l := []) (by kernel_rfl) allL_nil) (pyxref1_digit.D k) pyxref1_digit.mk pyxref1_digit.re (by kernel_rfl) (by kernel_rfl) pyxref1_digit.fit pyxref1_digit.fitR (pyxref1_digit.eq k)
/-! ### pyx/pyxref1.trim: function 146 -/
noncomputable def pyxref1_trim.l1.once (k : Nat) (x : List Int) : Option ((List Int) ⊕ (List Int)) := match x with | x1 => ((cond (decide ((List.length x1 : Int) > 0)) (cond (inb (IntKind.wrap .i64 ((List.length x1 : Int) - 1)) (List.length x1)) (some (x1, (List.getD x1 (Int.toNat (IntKind.wrap .i64 ((List.length x1 : Int) - 1))) 0) == 0)) none) (some (x1, false))) : Option (List Int × Bool)).bind fun y4 => (cond (y4.2) (cond (inS 0 (IntKind.wrap .i64 ((List.length y4.1 : Int) - 1)) (List.length y4.1)) (some (.inl (List.take (Int.toNat (IntKind.wrap .i64 ((List.length y4.1 : Int) - 1))) y4.1))) none) (some (.inr y4.1)))
noncomputable def pyxref1_trim.f (k : Nat) (a0 : List Int) : Option (List Int) := (iter (pyxref1_trim.l1.once k) k a0).bind fun y6 => (some y6)
noncomputable def pyxref1_trim.un (s : St U) : Option (List Int) := match s.get 0 with | .row C.i64 x1 => some x1 | _ => none
noncomputable def pyxref1_trim.mk (x : List Int) : St U := ⟨[(0, .row C.i64 x)], []⟩
noncomputable def pyxref1_trim.fin (y : List Int) : St U := ⟨[(0, .row C.i64 y)], []⟩
noncomputable def pyxref1_trim.D (k : Nat) : FDen U := { X := List Int, Y := List Int, nt := 21, gh := [], un := pyxref1_trim.un, f := fun x => pyxref1_trim.f k (x), fin := pyxref1_trim.fin, cl := true, clo := fun _ _ => rfl }
noncomputable def pyxref1_trim.re (s : St U) : Option (List Int) := match s.get 0 with | .row C.i64 x1 => some x1 | _ => none
noncomputable def pyxref1_trim.l1.mk (x : List Int) : St U := match x with | x1 => ⟨[(0, .row C.i64 x1)], []⟩
noncomputable def pyxref1_trim.l1.un (s : St U) : Option (List Int) := (row_i64 (s.get 0)).bind fun q0 => (some q0)
noncomputable def pyxref1_trim.l1.fin (y : List Int) : Out U := match y with | x5 => .exit 0 ⟨[(0, .row C.i64 x5)], []⟩
noncomputable def pyxref1_trim.l1.finK {ρ : Type} (y : List Int) (K : Out U → Option ρ) : Option ρ := match y with | x5 => K (.exit 0 ⟨[(0, .row C.i64 x5)], []⟩)
theorem pyxref1_trim.l1.finK_eq {ρ : Type} (y : List Int) (K : Out U → Option ρ) : pyxref1_trim.l1.finK y K = K (pyxref1_trim.l1.fin y) := by
  unfold pyxref1_trim.l1.finK pyxref1_trim.l1.fin
  first | rfl | (split <;> rfl)
noncomputable def pyxref1_trim.l1.re : Out U → Option (List Int) | .exit 0 s => ((row_i64 (s.get 0)).bind fun q0 => (some q0)) | _ => none
noncomputable def pyxref1_trim.l1.L (k : Nat) : LDen U := { X := List Int, Y := List Int, un := pyxref1_trim.l1.un, f := iter (pyxref1_trim.l1.once k) k, fin := pyxref1_trim.l1.fin, finK := pyxref1_trim.l1.finK, finK_eq := pyxref1_trim.l1.finK_eq }
noncomputable def pyxref1_trim.j1000.fin (y : (List Int × Bool)) : Out U := match y with | (x2, x3) => .norm ⟨[(0, .row C.i64 x2), (14, .flat (.bool x3))], []⟩
noncomputable def pyxref1_trim.j1000.finK {ρ : Type} (y : (List Int × Bool)) (K : Out U → Option ρ) : Option ρ := match y with | (x2, x3) => K (.norm ⟨[(0, .row C.i64 x2), (14, .flat (.bool x3))], []⟩)
theorem pyxref1_trim.j1000.finK_eq {ρ : Type} (y : (List Int × Bool)) (K : Out U → Option ρ) : pyxref1_trim.j1000.finK y K = K (pyxref1_trim.j1000.fin y) := by
  unfold pyxref1_trim.j1000.finK pyxref1_trim.j1000.fin
  first | rfl | (split <;> rfl)
noncomputable def pyxref1_trim.j1000.re : Out U → Option ((List Int × Bool)) | .norm s => ((row_i64 (s.get 0)).bind fun q0 => (match s.get 14 with | .flat (.bool x3) => some (q0, x3) | _ => none)) | _ => none
noncomputable def pyxref1_trim.j1000.J : JDen U := { Y := (List Int × Bool), re := pyxref1_trim.j1000.re, fin := pyxref1_trim.j1000.fin, finK := pyxref1_trim.j1000.finK, finK_eq := pyxref1_trim.j1000.finK_eq }
theorem pyxref1_trim.j1000.fit (o : Out U) (y : (List Int × Bool)) (h : pyxref1_trim.j1000.re o = some y) : FitsO o (pyxref1_trim.j1000.fin y) := by
  unfold pyxref1_trim.j1000.re at h
  split at h
  · obtain ⟨q0, eq0, h1⟩ := Option.bind_eq_some_iff.1 h
    split at h1
    · cases h1
      refine fitsO_norm (fits_ren [] ?_ ?_ ren_nil rfl)
      · exact List.forall_mem_cons.2 ⟨FV.one (row_i64_fit eq0), List.forall_mem_cons.2 ⟨FV.one (FV.same (by assumption) rfl), fun _ hp => (List.not_mem_nil hp).elim⟩⟩
      · exact fun _ hp => (List.not_mem_nil hp).elim
    · cases h1
  · cases h
noncomputable def pyxref1_trim.jl : List (Nat × JDen U) := [(1000, pyxref1_trim.j1000.J)]
noncomputable def pyxref1_trim.fl (k : Nat) : List (Nat × FDen U) := []
noncomputable def pyxref1_trim.ll (k : Nat) : List (Nat × LDen U) := [(1, pyxref1_trim.l1.L k)]
noncomputable def pyxref1_trim.E (k : Nat) : Env U := { P := Try.prog, D := DD, fd := lk (pyxref1_trim.fl k), sf := lk sl0, ld := lk (pyxref1_trim.ll k), jd := lk pyxref1_trim.jl, mode := lk [], elc := lk ec, mpc := lk mc, rts := Try.f146.resultTypes.toList, dyn := fun t => false, vecs := fun d => false, results := Try.f146.results.toList, gh := [], own := false, io := fun g i => false }
theorem pyxref1_trim.ok (k : Nat) : EnvOk (pyxref1_trim.E k) := envOk lawful (pyxref1_trim.fl k) sl0 (pyxref1_trim.ll k) pyxref1_trim.jl _ _ _ _ _ _ _ _ _ _ (by
  intro p hp
  simp [pyxref1_trim.fl] at hp) sl0_ok (by
  intro p hp
  simp only [pyxref1_trim.jl, List.mem_cons, List.not_mem_nil, or_false] at hp
  rcases hp with rfl
  · exact pyxref1_trim.j1000.fit)
theorem pyxref1_trim.l1.eq (k : Nat) (x : List Int) : evC (pyxref1_trim.E k) (loopAt Try.f146 1) (pyxref1_trim.l1.mk x) (headK pyxref1_trim.l1.un pyxref1_trim.l1.re) = pyxref1_trim.l1.once k x := by kernel_rfl
theorem pyxref1_trim.l1.fit (s : St U) (x : List Int) (h : pyxref1_trim.l1.un s = some x) : Fits s (pyxref1_trim.l1.mk x) := by
  unfold pyxref1_trim.l1.un at h
  obtain ⟨q0, eq0, h1⟩ := Option.bind_eq_some_iff.1 h
  cases h1
  refine fits_ren [] ?_ ?_ ren_nil rfl
  · exact List.forall_mem_cons.2 ⟨FV.one (row_i64_fit eq0), fun _ hp => (List.not_mem_nil hp).elim⟩
  · exact fun _ hp => (List.not_mem_nil hp).elim
theorem pyxref1_trim.l1.fitO (o : Out U) (y : List Int) (h : pyxref1_trim.l1.re o = some y) : FitsO o (pyxref1_trim.l1.fin y) := by
  unfold pyxref1_trim.l1.re at h
  split at h
  · obtain ⟨q0, eq0, h1⟩ := Option.bind_eq_some_iff.1 h
    cases h1
    refine fitsO_exit (fits_ren [] ?_ ?_ ren_nil rfl)
    · exact List.forall_mem_cons.2 ⟨FV.one (row_i64_fit eq0), fun _ hp => (List.not_mem_nil hp).elim⟩
    · exact fun _ hp => (List.not_mem_nil hp).elim
  · cases h
theorem pyxref1_trim.l1.sound (k : Nat) : LSound (pyxref1_trim.E k) Try.f146.ntmps Try.f146 (loopAt Try.f146 1) (pyxref1_trim.l1.L k) :=
  loop_sound (pyxref1_trim.ok k) mixed rfl (by kernel_rfl) (allL_of (l := []) (by kernel_rfl) allL_nil) pyxref1_trim.l1.un pyxref1_trim.l1.mk pyxref1_trim.l1.fin pyxref1_trim.l1.re (pyxref1_trim.l1.once k) k pyxref1_trim.l1.fit pyxref1_trim.l1.fitO (pyxref1_trim.l1.eq k) pyxref1_trim.l1.finK pyxref1_trim.l1.finK_eq
theorem pyxref1_trim.eq (k : Nat) (x : List Int) : runF (pyxref1_trim.E k) (codeOf Try.f146) (pyxref1_trim.mk x) pyxref1_trim.re = (pyxref1_trim.D k).f x := by kernel_rfl
theorem pyxref1_trim.fit (s : St U) (x : List Int) (h : pyxref1_trim.un s = some x) : Fits s (pyxref1_trim.mk x) := by
  unfold pyxref1_trim.un at h
  split at h
  · cases h
    refine fits_ren [] ?_ ?_ ren_nil rfl
    · exact List.forall_mem_cons.2 ⟨FV.one (FV.same (by assumption) rfl), fun _ hp => (List.not_mem_nil hp).elim⟩
    · exact fun _ hp => (List.not_mem_nil hp).elim
  · cases h
theorem pyxref1_trim.fitR (s : St U) (y : List Int) (h : pyxref1_trim.re s = some y) : Fits s (pyxref1_trim.fin y) := by
  unfold pyxref1_trim.re at h
  split at h
  · cases h
    refine fits_ren [] ?_ ?_ ren_nil rfl
    · exact List.forall_mem_cons.2 ⟨FV.one (FV.same (by assumption) rfl), fun _ hp => (List.not_mem_nil hp).elim⟩
    · exact fun _ hp => (List.not_mem_nil hp).elim
  · cases h
theorem pyxref1_trim.sound (k : Nat) : Sound Try.prog DD 146 (pyxref1_trim.D k) :=
  fun_sound (E := pyxref1_trim.E k) (fn := Try.f146) (c := codeOf Try.f146) (pyxref1_trim.ok k) mixed rfl Try.func146 (by kernel_rfl) (by kernel_rfl) (allL_of (l := [loopAt Try.f146 1]) (by kernel_rfl) (allL_cons (key := 1) (by kernel_rfl) rfl (pyxref1_trim.l1.sound k) allL_nil)) (pyxref1_trim.D k) pyxref1_trim.mk pyxref1_trim.re (by kernel_rfl) (by kernel_rfl) pyxref1_trim.fit pyxref1_trim.fitR (pyxref1_trim.eq k)
end
end Go.Proofs.Ytlaogfkgkpgofaa
