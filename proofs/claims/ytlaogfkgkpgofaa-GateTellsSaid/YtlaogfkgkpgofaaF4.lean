import Derived.Test.YtlaogfkgkpgofaaF3
/-! Functions, told; their equations with the evaluator; that they are sound. Written by gen.py. -/
namespace Go.Proofs.Ytlaogfkgkpgofaa
open Go Go.Ev
noncomputable section
set_option linter.unusedVariables false
set_option linter.unusedSimpArgs false
set_option maxRecDepth 100000
/-! ### pyx/limb.Wide: function 143 -/
noncomputable def limb_Wide.f (k : Nat) (a0 : (Int × Int)) : Option (Int × Int × Int × Int) := some (a0.1, a0.2, 0, 0)
noncomputable def limb_Wide.un (s : St U) : Option (Int × Int) := match s.get 0 with | .agg [.flat (.int .u64 x1), .flat (.int .u64 x2)] => some (x1, x2) | _ => none
noncomputable def limb_Wide.mk (x : (Int × Int)) : St U := ⟨[(0, .agg [.flat (.int .u64 x.1), .flat (.int .u64 x.2)])], []⟩
noncomputable def limb_Wide.fin (y : (Int × Int × Int × Int)) : St U := ⟨[(0, .agg [.flat (.int .u64 y.1), .flat (.int .u64 y.2.1), .flat (.int .u64 y.2.2.1), .flat (.int .u64 y.2.2.2)])], []⟩
noncomputable def limb_Wide.D (k : Nat) : FDen U := { X := (Int × Int), Y := (Int × Int × Int × Int), nt := 8, gh := [], un := limb_Wide.un, f := fun x => limb_Wide.f k (x), fin := limb_Wide.fin, cl := true, clo := fun _ _ => rfl }
noncomputable def limb_Wide.re (s : St U) : Option (Int × Int × Int × Int) := match s.get 0 with | .agg [.flat (.int .u64 x1), .flat (.int .u64 x2), .flat (.int .u64 x3), .flat (.int .u64 x4)] => some (x1, x2, x3, x4) | _ => none
noncomputable def limb_Wide.jl : List (Nat × JDen U) := []
noncomputable def limb_Wide.fl (k : Nat) : List (Nat × FDen U) := []
noncomputable def limb_Wide.ll (k : Nat) : List (Nat × LDen U) := []
noncomputable def limb_Wide.E (k : Nat) : Env U := { P := Try.prog, D := DD, fd := lk (limb_Wide.fl k), ld := lk (limb_Wide.ll k), jd := lk limb_Wide.jl, mode := lk [], elc := lk ec, mpc := lk mc, rts := Try.f143.resultTypes.toList, dyn := fun t => false, vecs := fun d => false, results := Try.f143.results.toList, gh := [], own := false, io := fun g i => false }
theorem limb_Wide.ok (k : Nat) : EnvOk (limb_Wide.E k) := envOk lawful (limb_Wide.fl k) (limb_Wide.ll k) limb_Wide.jl _ _ _ _ _ _ _ _ _ _ (by
  intro p hp
  simp [limb_Wide.fl] at hp) (by
  intro p hp
  simp [limb_Wide.jl] at hp)
theorem limb_Wide.eq (k : Nat) (x : (Int × Int)) : runF (limb_Wide.E k) (codeOf Try.f143) (limb_Wide.mk x) limb_Wide.re = (limb_Wide.D k).f x := by kernel_rfl
theorem limb_Wide.fit (s : St U) (x : (Int × Int)) (h : limb_Wide.un s = some x) : Fits s (limb_Wide.mk x) := by
  unfold limb_Wide.un at h
  split at h
  · cases h
    refine fits_ren [] ?_ ?_ ren_nil rfl
    · exact List.forall_mem_cons.2 ⟨FV.one (FV.same (by assumption) rfl), fun _ hp => (List.not_mem_nil hp).elim⟩
    · exact fun _ hp => (List.not_mem_nil hp).elim
  · cases h
theorem limb_Wide.fitR (s : St U) (y : (Int × Int × Int × Int)) (h : limb_Wide.re s = some y) : Fits s (limb_Wide.fin y) := by
  unfold limb_Wide.re at h
  split at h
  · cases h
    refine fits_ren [] ?_ ?_ ren_nil rfl
    · exact List.forall_mem_cons.2 ⟨FV.one (FV.same (by assumption) rfl), fun _ hp => (List.not_mem_nil hp).elim⟩
    · exact fun _ hp => (List.not_mem_nil hp).elim
  · cases h
theorem limb_Wide.sound (k : Nat) : Sound Try.prog DD 143 (limb_Wide.D k) :=
  fun_sound (E := limb_Wide.E k) (fn := Try.f143) (c := codeOf Try.f143) (limb_Wide.ok k) mixed rfl Try.func143 (by kernel_rfl) (by kernel_rfl) (allL_of (l := []) (by kernel_rfl) allL_nil) (limb_Wide.D k) limb_Wide.mk limb_Wide.re (by kernel_rfl) (by kernel_rfl) limb_Wide.fit limb_Wide.fitR (limb_Wide.eq k)
/-! ### pyx/quant.made: function 108 -/
noncomputable def quant_made.f (k : Nat) (a0 : Bool) (a1 : (Int × Int × Int × Int)) (a2 : Int) : Option (Sapi_Dec × Int) := (limb_Short.f k (a1.1, a1.2.1, a1.2.2.1, a1.2.2.2)).bind fun t1 => (((cond (a0) (some (t1.2, false, 0, 0, 0, !((t1.1.1 == 0) && (t1.1.2 == 0)), t1.1.1, t1.1.2, a2)) (some (t1.2, false, 0, 0, 0, false, t1.1.1, t1.1.2, a2))) : Option (Bool × Bool × Int × Int × Int × Bool × Int × Int × Int)).bind fun y11 => (((cond (!y11.1) (some (true, y11.2.1, y11.2.2.1, y11.2.2.2.1, y11.2.2.2.2.1, y11.2.2.2.2.2.1, y11.2.2.2.2.2.2.1, y11.2.2.2.2.2.2.2.1, y11.2.2.2.2.2.2.2.2)) ((dec_Right.f k (⟨y11.2.2.2.2.2.1, (y11.2.2.2.2.2.2.1, y11.2.2.2.2.2.2.2.1), y11.2.2.2.2.2.2.2.2⟩ : Sapi_Dec)).bind fun t21 => (some (!t21, y11.2.1, y11.2.2.1, y11.2.2.2.1, y11.2.2.2.2.1, y11.2.2.2.2.2.1, y11.2.2.2.2.2.2.1, y11.2.2.2.2.2.2.2.1, y11.2.2.2.2.2.2.2.2)))) : Option (Bool × Bool × Int × Int × Int × Bool × Int × Int × Int)).bind fun y22 => (cond (y22.1) (some ((⟨false, (0, 0), 0⟩ : Sapi_Dec), 3)) (some ((⟨y22.2.2.2.2.2.1, (y22.2.2.2.2.2.2.1, y22.2.2.2.2.2.2.2.1), y22.2.2.2.2.2.2.2.2⟩ : Sapi_Dec), 0)))))
noncomputable def quant_made.un (s : St U) : Option (Bool × (Int × Int × Int × Int) × Int) := match s.get 0, s.get 1, s.get 2 with | .flat (.bool x1), .agg [.flat (.int .u64 x2), .flat (.int .u64 x3), .flat (.int .u64 x4), .flat (.int .u64 x5)], .flat (.int .i64 x6) => some (x1, (x2, x3, x4, x5), x6) | _, _, _ => none
noncomputable def quant_made.mk (x : (Bool × (Int × Int × Int × Int) × Int)) : St U := ⟨[(0, .flat (.bool x.1)), (1, .agg [.flat (.int .u64 x.2.1.1), .flat (.int .u64 x.2.1.2.1), .flat (.int .u64 x.2.1.2.2.1), .flat (.int .u64 x.2.1.2.2.2)]), (2, .flat (.int .i64 x.2.2))], []⟩
noncomputable def quant_made.fin (y : (Sapi_Dec × Int)) : St U := ⟨[(0, .tup [.agg [.flat (.bool y.1.f_Neg), .flat (.int .u64 y.1.f_C.1), .flat (.int .u64 y.1.f_C.2), .flat (.int .i64 y.1.f_Scale)], .flat (.int .i64 y.2)])], []⟩
noncomputable def quant_made.D (k : Nat) : FDen U := { X := (Bool × (Int × Int × Int × Int) × Int), Y := (Sapi_Dec × Int), nt := 34, gh := [], un := quant_made.un, f := fun x => quant_made.f k (x.1) (x.2.1) (x.2.2), fin := quant_made.fin, cl := true, clo := fun _ _ => rfl }
noncomputable def quant_made.re (s : St U) : Option (Sapi_Dec × Int) := match s.get 0 with | .tup [.agg [.flat (.bool x1), .flat (.int .u64 x2), .flat (.int .u64 x3), .flat (.int .i64 x4)], .flat (.int .i64 x5)] => some ((⟨x1, (x2, x3), x4⟩ : Sapi_Dec), x5) | _ => none
noncomputable def quant_made.j2000.fin (y : (Bool × Bool × Int × Int × Int × Bool × Int × Int × Int)) : Out U := match y with | (x6, x2, x3, x4, x5, x7, x8, x9, x10) => .norm ⟨[(6, .ptr 6 0), (10, .ptr 10 0), (9, .flat (.bool x6))], [(6, .lit [.flat (.bool x2), .flat (.int .u64 x3), .flat (.int .u64 x4), .flat (.int .i64 x5)]), (10, .lit [.flat (.bool x7), .flat (.int .u64 x8), .flat (.int .u64 x9), .flat (.int .i64 x10)])]⟩
noncomputable def quant_made.j2000.finK {ρ : Type} (y : (Bool × Bool × Int × Int × Int × Bool × Int × Int × Int)) (K : Out U → Option ρ) : Option ρ := match y with | (x6, x2, x3, x4, x5, x7, x8, x9, x10) => K (.norm ⟨[(6, .ptr 6 0), (10, .ptr 10 0), (9, .flat (.bool x6))], [(6, .lit [.flat (.bool x2), .flat (.int .u64 x3), .flat (.int .u64 x4), .flat (.int .i64 x5)]), (10, .lit [.flat (.bool x7), .flat (.int .u64 x8), .flat (.int .u64 x9), .flat (.int .i64 x10)])]⟩)
theorem quant_made.j2000.finK_eq {ρ : Type} (y : (Bool × Bool × Int × Int × Int × Bool × Int × Int × Int)) (K : Out U → Option ρ) : quant_made.j2000.finK y K = K (quant_made.j2000.fin y) := by
  unfold quant_made.j2000.finK quant_made.j2000.fin
  first | rfl | (split <;> rfl)
noncomputable def quant_made.j2000.re : Out U → Option ((Bool × Bool × Int × Int × Int × Bool × Int × Int × Int)) | .norm s => (match s.get 6, s.get 10, s.get 9, lk s.o 6, lk s.o 10 with | .ptr 6 0, .ptr 10 0, .flat (.bool x6), some (.lit [.flat (.bool x2), .flat (.int .u64 x3), .flat (.int .u64 x4), .flat (.int .i64 x5)]), some (.lit [.flat (.bool x7), .flat (.int .u64 x8), .flat (.int .u64 x9), .flat (.int .i64 x10)]) => some (x6, x2, x3, x4, x5, x7, x8, x9, x10) | _, _, _, _, _ => none) | _ => none
noncomputable def quant_made.j2000.J : JDen U := { Y := (Bool × Bool × Int × Int × Int × Bool × Int × Int × Int), re := quant_made.j2000.re, fin := quant_made.j2000.fin, finK := quant_made.j2000.finK, finK_eq := quant_made.j2000.finK_eq }
theorem quant_made.j2000.fit (o : Out U) (y : (Bool × Bool × Int × Int × Int × Bool × Int × Int × Int)) (h : quant_made.j2000.re o = some y) : FitsO o (quant_made.j2000.fin y) := by
  unfold quant_made.j2000.re at h
  split at h
  · split at h
    · cases h
      refine fitsO_norm (fits_ren [] ?_ ?_ ren_nil rfl)
      · exact List.forall_mem_cons.2 ⟨FV.one (FV.ptr (by assumption)), List.forall_mem_cons.2 ⟨FV.one (FV.ptr (by assumption)), List.forall_mem_cons.2 ⟨FV.one (FV.same (by assumption) rfl), fun _ hp => (List.not_mem_nil hp).elim⟩⟩⟩
      · exact List.forall_mem_cons.2 ⟨(FO.same (show lk (St.o _) 6 = some _ from by assumption) rfl), List.forall_mem_cons.2 ⟨(FO.same (show lk (St.o _) 10 = some _ from by assumption) rfl), fun _ hp => (List.not_mem_nil hp).elim⟩⟩
    · cases h
  · cases h
noncomputable def quant_made.j3000.fin (y : (Bool × Bool × Int × Int × Int × Bool × Int × Int × Int)) : Out U := match y with | (x20, x12, x13, x14, x15, x16, x17, x18, x19) => .norm ⟨[(6, .ptr 6 0), (10, .ptr 10 0), (31, .flat (.bool x20))], [(6, .lit [.flat (.bool x12), .flat (.int .u64 x13), .flat (.int .u64 x14), .flat (.int .i64 x15)]), (10, .lit [.flat (.bool x16), .flat (.int .u64 x17), .flat (.int .u64 x18), .flat (.int .i64 x19)])]⟩
noncomputable def quant_made.j3000.finK {ρ : Type} (y : (Bool × Bool × Int × Int × Int × Bool × Int × Int × Int)) (K : Out U → Option ρ) : Option ρ := match y with | (x20, x12, x13, x14, x15, x16, x17, x18, x19) => K (.norm ⟨[(6, .ptr 6 0), (10, .ptr 10 0), (31, .flat (.bool x20))], [(6, .lit [.flat (.bool x12), .flat (.int .u64 x13), .flat (.int .u64 x14), .flat (.int .i64 x15)]), (10, .lit [.flat (.bool x16), .flat (.int .u64 x17), .flat (.int .u64 x18), .flat (.int .i64 x19)])]⟩)
theorem quant_made.j3000.finK_eq {ρ : Type} (y : (Bool × Bool × Int × Int × Int × Bool × Int × Int × Int)) (K : Out U → Option ρ) : quant_made.j3000.finK y K = K (quant_made.j3000.fin y) := by
  unfold quant_made.j3000.finK quant_made.j3000.fin
  first | rfl | (split <;> rfl)
noncomputable def quant_made.j3000.re : Out U → Option ((Bool × Bool × Int × Int × Int × Bool × Int × Int × Int)) | .norm s => (match s.get 6, s.get 10, s.get 31, lk s.o 6, lk s.o 10 with | .ptr 6 0, .ptr 10 0, .flat (.bool x20), some (.lit [.flat (.bool x12), .flat (.int .u64 x13), .flat (.int .u64 x14), .flat (.int .i64 x15)]), some (.lit [.flat (.bool x16), .flat (.int .u64 x17), .flat (.int .u64 x18), .flat (.int .i64 x19)]) => some (x20, x12, x13, x14, x15, x16, x17, x18, x19) | _, _, _, _, _ => none) | _ => none
noncomputable def quant_made.j3000.J : JDen U := { Y := (Bool × Bool × Int × Int × Int × Bool × Int × Int × Int), re := quant_made.j3000.re, fin := quant_made.j3000.fin, finK := quant_made.j3000.finK, finK_eq := quant_made.j3000.finK_eq }
theorem quant_made.j3000.fit (o : Out U) (y : (Bool × Bool × Int × Int × Int × Bool × Int × Int × Int)) (h : quant_made.j3000.re o = some y) : FitsO o (quant_made.j3000.fin y) := by
  unfold quant_made.j3000.re at h
  split at h
  · split at h
    · cases h
      refine fitsO_norm (fits_ren [] ?_ ?_ ren_nil rfl)
      · exact List.forall_mem_cons.2 ⟨FV.one (FV.ptr (by assumption)), List.forall_mem_cons.2 ⟨FV.one (FV.ptr (by assumption)), List.forall_mem_cons.2 ⟨FV.one (FV.same (by assumption) rfl), fun _ hp => (List.not_mem_nil hp).elim⟩⟩⟩
      · exact List.forall_mem_cons.2 ⟨(FO.same (show lk (St.o _) 6 = some _ from by assumption) rfl), List.forall_mem_cons.2 ⟨(FO.same (show lk (St.o _) 10 = some _ from by assumption) rfl), fun _ hp => (List.not_mem_nil hp).elim⟩⟩
    · cases h
  · cases h
noncomputable def quant_made.jl : List (Nat × JDen U) := [(2000, quant_made.j2000.J), (3000, quant_made.j3000.J)]
noncomputable def quant_made.fl (k : Nat) : List (Nat × FDen U) := [(125, limb_Short.D k), (82, dec_Right.D k)]
noncomputable def quant_made.ll (k : Nat) : List (Nat × LDen U) := []
noncomputable def quant_made.E (k : Nat) : Env U := { P := Try.prog, D := DD, fd := lk (quant_made.fl k), ld := lk (quant_made.ll k), jd := lk quant_made.jl, mode := lk [], elc := lk ec, mpc := lk mc, rts := Try.f108.resultTypes.toList, dyn := fun t => false, vecs := fun d => false, results := Try.f108.results.toList, gh := [], own := false, io := fun g i => false }
theorem quant_made.ok (k : Nat) : EnvOk (quant_made.E k) := envOk lawful (quant_made.fl k) (quant_made.ll k) quant_made.jl _ _ _ _ _ _ _ _ _ _ (by
  intro p hp
  simp only [quant_made.fl, List.mem_cons, List.not_mem_nil, or_false] at hp
  rcases hp with rfl | rfl
  · exact ⟨limb_Short.sound k, enter_of Try.func125 (by kernel_rfl) (by kernel_rfl)⟩
  · exact ⟨dec_Right.sound k, enter_of Try.func82 (by kernel_rfl) (by kernel_rfl)⟩) (by
  intro p hp
  simp only [quant_made.jl, List.mem_cons, List.not_mem_nil, or_false] at hp
  rcases hp with rfl | rfl
  · exact quant_made.j2000.fit
  · exact quant_made.j3000.fit)
theorem quant_made.eq (k : Nat) (x : (Bool × (Int × Int × Int × Int) × Int)) : runF (quant_made.E k) (codeOf Try.f108) (quant_made.mk x) quant_made.re = (quant_made.D k).f x := by kernel_rfl
theorem quant_made.fit (s : St U) (x : (Bool × (Int × Int × Int × Int) × Int)) (h : quant_made.un s = some x) : Fits s (quant_made.mk x) := by
  unfold quant_made.un at h
  split at h
  · cases h
    refine fits_ren [] ?_ ?_ ren_nil rfl
    · exact List.forall_mem_cons.2 ⟨FV.one (FV.same (by assumption) rfl), List.forall_mem_cons.2 ⟨FV.one (FV.same (by assumption) rfl), List.forall_mem_cons.2 ⟨FV.one (FV.same (by assumption) rfl), fun _ hp => (List.not_mem_nil hp).elim⟩⟩⟩
    · exact fun _ hp => (List.not_mem_nil hp).elim
  · cases h
theorem quant_made.fitR (s : St U) (y : (Sapi_Dec × Int)) (h : quant_made.re s = some y) : Fits s (quant_made.fin y) := by
  unfold quant_made.re at h
  split at h
  · cases h
    refine fits_ren [] ?_ ?_ ren_nil rfl
    · exact List.forall_mem_cons.2 ⟨FV.tup (by assumption) (FTs.cons (FVA.one (FV.same rfl rfl)) (FTs.cons (FVA.one (FV.same rfl rfl)) (FTs.nil))), fun _ hp => (List.not_mem_nil hp).elim⟩
    · exact fun _ hp => (List.not_mem_nil hp).elim
  · cases h
theorem quant_made.sound (k : Nat) : Sound Try.prog DD 108 (quant_made.D k) :=
  fun_sound (E := quant_made.E k) (fn := Try.f108) (c := codeOf Try.f108) (quant_made.ok k) mixed rfl Try.func108 (by kernel_rfl) (by kernel_rfl) (allL_of (l := []) (by kernel_rfl) allL_nil) (quant_made.D k) quant_made.mk quant_made.re (by kernel_rfl) (by kernel_rfl) quant_made.fit quant_made.fitR (quant_made.eq k)
/-! ### pyx/quant.rounded: function 141 -/
noncomputable def quant_rounded.f (k : Nat) (a0 : Bool) (a1 : (Int × Int × Int × Int)) (a2 : (Int × Int)) (a3 : Int) (a4 : Int) : Option (Sapi_Dec × Int) := (limb_Div.f k (a1.1, a1.2.1, a1.2.2.1, a1.2.2.2) (a2.1, a2.2)).bind fun t1 => ((limb_Short.f k (t1.1.1, t1.1.2.1, t1.1.2.2.1, t1.1.2.2.2)).bind fun t2 => (cond (!t2.2) (some ((⟨false, (0, 0), 0⟩ : Sapi_Dec), 3)) ((quant_farther.f k a0 (decide ((bits .and .u64 t2.1.1 1) > 0)) (t1.2.1.1, t1.2.1.2) (a2.1, a2.2) a4).bind fun t3 => (((cond (t3) ((limb_Of.f k 1).bind fun t4 => ((limb_Add.f k (t2.1.1, t2.1.2) (t4.1, t4.2)).bind fun t5 => (cond (!t5.2) (some (.inr ((⟨false, (0, 0), 0⟩ : Sapi_Dec), 3))) (some (.inl (a0, a3, false, 0, 0, 0, t5.1.1, t5.1.2)))))) (some (.inl (a0, a3, false, 0, 0, 0, t2.1.1, t2.1.2)))) : Option ((Bool × Int × Bool × Int × Int × Int × Int × Int) ⊕ (Sapi_Dec × Int))).bind fun | .inl y15 => ((limb_Wide.f k (y15.2.2.2.2.2.2.1, y15.2.2.2.2.2.2.2)).bind fun t16 => ((quant_made.f k y15.1 (t16.1, t16.2.1, t16.2.2.1, t16.2.2.2) y15.2.1).bind fun t17 => (some ((⟨t17.1.f_Neg, (t17.1.f_C.1, t17.1.f_C.2), t17.1.f_Scale⟩ : Sapi_Dec), t17.2)))) | .inr y18 => (some ((⟨y18.1.f_Neg, (y18.1.f_C.1, y18.1.f_C.2), y18.1.f_Scale⟩ : Sapi_Dec), y18.2))))))
noncomputable def quant_rounded.un (s : St U) : Option (Bool × (Int × Int × Int × Int) × (Int × Int) × Int × Int) := match s.get 0, s.get 1, s.get 2, s.get 3, s.get 4 with | .flat (.bool x1), .agg [.flat (.int .u64 x2), .flat (.int .u64 x3), .flat (.int .u64 x4), .flat (.int .u64 x5)], .agg [.flat (.int .u64 x6), .flat (.int .u64 x7)], .flat (.int .i64 x8), .flat (.int .i64 x9) => some (x1, (x2, x3, x4, x5), (x6, x7), x8, x9) | _, _, _, _, _ => none
noncomputable def quant_rounded.mk (x : (Bool × (Int × Int × Int × Int) × (Int × Int) × Int × Int)) : St U := ⟨[(0, .flat (.bool x.1)), (1, .agg [.flat (.int .u64 x.2.1.1), .flat (.int .u64 x.2.1.2.1), .flat (.int .u64 x.2.1.2.2.1), .flat (.int .u64 x.2.1.2.2.2)]), (2, .agg [.flat (.int .u64 x.2.2.1.1), .flat (.int .u64 x.2.2.1.2)]), (3, .flat (.int .i64 x.2.2.2.1)), (4, .flat (.int .i64 x.2.2.2.2))], []⟩
noncomputable def quant_rounded.fin (y : (Sapi_Dec × Int)) : St U := ⟨[(0, .tup [.agg [.flat (.bool y.1.f_Neg), .flat (.int .u64 y.1.f_C.1), .flat (.int .u64 y.1.f_C.2), .flat (.int .i64 y.1.f_Scale)], .flat (.int .i64 y.2)])], []⟩
noncomputable def quant_rounded.D (k : Nat) : FDen U := { X := (Bool × (Int × Int × Int × Int) × (Int × Int) × Int × Int), Y := (Sapi_Dec × Int), nt := 57, gh := [], un := quant_rounded.un, f := fun x => quant_rounded.f k (x.1) (x.2.1) (x.2.2.1) (x.2.2.2.1) (x.2.2.2.2), fin := quant_rounded.fin, cl := true, clo := fun _ _ => rfl }
noncomputable def quant_rounded.re (s : St U) : Option (Sapi_Dec × Int) := match s.get 0 with | .tup [.agg [.flat (.bool x1), .flat (.int .u64 x2), .flat (.int .u64 x3), .flat (.int .i64 x4)], .flat (.int .i64 x5)] => some ((⟨x1, (x2, x3), x4⟩ : Sapi_Dec), x5) | _ => none
noncomputable def quant_rounded.j6001.fin (y : (Bool × Int × Bool × Int × Int × Int × Int × Int) ⊕ (Sapi_Dec × Int)) : Out U := match y with | .inl (x6, x7, x8, x9, x10, x11, x12, x13) => .norm ⟨[(10, .ptr 10 0), (15, .ptr 15 0), (0, .flat (.bool x6)), (3, .flat (.int .i64 x7))], [(10, .lit [.flat (.bool x8), .flat (.int .u64 x9), .flat (.int .u64 x10), .flat (.int .i64 x11)]), (15, .lit [.flat (.int .u64 x12), .flat (.int .u64 x13)])]⟩ | .inr z => .ret (⟨[(0, .tup [.agg [.flat (.bool z.1.f_Neg), .flat (.int .u64 z.1.f_C.1), .flat (.int .u64 z.1.f_C.2), .flat (.int .i64 z.1.f_Scale)], .flat (.int .i64 z.2)])], []⟩)
noncomputable def quant_rounded.j6001.finK {ρ : Type} (y : (Bool × Int × Bool × Int × Int × Int × Int × Int) ⊕ (Sapi_Dec × Int)) (K : Out U → Option ρ) : Option ρ := match y with | .inl (x6, x7, x8, x9, x10, x11, x12, x13) => K (.norm ⟨[(10, .ptr 10 0), (15, .ptr 15 0), (0, .flat (.bool x6)), (3, .flat (.int .i64 x7))], [(10, .lit [.flat (.bool x8), .flat (.int .u64 x9), .flat (.int .u64 x10), .flat (.int .i64 x11)]), (15, .lit [.flat (.int .u64 x12), .flat (.int .u64 x13)])]⟩) | .inr z => K (.ret (⟨[(0, .tup [.agg [.flat (.bool z.1.f_Neg), .flat (.int .u64 z.1.f_C.1), .flat (.int .u64 z.1.f_C.2), .flat (.int .i64 z.1.f_Scale)], .flat (.int .i64 z.2)])], []⟩))
theorem quant_rounded.j6001.finK_eq {ρ : Type} (y : (Bool × Int × Bool × Int × Int × Int × Int × Int) ⊕ (Sapi_Dec × Int)) (K : Out U → Option ρ) : quant_rounded.j6001.finK y K = K (quant_rounded.j6001.fin y) := by
  unfold quant_rounded.j6001.finK quant_rounded.j6001.fin
  first | rfl | (split <;> rfl)
noncomputable def quant_rounded.j6001.re : Out U → Option ((Bool × Int × Bool × Int × Int × Int × Int × Int) ⊕ (Sapi_Dec × Int)) | .norm s => (match s.get 10, s.get 15, s.get 0, s.get 3, lk s.o 10, lk s.o 15 with | .ptr 10 0, .ptr 15 0, .flat (.bool x6), .flat (.int .i64 x7), some (.lit [.flat (.bool x8), .flat (.int .u64 x9), .flat (.int .u64 x10), .flat (.int .i64 x11)]), some (.lit [.flat (.int .u64 x12), .flat (.int .u64 x13)]) => some (.inl (x6, x7, x8, x9, x10, x11, x12, x13)) | _, _, _, _, _, _ => none) | .ret s => (match s.get 0 with | .tup [.agg [.flat (.bool x1), .flat (.int .u64 x2), .flat (.int .u64 x3), .flat (.int .i64 x4)], .flat (.int .i64 x5)] => some (.inr ((⟨x1, (x2, x3), x4⟩ : Sapi_Dec), x5)) | _ => none) | _ => none
noncomputable def quant_rounded.j6001.J : JDen U := { Y := (Bool × Int × Bool × Int × Int × Int × Int × Int) ⊕ (Sapi_Dec × Int), re := quant_rounded.j6001.re, fin := quant_rounded.j6001.fin, finK := quant_rounded.j6001.finK, finK_eq := quant_rounded.j6001.finK_eq }
theorem quant_rounded.j6001.fit (o : Out U) (y : (Bool × Int × Bool × Int × Int × Int × Int × Int) ⊕ (Sapi_Dec × Int)) (h : quant_rounded.j6001.re o = some y) : FitsO o (quant_rounded.j6001.fin y) := by
  unfold quant_rounded.j6001.re at h
  split at h
  · split at h
    · cases h
      refine fitsO_norm (fits_ren [] ?_ ?_ ren_nil rfl)
      · exact List.forall_mem_cons.2 ⟨FV.one (FV.ptr (by assumption)), List.forall_mem_cons.2 ⟨FV.one (FV.ptr (by assumption)), List.forall_mem_cons.2 ⟨FV.one (FV.same (by assumption) rfl), List.forall_mem_cons.2 ⟨FV.one (FV.same (by assumption) rfl), fun _ hp => (List.not_mem_nil hp).elim⟩⟩⟩⟩
      · exact List.forall_mem_cons.2 ⟨(FO.same (show lk (St.o _) 10 = some _ from by assumption) rfl), List.forall_mem_cons.2 ⟨(FO.same (show lk (St.o _) 15 = some _ from by assumption) rfl), fun _ hp => (List.not_mem_nil hp).elim⟩⟩
    · cases h
  · split at h
    · cases h
      refine fitsO_ret (fits_ren [] ?_ ?_ ren_nil rfl)
      · exact List.forall_mem_cons.2 ⟨FV.tup (by assumption) (FTs.cons (FVA.one (FV.same rfl rfl)) (FTs.cons (FVA.one (FV.same rfl rfl)) (FTs.nil))), fun _ hp => (List.not_mem_nil hp).elim⟩
      · exact fun _ hp => (List.not_mem_nil hp).elim
    · cases h
  · cases h
noncomputable def quant_rounded.jl : List (Nat × JDen U) := [(6001, quant_rounded.j6001.J)]
noncomputable def quant_rounded.fl (k : Nat) : List (Nat × FDen U) := [(156, limb_Div.D k), (125, limb_Short.D k), (157, quant_farther.D k), (129, limb_Of.D k), (127, limb_Add.D k), (143, limb_Wide.D k), (108, quant_made.D k)]
noncomputable def quant_rounded.ll (k : Nat) : List (Nat × LDen U) := []
noncomputable def quant_rounded.E (k : Nat) : Env U := { P := Try.prog, D := DD, fd := lk (quant_rounded.fl k), ld := lk (quant_rounded.ll k), jd := lk quant_rounded.jl, mode := lk [], elc := lk ec, mpc := lk mc, rts := Try.f141.resultTypes.toList, dyn := fun t => false, vecs := fun d => false, results := Try.f141.results.toList, gh := [], own := false, io := fun g i => false }
theorem quant_rounded.ok (k : Nat) : EnvOk (quant_rounded.E k) := envOk lawful (quant_rounded.fl k) (quant_rounded.ll k) quant_rounded.jl _ _ _ _ _ _ _ _ _ _ (by
  intro p hp
  simp only [quant_rounded.fl, List.mem_cons, List.not_mem_nil, or_false] at hp
  rcases hp with rfl | rfl | rfl | rfl | rfl | rfl | rfl
  · exact ⟨limb_Div.sound k, enter_of Try.func156 (by kernel_rfl) (by kernel_rfl)⟩
  · exact ⟨limb_Short.sound k, enter_of Try.func125 (by kernel_rfl) (by kernel_rfl)⟩
  · exact ⟨quant_farther.sound k, enter_of Try.func157 (by kernel_rfl) (by kernel_rfl)⟩
  · exact ⟨limb_Of.sound k, enter_of Try.func129 (by kernel_rfl) (by kernel_rfl)⟩
  · exact ⟨limb_Add.sound k, enter_of Try.func127 (by kernel_rfl) (by kernel_rfl)⟩
  · exact ⟨limb_Wide.sound k, enter_of Try.func143 (by kernel_rfl) (by kernel_rfl)⟩
  · exact ⟨quant_made.sound k, enter_of Try.func108 (by kernel_rfl) (by kernel_rfl)⟩) (by
  intro p hp
  simp only [quant_rounded.jl, List.mem_cons, List.not_mem_nil, or_false] at hp
  rcases hp with rfl
  · exact quant_rounded.j6001.fit)
theorem quant_rounded.eq (k : Nat) (x : (Bool × (Int × Int × Int × Int) × (Int × Int) × Int × Int)) : runF (quant_rounded.E k) (codeOf Try.f141) (quant_rounded.mk x) quant_rounded.re = (quant_rounded.D k).f x := by kernel_rfl
theorem quant_rounded.fit (s : St U) (x : (Bool × (Int × Int × Int × Int) × (Int × Int) × Int × Int)) (h : quant_rounded.un s = some x) : Fits s (quant_rounded.mk x) := by
  unfold quant_rounded.un at h
  split at h
  · cases h
    refine fits_ren [] ?_ ?_ ren_nil rfl
    · exact List.forall_mem_cons.2 ⟨FV.one (FV.same (by assumption) rfl), List.forall_mem_cons.2 ⟨FV.one (FV.same (by assumption) rfl), List.forall_mem_cons.2 ⟨FV.one (FV.same (by assumption) rfl), List.forall_mem_cons.2 ⟨FV.one (FV.same (by assumption) rfl), List.forall_mem_cons.2 ⟨FV.one (FV.same (by assumption) rfl), fun _ hp => (List.not_mem_nil hp).elim⟩⟩⟩⟩⟩
    · exact fun _ hp => (List.not_mem_nil hp).elim
  · cases h
theorem quant_rounded.fitR (s : St U) (y : (Sapi_Dec × Int)) (h : quant_rounded.re s = some y) : Fits s (quant_rounded.fin y) := by
  unfold quant_rounded.re at h
  split at h
  · cases h
    refine fits_ren [] ?_ ?_ ren_nil rfl
    · exact List.forall_mem_cons.2 ⟨FV.tup (by assumption) (FTs.cons (FVA.one (FV.same rfl rfl)) (FTs.cons (FVA.one (FV.same rfl rfl)) (FTs.nil))), fun _ hp => (List.not_mem_nil hp).elim⟩
    · exact fun _ hp => (List.not_mem_nil hp).elim
  · cases h
theorem quant_rounded.sound (k : Nat) : Sound Try.prog DD 141 (quant_rounded.D k) :=
  fun_sound (E := quant_rounded.E k) (fn := Try.f141) (c := codeOf Try.f141) (quant_rounded.ok k) mixed rfl Try.func141 (by kernel_rfl) (by kernel_rfl) (allL_of (l := []) (by kernel_rfl) allL_nil) (quant_rounded.D k) quant_rounded.mk quant_rounded.re (by kernel_rfl) (by kernel_rfl) quant_rounded.fit quant_rounded.fitR (quant_rounded.eq k)
/-! ### pyx/quant.Div: function 107 -/
noncomputable def quant_Div.f (k : Nat) (a0 : Sapi_Dec) (a1 : Sapi_Dec) (a2 : Int) (a3 : Int) : Option (Sapi_Dec × Int) := (quant_right.f k a2 a3 [(⟨a0.f_Neg, (a0.f_C.1, a0.f_C.2), a0.f_Scale⟩ : Sapi_Dec), (⟨a1.f_Neg, (a1.f_C.1, a1.f_C.2), a1.f_Scale⟩ : Sapi_Dec)]).bind fun t1 => (cond (!t1) (some ((⟨false, (0, 0), 0⟩ : Sapi_Dec), 1)) ((dec_Sign.f k (⟨a1.f_Neg, (a1.f_C.1, a1.f_C.2), a1.f_Scale⟩ : Sapi_Dec)).bind fun t2 => (cond (t2 == 0) (some ((⟨false, (0, 0), 0⟩ : Sapi_Dec), 4)) (cond (decide ((IntKind.wrap .i64 ((IntKind.wrap .i64 (a2 + a1.f_Scale)) - a0.f_Scale)) ≥ 0)) ((quant_ten.f k (IntKind.wrap .i64 ((IntKind.wrap .i64 (a2 + a1.f_Scale)) - a0.f_Scale))).bind fun t3 => ((limb_Mul.f k (a0.f_C.1, a0.f_C.2) (t3.1, t3.2)).bind fun t4 => ((quant_rounded.f k (!(a0.f_Neg == a1.f_Neg)) (t4.1, t4.2.1, t4.2.2.1, t4.2.2.2) (a1.f_C.1, a1.f_C.2) a2 a3).bind fun t5 => (some ((⟨t5.1.f_Neg, (t5.1.f_C.1, t5.1.f_C.2), t5.1.f_Scale⟩ : Sapi_Dec), t5.2))))) ((quant_ten.f k (IntKind.wrap .i64 (0 - (IntKind.wrap .i64 ((IntKind.wrap .i64 (a2 + a1.f_Scale)) - a0.f_Scale))))).bind fun t6 => ((limb_Mul.f k (a1.f_C.1, a1.f_C.2) (t6.1, t6.2)).bind fun t7 => ((limb_Short.f k (t7.1, t7.2.1, t7.2.2.1, t7.2.2.2)).bind fun t8 => (((cond (!t8.2) (some (a2, a3, !(a0.f_Neg == a1.f_Neg), a0.f_Neg, a0.f_C.1, a0.f_C.2, a0.f_Scale, false, 0, 0, 0, 18446744073709551615, 18446744073709551615)) (some (a2, a3, !(a0.f_Neg == a1.f_Neg), a0.f_Neg, a0.f_C.1, a0.f_C.2, a0.f_Scale, false, 0, 0, 0, t8.1.1, t8.1.2))) : Option (Int × Int × Bool × Bool × Int × Int × Int × Bool × Int × Int × Int × Int × Int)).bind fun y22 => ((limb_Wide.f k (y22.2.2.2.2.1, y22.2.2.2.2.2.1)).bind fun t23 => ((quant_rounded.f k y22.2.2.1 (t23.1, t23.2.1, t23.2.2.1, t23.2.2.2) (y22.2.2.2.2.2.2.2.2.2.2.2.1, y22.2.2.2.2.2.2.2.2.2.2.2.2) y22.1 y22.2.1).bind fun t24 => (some ((⟨t24.1.f_Neg, (t24.1.f_C.1, t24.1.f_C.2), t24.1.f_Scale⟩ : Sapi_Dec), t24.2))))))))))))
noncomputable def quant_Div.un (s : St U) : Option (Sapi_Dec × Sapi_Dec × Int × Int) := match s.get 0, s.get 1, s.get 2, s.get 3 with | .agg [.flat (.bool x1), .flat (.int .u64 x2), .flat (.int .u64 x3), .flat (.int .i64 x4)], .agg [.flat (.bool x5), .flat (.int .u64 x6), .flat (.int .u64 x7), .flat (.int .i64 x8)], .flat (.int .i64 x9), .flat (.int .i64 x10) => some ((⟨x1, (x2, x3), x4⟩ : Sapi_Dec), (⟨x5, (x6, x7), x8⟩ : Sapi_Dec), x9, x10) | _, _, _, _ => none
noncomputable def quant_Div.mk (x : (Sapi_Dec × Sapi_Dec × Int × Int)) : St U := ⟨[(0, .agg [.flat (.bool x.1.f_Neg), .flat (.int .u64 x.1.f_C.1), .flat (.int .u64 x.1.f_C.2), .flat (.int .i64 x.1.f_Scale)]), (1, .agg [.flat (.bool x.2.1.f_Neg), .flat (.int .u64 x.2.1.f_C.1), .flat (.int .u64 x.2.1.f_C.2), .flat (.int .i64 x.2.1.f_Scale)]), (2, .flat (.int .i64 x.2.2.1)), (3, .flat (.int .i64 x.2.2.2))], []⟩
noncomputable def quant_Div.fin (y : (Sapi_Dec × Int)) : St U := ⟨[(0, .tup [.agg [.flat (.bool y.1.f_Neg), .flat (.int .u64 y.1.f_C.1), .flat (.int .u64 y.1.f_C.2), .flat (.int .i64 y.1.f_Scale)], .flat (.int .i64 y.2)])], []⟩
noncomputable def quant_Div.D (k : Nat) : FDen U := { X := (Sapi_Dec × Sapi_Dec × Int × Int), Y := (Sapi_Dec × Int), nt := 78, gh := [], un := quant_Div.un, f := fun x => quant_Div.f k (x.1) (x.2.1) (x.2.2.1) (x.2.2.2), fin := quant_Div.fin, cl := true, clo := fun _ _ => rfl }
noncomputable def quant_Div.re (s : St U) : Option (Sapi_Dec × Int) := match s.get 0 with | .tup [.agg [.flat (.bool x1), .flat (.int .u64 x2), .flat (.int .u64 x3), .flat (.int .i64 x4)], .flat (.int .i64 x5)] => some ((⟨x1, (x2, x3), x4⟩ : Sapi_Dec), x5) | _ => none
noncomputable def quant_Div.j10001.fin (y : (Int × Int × Bool × Bool × Int × Int × Int × Bool × Int × Int × Int × Int × Int)) : Out U := match y with | (x9, x10, x19, x11, x12, x13, x14, x15, x16, x17, x18, x20, x21) => .norm ⟨[(4, .ptr 4 0), (8, .ptr 8 0), (12, .ptr 12 0), (2, .flat (.int .i64 x9)), (3, .flat (.int .i64 x10)), (10, .flat (.bool x19))], [(4, .lit [.flat (.bool x11), .flat (.int .u64 x12), .flat (.int .u64 x13), .flat (.int .i64 x14)]), (8, .lit [.flat (.bool x15), .flat (.int .u64 x16), .flat (.int .u64 x17), .flat (.int .i64 x18)]), (12, .lit [.flat (.int .u64 x20), .flat (.int .u64 x21)])]⟩
noncomputable def quant_Div.j10001.finK {ρ : Type} (y : (Int × Int × Bool × Bool × Int × Int × Int × Bool × Int × Int × Int × Int × Int)) (K : Out U → Option ρ) : Option ρ := match y with | (x9, x10, x19, x11, x12, x13, x14, x15, x16, x17, x18, x20, x21) => K (.norm ⟨[(4, .ptr 4 0), (8, .ptr 8 0), (12, .ptr 12 0), (2, .flat (.int .i64 x9)), (3, .flat (.int .i64 x10)), (10, .flat (.bool x19))], [(4, .lit [.flat (.bool x11), .flat (.int .u64 x12), .flat (.int .u64 x13), .flat (.int .i64 x14)]), (8, .lit [.flat (.bool x15), .flat (.int .u64 x16), .flat (.int .u64 x17), .flat (.int .i64 x18)]), (12, .lit [.flat (.int .u64 x20), .flat (.int .u64 x21)])]⟩)
theorem quant_Div.j10001.finK_eq {ρ : Type} (y : (Int × Int × Bool × Bool × Int × Int × Int × Bool × Int × Int × Int × Int × Int)) (K : Out U → Option ρ) : quant_Div.j10001.finK y K = K (quant_Div.j10001.fin y) := by
  unfold quant_Div.j10001.finK quant_Div.j10001.fin
  first | rfl | (split <;> rfl)
noncomputable def quant_Div.j10001.re : Out U → Option ((Int × Int × Bool × Bool × Int × Int × Int × Bool × Int × Int × Int × Int × Int)) | .norm s => (match s.get 4, s.get 8, s.get 12, s.get 2, s.get 3, s.get 10, lk s.o 4, lk s.o 8, lk s.o 12 with | .ptr 4 0, .ptr 8 0, .ptr 12 0, .flat (.int .i64 x9), .flat (.int .i64 x10), .flat (.bool x19), some (.lit [.flat (.bool x11), .flat (.int .u64 x12), .flat (.int .u64 x13), .flat (.int .i64 x14)]), some (.lit [.flat (.bool x15), .flat (.int .u64 x16), .flat (.int .u64 x17), .flat (.int .i64 x18)]), some (.lit [.flat (.int .u64 x20), .flat (.int .u64 x21)]) => some (x9, x10, x19, x11, x12, x13, x14, x15, x16, x17, x18, x20, x21) | _, _, _, _, _, _, _, _, _ => none) | _ => none
noncomputable def quant_Div.j10001.J : JDen U := { Y := (Int × Int × Bool × Bool × Int × Int × Int × Bool × Int × Int × Int × Int × Int), re := quant_Div.j10001.re, fin := quant_Div.j10001.fin, finK := quant_Div.j10001.finK, finK_eq := quant_Div.j10001.finK_eq }
theorem quant_Div.j10001.fit (o : Out U) (y : (Int × Int × Bool × Bool × Int × Int × Int × Bool × Int × Int × Int × Int × Int)) (h : quant_Div.j10001.re o = some y) : FitsO o (quant_Div.j10001.fin y) := by
  unfold quant_Div.j10001.re at h
  split at h
  · split at h
    · cases h
      refine fitsO_norm (fits_ren [] ?_ ?_ ren_nil rfl)
      · exact List.forall_mem_cons.2 ⟨FV.one (FV.ptr (by assumption)), List.forall_mem_cons.2 ⟨FV.one (FV.ptr (by assumption)), List.forall_mem_cons.2 ⟨FV.one (FV.ptr (by assumption)), List.forall_mem_cons.2 ⟨FV.one (FV.same (by assumption) rfl), List.forall_mem_cons.2 ⟨FV.one (FV.same (by assumption) rfl), List.forall_mem_cons.2 ⟨FV.one (FV.same (by assumption) rfl), fun _ hp => (List.not_mem_nil hp).elim⟩⟩⟩⟩⟩⟩
      · exact List.forall_mem_cons.2 ⟨(FO.same (show lk (St.o _) 4 = some _ from by assumption) rfl), List.forall_mem_cons.2 ⟨(FO.same (show lk (St.o _) 8 = some _ from by assumption) rfl), List.forall_mem_cons.2 ⟨(FO.same (show lk (St.o _) 12 = some _ from by assumption) rfl), fun _ hp => (List.not_mem_nil hp).elim⟩⟩⟩
    · cases h
  · cases h
noncomputable def quant_Div.jl : List (Nat × JDen U) := [(10001, quant_Div.j10001.J)]
noncomputable def quant_Div.fl (k : Nat) : List (Nat × FDen U) := [(140, quant_right.D k), (37, dec_Sign.D k), (142, quant_ten.D k), (109, limb_Mul.D k), (141, quant_rounded.D k), (125, limb_Short.D k), (143, limb_Wide.D k)]
noncomputable def quant_Div.ll (k : Nat) : List (Nat × LDen U) := []
noncomputable def quant_Div.E (k : Nat) : Env U := { P := Try.prog, D := DD, fd := lk (quant_Div.fl k), ld := lk (quant_Div.ll k), jd := lk quant_Div.jl, mode := lk [], elc := lk ec, mpc := lk mc, rts := Try.f107.resultTypes.toList, dyn := fun t => false, vecs := fun d => false, results := Try.f107.results.toList, gh := [], own := false, io := fun g i => false }
theorem quant_Div.ok (k : Nat) : EnvOk (quant_Div.E k) := envOk lawful (quant_Div.fl k) (quant_Div.ll k) quant_Div.jl _ _ _ _ _ _ _ _ _ _ (by
  intro p hp
  simp only [quant_Div.fl, List.mem_cons, List.not_mem_nil, or_false] at hp
  rcases hp with rfl | rfl | rfl | rfl | rfl | rfl | rfl
  · exact ⟨quant_right.sound k, enter_of Try.func140 (by kernel_rfl) (by kernel_rfl)⟩
  · exact ⟨dec_Sign.sound k, enter_of Try.func37 (by kernel_rfl) (by kernel_rfl)⟩
  · exact ⟨quant_ten.sound k, enter_of Try.func142 (by kernel_rfl) (by kernel_rfl)⟩
  · exact ⟨limb_Mul.sound k, enter_of Try.func109 (by kernel_rfl) (by kernel_rfl)⟩
  · exact ⟨quant_rounded.sound k, enter_of Try.func141 (by kernel_rfl) (by kernel_rfl)⟩
  · exact ⟨limb_Short.sound k, enter_of Try.func125 (by kernel_rfl) (by kernel_rfl)⟩
  · exact ⟨limb_Wide.sound k, enter_of Try.func143 (by kernel_rfl) (by kernel_rfl)⟩) (by
  intro p hp
  simp only [quant_Div.jl, List.mem_cons, List.not_mem_nil, or_false] at hp
  rcases hp with rfl
  · exact quant_Div.j10001.fit)
theorem quant_Div.eq (k : Nat) (x : (Sapi_Dec × Sapi_Dec × Int × Int)) : runF (quant_Div.E k) (codeOf Try.f107) (quant_Div.mk x) quant_Div.re = (quant_Div.D k).f x := by kernel_rfl
theorem quant_Div.fit (s : St U) (x : (Sapi_Dec × Sapi_Dec × Int × Int)) (h : quant_Div.un s = some x) : Fits s (quant_Div.mk x) := by
  unfold quant_Div.un at h
  split at h
  · cases h
    refine fits_ren [] ?_ ?_ ren_nil rfl
    · exact List.forall_mem_cons.2 ⟨FV.one (FV.same (by assumption) rfl), List.forall_mem_cons.2 ⟨FV.one (FV.same (by assumption) rfl), List.forall_mem_cons.2 ⟨FV.one (FV.same (by assumption) rfl), List.forall_mem_cons.2 ⟨FV.one (FV.same (by assumption) rfl), fun _ hp => (List.not_mem_nil hp).elim⟩⟩⟩⟩
    · exact fun _ hp => (List.not_mem_nil hp).elim
  · cases h
theorem quant_Div.fitR (s : St U) (y : (Sapi_Dec × Int)) (h : quant_Div.re s = some y) : Fits s (quant_Div.fin y) := by
  unfold quant_Div.re at h
  split at h
  · cases h
    refine fits_ren [] ?_ ?_ ren_nil rfl
    · exact List.forall_mem_cons.2 ⟨FV.tup (by assumption) (FTs.cons (FVA.one (FV.same rfl rfl)) (FTs.cons (FVA.one (FV.same rfl rfl)) (FTs.nil))), fun _ hp => (List.not_mem_nil hp).elim⟩
    · exact fun _ hp => (List.not_mem_nil hp).elim
  · cases h
theorem quant_Div.sound (k : Nat) : Sound Try.prog DD 107 (quant_Div.D k) :=
  fun_sound (E := quant_Div.E k) (fn := Try.f107) (c := codeOf Try.f107) (quant_Div.ok k) mixed rfl Try.func107 (by kernel_rfl) (by kernel_rfl) (allL_of (l := []) (by kernel_rfl) allL_nil) (quant_Div.D k) quant_Div.mk quant_Div.re (by kernel_rfl) (by kernel_rfl) quant_Div.fit quant_Div.fitR (quant_Div.eq k)
/-! ### pyx/quant.Unit: function 61 -/
noncomputable def quant_Unit.f (k : Nat) (a0 : Sapi_Dec) (a1 : Sapi_Dec) (a2 : Int) : Option (Sapi_Dec × Int) := (dec_Sign.f k (⟨a1.f_Neg, (a1.f_C.1, a1.f_C.2), a1.f_Scale⟩ : Sapi_Dec)).bind fun t1 => (cond (decide (t1 ≤ 0)) (some ((⟨false, (0, 0), 0⟩ : Sapi_Dec), 1)) ((quant_Div.f k (⟨a0.f_Neg, (a0.f_C.1, a0.f_C.2), a0.f_Scale⟩ : Sapi_Dec) (⟨a1.f_Neg, (a1.f_C.1, a1.f_C.2), a1.f_Scale⟩ : Sapi_Dec) 0 a2).bind fun t2 => (cond (t2.2 != 0) (some ((⟨false, (0, 0), 0⟩ : Sapi_Dec), t2.2)) ((limb_Mul.f k (t2.1.f_C.1, t2.1.f_C.2) (a1.f_C.1, a1.f_C.2)).bind fun t3 => ((quant_made.f k a0.f_Neg (t3.1, t3.2.1, t3.2.2.1, t3.2.2.2) a1.f_Scale).bind fun t4 => (some ((⟨t4.1.f_Neg, (t4.1.f_C.1, t4.1.f_C.2), t4.1.f_Scale⟩ : Sapi_Dec), t4.2)))))))
noncomputable def quant_Unit.un (s : St U) : Option (Sapi_Dec × Sapi_Dec × Int) := match s.get 0, s.get 1, s.get 2 with | .agg [.flat (.bool x1), .flat (.int .u64 x2), .flat (.int .u64 x3), .flat (.int .i64 x4)], .agg [.flat (.bool x5), .flat (.int .u64 x6), .flat (.int .u64 x7), .flat (.int .i64 x8)], .flat (.int .i64 x9) => some ((⟨x1, (x2, x3), x4⟩ : Sapi_Dec), (⟨x5, (x6, x7), x8⟩ : Sapi_Dec), x9) | _, _, _ => none
noncomputable def quant_Unit.mk (x : (Sapi_Dec × Sapi_Dec × Int)) : St U := ⟨[(0, .agg [.flat (.bool x.1.f_Neg), .flat (.int .u64 x.1.f_C.1), .flat (.int .u64 x.1.f_C.2), .flat (.int .i64 x.1.f_Scale)]), (1, .agg [.flat (.bool x.2.1.f_Neg), .flat (.int .u64 x.2.1.f_C.1), .flat (.int .u64 x.2.1.f_C.2), .flat (.int .i64 x.2.1.f_Scale)]), (2, .flat (.int .i64 x.2.2))], []⟩
noncomputable def quant_Unit.fin (y : (Sapi_Dec × Int)) : St U := ⟨[(0, .tup [.agg [.flat (.bool y.1.f_Neg), .flat (.int .u64 y.1.f_C.1), .flat (.int .u64 y.1.f_C.2), .flat (.int .i64 y.1.f_Scale)], .flat (.int .i64 y.2)])], []⟩
noncomputable def quant_Unit.D (k : Nat) : FDen U := { X := (Sapi_Dec × Sapi_Dec × Int), Y := (Sapi_Dec × Int), nt := 37, gh := [], un := quant_Unit.un, f := fun x => quant_Unit.f k (x.1) (x.2.1) (x.2.2), fin := quant_Unit.fin, cl := true, clo := fun _ _ => rfl }
noncomputable def quant_Unit.re (s : St U) : Option (Sapi_Dec × Int) := match s.get 0 with | .tup [.agg [.flat (.bool x1), .flat (.int .u64 x2), .flat (.int .u64 x3), .flat (.int .i64 x4)], .flat (.int .i64 x5)] => some ((⟨x1, (x2, x3), x4⟩ : Sapi_Dec), x5) | _ => none
noncomputable def quant_Unit.jl : List (Nat × JDen U) := []
noncomputable def quant_Unit.fl (k : Nat) : List (Nat × FDen U) := [(37, dec_Sign.D k), (107, quant_Div.D k), (109, limb_Mul.D k), (108, quant_made.D k)]
noncomputable def quant_Unit.ll (k : Nat) : List (Nat × LDen U) := []
noncomputable def quant_Unit.E (k : Nat) : Env U := { P := Try.prog, D := DD, fd := lk (quant_Unit.fl k), ld := lk (quant_Unit.ll k), jd := lk quant_Unit.jl, mode := lk [], elc := lk ec, mpc := lk mc, rts := Try.f61.resultTypes.toList, dyn := fun t => false, vecs := fun d => false, results := Try.f61.results.toList, gh := [], own := false, io := fun g i => false }
theorem quant_Unit.ok (k : Nat) : EnvOk (quant_Unit.E k) := envOk lawful (quant_Unit.fl k) (quant_Unit.ll k) quant_Unit.jl _ _ _ _ _ _ _ _ _ _ (by
  intro p hp
  simp only [quant_Unit.fl, List.mem_cons, List.not_mem_nil, or_false] at hp
  rcases hp with rfl | rfl | rfl | rfl
  · exact ⟨dec_Sign.sound k, enter_of Try.func37 (by kernel_rfl) (by kernel_rfl)⟩
  · exact ⟨quant_Div.sound k, enter_of Try.func107 (by kernel_rfl) (by kernel_rfl)⟩
  · exact ⟨limb_Mul.sound k, enter_of Try.func109 (by kernel_rfl) (by kernel_rfl)⟩
  · exact ⟨quant_made.sound k, enter_of Try.func108 (by kernel_rfl) (by kernel_rfl)⟩) (by
  intro p hp
  simp [quant_Unit.jl] at hp)
theorem quant_Unit.eq (k : Nat) (x : (Sapi_Dec × Sapi_Dec × Int)) : runF (quant_Unit.E k) (codeOf Try.f61) (quant_Unit.mk x) quant_Unit.re = (quant_Unit.D k).f x := by kernel_rfl
theorem quant_Unit.fit (s : St U) (x : (Sapi_Dec × Sapi_Dec × Int)) (h : quant_Unit.un s = some x) : Fits s (quant_Unit.mk x) := by
  unfold quant_Unit.un at h
  split at h
  · cases h
    refine fits_ren [] ?_ ?_ ren_nil rfl
    · exact List.forall_mem_cons.2 ⟨FV.one (FV.same (by assumption) rfl), List.forall_mem_cons.2 ⟨FV.one (FV.same (by assumption) rfl), List.forall_mem_cons.2 ⟨FV.one (FV.same (by assumption) rfl), fun _ hp => (List.not_mem_nil hp).elim⟩⟩⟩
    · exact fun _ hp => (List.not_mem_nil hp).elim
  · cases h
theorem quant_Unit.fitR (s : St U) (y : (Sapi_Dec × Int)) (h : quant_Unit.re s = some y) : Fits s (quant_Unit.fin y) := by
  unfold quant_Unit.re at h
  split at h
  · cases h
    refine fits_ren [] ?_ ?_ ren_nil rfl
    · exact List.forall_mem_cons.2 ⟨FV.tup (by assumption) (FTs.cons (FVA.one (FV.same rfl rfl)) (FTs.cons (FVA.one (FV.same rfl rfl)) (FTs.nil))), fun _ hp => (List.not_mem_nil hp).elim⟩
    · exact fun _ hp => (List.not_mem_nil hp).elim
  · cases h
theorem quant_Unit.sound (k : Nat) : Sound Try.prog DD 61 (quant_Unit.D k) :=
  fun_sound (E := quant_Unit.E k) (fn := Try.f61) (c := codeOf Try.f61) (quant_Unit.ok k) mixed rfl Try.func61 (by kernel_rfl) (by kernel_rfl) (allL_of (l := []) (by kernel_rfl) allL_nil) (quant_Unit.D k) quant_Unit.mk quant_Unit.re (by kernel_rfl) (by kernel_rfl) quant_Unit.fit quant_Unit.fitR (quant_Unit.eq k)
/-! ### (*pyx/gate.Gate).Release: function 18 -/
noncomputable def gate_Gate_Release.f (k : Nat) (a0 : Sgate_Gate) (a1 : Sapi_Rule) (a2 : Int) (a3 : Sgate_Key) (a4 : Sapi_Dec) : Option (Sapi_Dec × Bool × Int × Sgate_Gate) := ((cond (a1.f_Tag != 3) (some (a2, true, a0.f_l, a0.f_at, (⟨a1.f_Tag, a1.f_Role, a1.f_Verb, a1.f_Ent, a1.f_Group, a1.f_Line, (⟨a1.f_Unit.f_Neg, (a1.f_Unit.f_C.1, a1.f_Unit.f_C.2), a1.f_Unit.f_Scale⟩ : Sapi_Dec), (⟨a1.f_To.f_Set, a1.f_To.f_Level⟩ : Sapi_Label)⟩ : Sapi_Rule), a3.f_Group, a3.f_Line, a3.f_Period, a3.f_Version, a4.f_Neg, a4.f_C.1, a4.f_C.2, a4.f_Scale, false, 0, 0, 0)) (cond (a1.f_Group != a3.f_Group) (some (a2, true, a0.f_l, a0.f_at, (⟨a1.f_Tag, a1.f_Role, a1.f_Verb, a1.f_Ent, a1.f_Group, a1.f_Line, (⟨a1.f_Unit.f_Neg, (a1.f_Unit.f_C.1, a1.f_Unit.f_C.2), a1.f_Unit.f_Scale⟩ : Sapi_Dec), (⟨a1.f_To.f_Set, a1.f_To.f_Level⟩ : Sapi_Label)⟩ : Sapi_Rule), a3.f_Group, a3.f_Line, a3.f_Period, a3.f_Version, a4.f_Neg, a4.f_C.1, a4.f_C.2, a4.f_Scale, false, 0, 0, 0)) (some (a2, a1.f_Line != a3.f_Line, a0.f_l, a0.f_at, (⟨a1.f_Tag, a1.f_Role, a1.f_Verb, a1.f_Ent, a1.f_Group, a1.f_Line, (⟨a1.f_Unit.f_Neg, (a1.f_Unit.f_C.1, a1.f_Unit.f_C.2), a1.f_Unit.f_Scale⟩ : Sapi_Dec), (⟨a1.f_To.f_Set, a1.f_To.f_Level⟩ : Sapi_Label)⟩ : Sapi_Rule), a3.f_Group, a3.f_Line, a3.f_Period, a3.f_Version, a4.f_Neg, a4.f_C.1, a4.f_C.2, a4.f_Scale, false, 0, 0, 0)))) : Option (Int × Bool × List Sgate_Out × List (Sgate_Key × Int) × Sapi_Rule × Int × Int × Int × Int × Bool × Int × Int × Int × Bool × Int × Int × Int)).bind fun y18 => (cond (y18.2.1) (some ((⟨false, (0, 0), 0⟩ : Sapi_Dec), false, 1, (⟨y18.2.2.1, y18.2.2.2.1⟩ : Sgate_Gate))) ((some (mget (keq_Sgate_Key (⟨y18.2.2.2.2.2.1, y18.2.2.2.2.2.2.1, y18.2.2.2.2.2.2.2.1, y18.2.2.2.2.2.2.2.2.1⟩ : Sgate_Key)) y18.2.2.2.1)).bind fun t19 => (cond (Option.isSome t19) (cond (inb (Option.getD t19 0) (List.length y18.2.2.1)) (some ((⟨((List.getD y18.2.2.1 (Int.toNat (Option.getD t19 0)) Sgate_Out.zero).f_Value).f_Neg, ((((List.getD y18.2.2.1 (Int.toNat (Option.getD t19 0)) Sgate_Out.zero).f_Value).f_C).1, (((List.getD y18.2.2.1 (Int.toNat (Option.getD t19 0)) Sgate_Out.zero).f_Value).f_C).2), ((List.getD y18.2.2.1 (Int.toNat (Option.getD t19 0)) Sgate_Out.zero).f_Value).f_Scale⟩ : Sapi_Dec), false, 0, (⟨y18.2.2.1, y18.2.2.2.1⟩ : Sgate_Gate))) none) ((quant_Unit.f k (⟨y18.2.2.2.2.2.2.2.2.2.1, (y18.2.2.2.2.2.2.2.2.2.2.1, y18.2.2.2.2.2.2.2.2.2.2.2.1), y18.2.2.2.2.2.2.2.2.2.2.2.2.1⟩ : Sapi_Dec) (⟨y18.2.2.2.2.1.f_Unit.f_Neg, (y18.2.2.2.2.1.f_Unit.f_C.1, y18.2.2.2.2.1.f_Unit.f_C.2), y18.2.2.2.2.1.f_Unit.f_Scale⟩ : Sapi_Dec) 4).bind fun t20 => (cond (t20.2 != 0) (some ((⟨false, (0, 0), 0⟩ : Sapi_Dec), false, t20.2, (⟨y18.2.2.1, y18.2.2.2.1⟩ : Sgate_Gate))) (cond (okLen (List.length y18.2.2.1 + List.length [(⟨(⟨y18.2.2.2.2.2.1, y18.2.2.2.2.2.2.1, y18.2.2.2.2.2.2.2.1, y18.2.2.2.2.2.2.2.2.1⟩ : Sgate_Key), y18.1, (⟨t20.1.f_Neg, (t20.1.f_C.1, t20.1.f_C.2), t20.1.f_Scale⟩ : Sapi_Dec), (⟨y18.2.2.2.2.1.f_To.f_Set, y18.2.2.2.2.1.f_To.f_Level⟩ : Sapi_Label)⟩ : Sgate_Out)]) 88) (some ((⟨t20.1.f_Neg, (t20.1.f_C.1, t20.1.f_C.2), t20.1.f_Scale⟩ : Sapi_Dec), true, 0, (⟨y18.2.2.1 ++ [(⟨(⟨y18.2.2.2.2.2.1, y18.2.2.2.2.2.2.1, y18.2.2.2.2.2.2.2.1, y18.2.2.2.2.2.2.2.2.1⟩ : Sgate_Key), y18.1, (⟨t20.1.f_Neg, (t20.1.f_C.1, t20.1.f_C.2), t20.1.f_Scale⟩ : Sapi_Dec), (⟨y18.2.2.2.2.1.f_To.f_Set, y18.2.2.2.2.1.f_To.f_Level⟩ : Sapi_Label)⟩ : Sgate_Out)], mput (keq_Sgate_Key (⟨y18.2.2.2.2.2.1, y18.2.2.2.2.2.2.1, y18.2.2.2.2.2.2.2.1, y18.2.2.2.2.2.2.2.2.1⟩ : Sgate_Key)) (⟨y18.2.2.2.2.2.1, y18.2.2.2.2.2.2.1, y18.2.2.2.2.2.2.2.1, y18.2.2.2.2.2.2.2.2.1⟩ : Sgate_Key) (List.length y18.2.2.1 : Int) y18.2.2.2.1⟩ : Sgate_Gate))) none))))))
noncomputable def gate_Gate_Release.un (s : St U) : Option (Sgate_Gate × Sapi_Rule × Int × Sgate_Key × Sapi_Dec) := match s.get 0, lk s.o 7000000000000, s.get 1, s.get 2, s.get 3, s.get 4, s.get 1000000000000000 with | .ptr 7000000000000 0, some (.lit [x3, x4]), .agg x5, .flat (.int .i64 x7), .agg [.flat (.int .i64 x8), .flat (.int .i64 x9), .flat (.int .i64 x10), .flat (.int .i64 x11)], .agg [.flat (.bool x12), .flat (.int .u64 x13), .flat (.int .u64 x14), .flat (.int .i64 x15)], .ptr 7000000000000 0 => (tip_Sgate_Out s.o 11 x3).bind fun ex1 => ((map_Sgate_Key_i64_t s.o x4).bind fun ex2 => ((cd_Sapi_Rule.full x5).bind fun x6 => (cond (apart [ex1.1, ex2.1]) (some ((⟨ex1.2, ex2.2⟩ : Sgate_Gate), x6, x7, (⟨x8, x9, x10, x11⟩ : Sgate_Key), (⟨x12, (x13, x14), x15⟩ : Sapi_Dec))) none))) | _, _, _, _, _, _, _ => none
noncomputable def gate_Gate_Release.mk (x : (Sgate_Gate × Sapi_Rule × Int × Sgate_Key × Sapi_Dec)) : St U := ⟨[(0, .ptr 7000000000000 0), (1, .agg (cd_Sapi_Rule.enc x.2.1)), (2, .flat (.int .i64 x.2.2.1)), (3, .agg [.flat (.int .i64 x.2.2.2.1.f_Group), .flat (.int .i64 x.2.2.2.1.f_Line), .flat (.int .i64 x.2.2.2.1.f_Period), .flat (.int .i64 x.2.2.2.1.f_Version)]), (4, .agg [.flat (.bool x.2.2.2.2.f_Neg), .flat (.int .u64 x.2.2.2.2.f_C.1), .flat (.int .u64 x.2.2.2.2.f_C.2), .flat (.int .i64 x.2.2.2.2.f_Scale)]), (1000000000000000, .ptr 7000000000000 0)], [(7000000000000, .lit [.tip 7000000000001 C.Sgate_Out x.1.f_l, .mp 7000000000002]), (7000000000001, .tip 11), (7000000000002, .map true true false C.Sgate_Key C.i64 x.1.f_at)]⟩
noncomputable def gate_Gate_Release.fin (y : (Sapi_Dec × Bool × Int × Sgate_Gate)) : St U := ⟨[(0, .tup [.agg [.flat (.bool y.1.f_Neg), .flat (.int .u64 y.1.f_C.1), .flat (.int .u64 y.1.f_C.2), .flat (.int .i64 y.1.f_Scale)], .flat (.bool y.2.1), .flat (.int .i64 y.2.2.1)]), (1000000000000000, .ptr 7000000000000 0)], [(7000000000000, .lit [.tip 7000000000001 C.Sgate_Out y.2.2.2.f_l, .mp 7000000000002]), (7000000000001, .tip 11), (7000000000002, .map true true false C.Sgate_Key C.i64 y.2.2.2.f_at)]⟩
noncomputable def gate_Gate_Release.D (k : Nat) : FDen U := { X := (Sgate_Gate × Sapi_Rule × Int × Sgate_Key × Sapi_Dec), Y := (Sapi_Dec × Bool × Int × Sgate_Gate), nt := 94, gh := [0], un := gate_Gate_Release.un, f := fun x => gate_Gate_Release.f k (x.1) (x.2.1) (x.2.2.1) (x.2.2.2.1) (x.2.2.2.2), fin := gate_Gate_Release.fin, cl := false, clo := fun h => by cases h }
noncomputable def gate_Gate_Release.re (s : St U) : Option (Sapi_Dec × Bool × Int × Sgate_Gate) := match s.get 0, s.get 1000000000000000, lk s.o 7000000000000 with | .tup [.agg [.flat (.bool x1), .flat (.int .u64 x2), .flat (.int .u64 x3), .flat (.int .i64 x4)], .flat (.bool x5), .flat (.int .i64 x6)], .ptr 7000000000000 0, some (.lit [x9, x10]) => (tip_Sgate_Out s.o 11 x9).bind fun ex7 => ((map_Sgate_Key_i64_t s.o x10).bind fun ex8 => (cond (apart [ex7.1, ex8.1]) (some ((⟨x1, (x2, x3), x4⟩ : Sapi_Dec), x5, x6, (⟨ex7.2, ex8.2⟩ : Sgate_Gate))) none)) | _, _, _ => none
noncomputable def gate_Gate_Release.j1000.fin (y : (Int × Bool × List Sgate_Out × List (Sgate_Key × Int) × Sapi_Rule × Int × Int × Int × Int × Bool × Int × Int × Int × Bool × Int × Int × Int)) : Out U := match y with | (x3, x17, x1, x2, x4, x5, x6, x7, x8, x9, x10, x11, x12, x13, x14, x15, x16) => .norm ⟨[(0, .ptr 7000000000000 0), (6, .ptr 6 0), (8, .ptr 8 0), (9, .ptr 9 0), (10, .ptr 10 0), (1000000000000000, .ptr 7000000000000 0), (2, .flat (.int .i64 x3)), (37, .flat (.bool x17))], [(7000000000000, .lit [.tip 700102100000000 C.Sgate_Out x1, .mp 700102100000001]), (700102100000000, .tip 11), (700102100000001, .map true true false C.Sgate_Key C.i64 x2), (6, .lit (cd_Sapi_Rule.enc x4)), (8, .lit [.flat (.int .i64 x5), .flat (.int .i64 x6), .flat (.int .i64 x7), .flat (.int .i64 x8)]), (9, .lit [.flat (.bool x9), .flat (.int .u64 x10), .flat (.int .u64 x11), .flat (.int .i64 x12)]), (10, .lit [.flat (.bool x13), .flat (.int .u64 x14), .flat (.int .u64 x15), .flat (.int .i64 x16)])]⟩
noncomputable def gate_Gate_Release.j1000.finK {ρ : Type} (y : (Int × Bool × List Sgate_Out × List (Sgate_Key × Int) × Sapi_Rule × Int × Int × Int × Int × Bool × Int × Int × Int × Bool × Int × Int × Int)) (K : Out U → Option ρ) : Option ρ := match y with | (x3, x17, x1, x2, x4, x5, x6, x7, x8, x9, x10, x11, x12, x13, x14, x15, x16) => K (.norm ⟨[(0, .ptr 7000000000000 0), (6, .ptr 6 0), (8, .ptr 8 0), (9, .ptr 9 0), (10, .ptr 10 0), (1000000000000000, .ptr 7000000000000 0), (2, .flat (.int .i64 x3)), (37, .flat (.bool x17))], [(7000000000000, .lit [.tip 700102100000000 C.Sgate_Out x1, .mp 700102100000001]), (700102100000000, .tip 11), (700102100000001, .map true true false C.Sgate_Key C.i64 x2), (6, .lit (cd_Sapi_Rule.enc x4)), (8, .lit [.flat (.int .i64 x5), .flat (.int .i64 x6), .flat (.int .i64 x7), .flat (.int .i64 x8)]), (9, .lit [.flat (.bool x9), .flat (.int .u64 x10), .flat (.int .u64 x11), .flat (.int .i64 x12)]), (10, .lit [.flat (.bool x13), .flat (.int .u64 x14), .flat (.int .u64 x15), .flat (.int .i64 x16)])]⟩)
theorem gate_Gate_Release.j1000.finK_eq {ρ : Type} (y : (Int × Bool × List Sgate_Out × List (Sgate_Key × Int) × Sapi_Rule × Int × Int × Int × Int × Bool × Int × Int × Int × Bool × Int × Int × Int)) (K : Out U → Option ρ) : gate_Gate_Release.j1000.finK y K = K (gate_Gate_Release.j1000.fin y) := by
  unfold gate_Gate_Release.j1000.finK gate_Gate_Release.j1000.fin
  first | rfl | (split <;> rfl)
noncomputable def gate_Gate_Release.j1000.re : Out U → Option ((Int × Bool × List Sgate_Out × List (Sgate_Key × Int) × Sapi_Rule × Int × Int × Int × Int × Bool × Int × Int × Int × Bool × Int × Int × Int)) | .norm s => ((Cd.ofLit cd_Sapi_Rule s.o 6).bind fun q0 => (match s.get 0, s.get 6, s.get 8, s.get 9, s.get 10, s.get 1000000000000000, s.get 2, s.get 37, lk s.o 7000000000000, lk s.o 8, lk s.o 9, lk s.o 10 with | .ptr 7000000000000 0, .ptr 6 0, .ptr 8 0, .ptr 9 0, .ptr 10 0, .ptr 7000000000000 0, .flat (.int .i64 x3), .flat (.bool x17), some (.lit [u7000000000000_0, u7000000000000_1]), some (.lit [.flat (.int .i64 x5), .flat (.int .i64 x6), .flat (.int .i64 x7), .flat (.int .i64 x8)]), some (.lit [.flat (.bool x9), .flat (.int .u64 x10), .flat (.int .u64 x11), .flat (.int .i64 x12)]), some (.lit [.flat (.bool x13), .flat (.int .u64 x14), .flat (.int .u64 x15), .flat (.int .i64 x16)]) => (tip_Sgate_Out s.o 11 u7000000000000_0).bind fun w7000000000000_0 => ((map_Sgate_Key_i64_t s.o u7000000000000_1).bind fun w7000000000000_1 => (cond (apart [w7000000000000_0.1, w7000000000000_1.1]) (some (x3, x17, w7000000000000_0.2, w7000000000000_1.2, q0, x5, x6, x7, x8, x9, x10, x11, x12, x13, x14, x15, x16)) none)) | _, _, _, _, _, _, _, _, _, _, _, _ => none)) | _ => none
noncomputable def gate_Gate_Release.j1000.J : JDen U := { Y := (Int × Bool × List Sgate_Out × List (Sgate_Key × Int) × Sapi_Rule × Int × Int × Int × Int × Bool × Int × Int × Int × Bool × Int × Int × Int), re := gate_Gate_Release.j1000.re, fin := gate_Gate_Release.j1000.fin, finK := gate_Gate_Release.j1000.finK, finK_eq := gate_Gate_Release.j1000.finK_eq }
theorem gate_Gate_Release.j1000.fit (o : Out U) (y : (Int × Bool × List Sgate_Out × List (Sgate_Key × Int) × Sapi_Rule × Int × Int × Int × Int × Bool × Int × Int × Int × Bool × Int × Int × Int)) (h : gate_Gate_Release.j1000.re o = some y) : FitsO o (gate_Gate_Release.j1000.fin y) := by
  unfold gate_Gate_Release.j1000.re at h
  split at h
  · obtain ⟨q0, eq0, h1⟩ := Option.bind_eq_some_iff.1 h
    split at h1
    · obtain ⟨w7000000000000_0, ew7000000000000_0, h2⟩ := Option.bind_eq_some_iff.1 h1
      obtain ⟨w7000000000000_1, ew7000000000000_1, h3⟩ := Option.bind_eq_some_iff.1 h2
      obtain ⟨hap, h4⟩ := cond_none h3
      cases h4
      refine fitsO_norm (fits_ren [(700102100000000, w7000000000000_0.1), (700102100000001, w7000000000000_1.1)] ?_ ?_ (ren_apart hap) rfl)
      · exact List.forall_mem_cons.2 ⟨FV.one (FV.ptr (by assumption)), List.forall_mem_cons.2 ⟨FV.one (FV.ptr (by assumption)), List.forall_mem_cons.2 ⟨FV.one (FV.ptr (by assumption)), List.forall_mem_cons.2 ⟨FV.one (FV.ptr (by assumption)), List.forall_mem_cons.2 ⟨FV.one (FV.ptr (by assumption)), List.forall_mem_cons.2 ⟨FV.one (FV.ptr (by assumption)), List.forall_mem_cons.2 ⟨FV.one (FV.same (by assumption) rfl), List.forall_mem_cons.2 ⟨FV.one (FV.same (by assumption) rfl), fun _ hp => (List.not_mem_nil hp).elim⟩⟩⟩⟩⟩⟩⟩⟩
      · exact List.forall_mem_cons.2 ⟨(FO.cells (show lk (St.o _) 7000000000000 = some _ from by assumption) (FCs.cons ((tip_Sgate_Out_fit ew7000000000000_0 rfl).1) (FCs.cons ((map_Sgate_Key_i64_t_fit ew7000000000000_1 rfl).1) (FCs.nil)))), List.forall_mem_cons.2 ⟨(tip_Sgate_Out_fit ew7000000000000_0 rfl).2, List.forall_mem_cons.2 ⟨(map_Sgate_Key_i64_t_fit ew7000000000000_1 rfl).2, List.forall_mem_cons.2 ⟨(FO.same (Cd.ofLit_ok eq0) rfl), List.forall_mem_cons.2 ⟨(FO.same (show lk (St.o _) 8 = some _ from by assumption) rfl), List.forall_mem_cons.2 ⟨(FO.same (show lk (St.o _) 9 = some _ from by assumption) rfl), List.forall_mem_cons.2 ⟨(FO.same (show lk (St.o _) 10 = some _ from by assumption) rfl), fun _ hp => (List.not_mem_nil hp).elim⟩⟩⟩⟩⟩⟩⟩
    · cases h1
  · cases h
noncomputable def gate_Gate_Release.jl : List (Nat × JDen U) := [(1000, gate_Gate_Release.j1000.J)]
noncomputable def gate_Gate_Release.fl (k : Nat) : List (Nat × FDen U) := [(61, quant_Unit.D k)]
noncomputable def gate_Gate_Release.ll (k : Nat) : List (Nat × LDen U) := []
noncomputable def gate_Gate_Release.E (k : Nat) : Env U := { P := Try.prog, D := DD, fd := lk (gate_Gate_Release.fl k), ld := lk (gate_Gate_Release.ll k), jd := lk gate_Gate_Release.jl, mode := lk [], elc := lk ec, mpc := lk mc, rts := Try.f18.resultTypes.toList, dyn := fun t => false, vecs := fun d => false, results := Try.f18.results.toList, gh := [0], own := false, io := fun g i => false }
theorem gate_Gate_Release.ok (k : Nat) : EnvOk (gate_Gate_Release.E k) := envOk lawful (gate_Gate_Release.fl k) (gate_Gate_Release.ll k) gate_Gate_Release.jl _ _ _ _ _ _ _ _ _ _ (by
  intro p hp
  simp only [gate_Gate_Release.fl, List.mem_cons, List.not_mem_nil, or_false] at hp
  rcases hp with rfl
  · exact ⟨quant_Unit.sound k, enter_of Try.func61 (by kernel_rfl) (by kernel_rfl)⟩) (by
  intro p hp
  simp only [gate_Gate_Release.jl, List.mem_cons, List.not_mem_nil, or_false] at hp
  rcases hp with rfl
  · exact gate_Gate_Release.j1000.fit)
theorem gate_Gate_Release.eq (k : Nat) (x : (Sgate_Gate × Sapi_Rule × Int × Sgate_Key × Sapi_Dec)) : runF (gate_Gate_Release.E k) (codeOf Try.f18) (gate_Gate_Release.mk x) gate_Gate_Release.re = (gate_Gate_Release.D k).f x := by kernel_rfl
theorem gate_Gate_Release.fit (s : St U) (x : (Sgate_Gate × Sapi_Rule × Int × Sgate_Key × Sapi_Dec)) (h : gate_Gate_Release.un s = some x) : Fits s (gate_Gate_Release.mk x) := by
  unfold gate_Gate_Release.un at h
  split at h
  · obtain ⟨ex1, hex1, hh1⟩ := Option.bind_eq_some_iff.1 h
    obtain ⟨ex2, hex2, hh2⟩ := Option.bind_eq_some_iff.1 hh1
    obtain ⟨x6, hx6, hh3⟩ := Option.bind_eq_some_iff.1 hh2
    have hc3 := Cd.full_ok hx6
    clear hx6
    subst hc3
    obtain ⟨hap, hh0⟩ := cond_none hh3
    cases hh0
    refine fits_ren [(7000000000001, ex1.1), (7000000000002, ex2.1)] ?_ ?_ (ren_apart hap) rfl
    · exact List.forall_mem_cons.2 ⟨FV.one (FV.ptr (by assumption)), List.forall_mem_cons.2 ⟨FV.one (FV.same (by assumption) rfl), List.forall_mem_cons.2 ⟨FV.one (FV.same (by assumption) rfl), List.forall_mem_cons.2 ⟨FV.one (FV.same (by assumption) rfl), List.forall_mem_cons.2 ⟨FV.one (FV.same (by assumption) rfl), List.forall_mem_cons.2 ⟨FV.one (FV.ptr (by assumption)), fun _ hp => (List.not_mem_nil hp).elim⟩⟩⟩⟩⟩⟩
    · exact List.forall_mem_cons.2 ⟨FO.cells (show lk (St.o _) 7000000000000 = some _ from by assumption) (FCs.cons ((tip_Sgate_Out_fit hex1 rfl).1) (FCs.cons ((map_Sgate_Key_i64_t_fit hex2 rfl).1) (FCs.nil))), List.forall_mem_cons.2 ⟨(tip_Sgate_Out_fit hex1 rfl).2, List.forall_mem_cons.2 ⟨(map_Sgate_Key_i64_t_fit hex2 rfl).2, fun _ hp => (List.not_mem_nil hp).elim⟩⟩⟩
  · cases h
theorem gate_Gate_Release.fitR (s : St U) (y : (Sapi_Dec × Bool × Int × Sgate_Gate)) (h : gate_Gate_Release.re s = some y) : Fits s (gate_Gate_Release.fin y) := by
  unfold gate_Gate_Release.re at h
  split at h
  · obtain ⟨ex7, hex7, hh1⟩ := Option.bind_eq_some_iff.1 h
    obtain ⟨ex8, hex8, hh2⟩ := Option.bind_eq_some_iff.1 hh1
    obtain ⟨hap, hh0⟩ := cond_none hh2
    cases hh0
    refine fits_ren [(7000000000001, ex7.1), (7000000000002, ex8.1)] ?_ ?_ (ren_apart hap) rfl
    · exact List.forall_mem_cons.2 ⟨FV.tup (by assumption) (FTs.cons (FVA.one (FV.same rfl rfl)) (FTs.cons (FVA.one (FV.same rfl rfl)) (FTs.cons (FVA.one (FV.same rfl rfl)) (FTs.nil)))), List.forall_mem_cons.2 ⟨FV.one (FV.ptr (by assumption)), fun _ hp => (List.not_mem_nil hp).elim⟩⟩
    · exact List.forall_mem_cons.2 ⟨FO.cells (show lk (St.o _) 7000000000000 = some _ from by assumption) (FCs.cons ((tip_Sgate_Out_fit hex7 rfl).1) (FCs.cons ((map_Sgate_Key_i64_t_fit hex8 rfl).1) (FCs.nil))), List.forall_mem_cons.2 ⟨(tip_Sgate_Out_fit hex7 rfl).2, List.forall_mem_cons.2 ⟨(map_Sgate_Key_i64_t_fit hex8 rfl).2, fun _ hp => (List.not_mem_nil hp).elim⟩⟩⟩
  · cases h
theorem gate_Gate_Release.sound (k : Nat) : Sound Try.prog DD 18 (gate_Gate_Release.D k) :=
  fun_sound (E := gate_Gate_Release.E k) (fn := Try.f18) (c := codeOf Try.f18) (gate_Gate_Release.ok k) mixed rfl Try.func18 (by kernel_rfl) (by kernel_rfl) (allL_of (l := []) (by kernel_rfl) allL_nil) (gate_Gate_Release.D k) gate_Gate_Release.mk gate_Gate_Release.re (by kernel_rfl) (by kernel_rfl) gate_Gate_Release.fit gate_Gate_Release.fitR (gate_Gate_Release.eq k)
/-! ### slices.Clone[[]pyx/gate.Out,pyx/gate.Out]: function 63 -/
noncomputable def slices_Clone_gate_Out.f (k : Nat) (a0 : List Sgate_Out) : Option (List Sgate_Out) := cond (okLen (List.length ([] : List Sgate_Out) + List.length a0) 88) (some (([] : List Sgate_Out) ++ a0)) none
noncomputable def slices_Clone_gate_Out.un (s : St U) : Option (List Sgate_Out) := match s.get 0 with | .row C.Sgate_Out x1 => some x1 | _ => none
noncomputable def slices_Clone_gate_Out.mk (x : List Sgate_Out) : St U := ⟨[(0, .row C.Sgate_Out x)], []⟩
noncomputable def slices_Clone_gate_Out.fin (y : List Sgate_Out) : St U := ⟨[(0, .row C.Sgate_Out y)], []⟩
noncomputable def slices_Clone_gate_Out.D (k : Nat) : FDen U := { X := List Sgate_Out, Y := List Sgate_Out, nt := 8, gh := [], un := slices_Clone_gate_Out.un, f := fun x => slices_Clone_gate_Out.f k (x), fin := slices_Clone_gate_Out.fin, cl := true, clo := fun _ _ => rfl }
noncomputable def slices_Clone_gate_Out.re (s : St U) : Option (List Sgate_Out) := match s.get 0 with | .row C.Sgate_Out x1 => some x1 | _ => none
noncomputable def slices_Clone_gate_Out.jl : List (Nat × JDen U) := []
noncomputable def slices_Clone_gate_Out.fl (k : Nat) : List (Nat × FDen U) := []
noncomputable def slices_Clone_gate_Out.ll (k : Nat) : List (Nat × LDen U) := []
noncomputable def slices_Clone_gate_Out.E (k : Nat) : Env U := { P := Try.prog, D := DD, fd := lk (slices_Clone_gate_Out.fl k), ld := lk (slices_Clone_gate_Out.ll k), jd := lk slices_Clone_gate_Out.jl, mode := lk [], elc := lk ec, mpc := lk mc, rts := Try.f63.resultTypes.toList, dyn := fun t => false, vecs := fun d => false, results := Try.f63.results.toList, gh := [], own := false, io := fun g i => false }
theorem slices_Clone_gate_Out.ok (k : Nat) : EnvOk (slices_Clone_gate_Out.E k) := envOk lawful (slices_Clone_gate_Out.fl k) (slices_Clone_gate_Out.ll k) slices_Clone_gate_Out.jl _ _ _ _ _ _ _ _ _ _ (by
  intro p hp
  simp [slices_Clone_gate_Out.fl] at hp) (by
  intro p hp
  simp [slices_Clone_gate_Out.jl] at hp)
theorem slices_Clone_gate_Out.fitR (s : St U) (y : List Sgate_Out) (h : slices_Clone_gate_Out.re s = some y) : Fits s (slices_Clone_gate_Out.fin y) := by
  unfold slices_Clone_gate_Out.re at h
  split at h
  · cases h
    refine fits_ren [] ?_ ?_ ren_nil rfl
    · exact List.forall_mem_cons.2 ⟨FV.one (FV.same (by assumption) rfl), fun _ hp => (List.not_mem_nil hp).elim⟩
    · exact fun _ hp => (List.not_mem_nil hp).elim
  · cases h
noncomputable def slices_Clone_gate_Out.mkn (g : Bool) (x : List Sgate_Out) : St U := ⟨[(0, .nrow g C.Sgate_Out x)], []⟩
theorem slices_Clone_gate_Out.eq (k : Nat) (x : List Sgate_Out) : runF (slices_Clone_gate_Out.E k) (codeOf Try.f63) (slices_Clone_gate_Out.mkn true x) slices_Clone_gate_Out.re = (slices_Clone_gate_Out.D k).f x := by kernel_rfl
theorem slices_Clone_gate_Out.eqN (k : Nat) : runF (slices_Clone_gate_Out.E k) (codeOf Try.f63) (slices_Clone_gate_Out.mkn false []) slices_Clone_gate_Out.re = (slices_Clone_gate_Out.D k).f [] := by kernel_rfl
theorem slices_Clone_gate_Out.sound (k : Nat) : Sound Try.prog DD 63 (slices_Clone_gate_Out.D k) :=
  fun_sound_nil (E := slices_Clone_gate_Out.E k) (fn := Try.f63) (c := codeOf Try.f63) (slices_Clone_gate_Out.ok k) mixed rfl Try.func63 (by kernel_rfl) (by kernel_rfl) (allL_of (l := []) (by kernel_rfl) allL_nil) C.Sgate_Out (slices_Clone_gate_Out.D k) slices_Clone_gate_Out.mkn (fun x => x) slices_Clone_gate_Out.re (by kernel_rfl) (by kernel_rfl)
    (by intro m x h; replace h : slices_Clone_gate_Out.un m = some x := h; unfold slices_Clone_gate_Out.un at h; split at h; · cases h; assumption
        · cases h)
    (fun _ _ => rfl) slices_Clone_gate_Out.fitR (slices_Clone_gate_Out.eq k) (by intro x h; replace h : x = [] := h; subst h; exact slices_Clone_gate_Out.eqN k)
/-! ### slices.Clip[[]pyx/gate.Out,pyx/gate.Out]: function 62 -/
noncomputable def slices_Clip_gate_Out.f (k : Nat) (a0 : List Sgate_Out) : Option (List Sgate_Out) := cond (decide ((List.length a0 : Int) = (List.length a0 : Int)) && inS 0 (List.length a0 : Int) (List.length a0)) (some (List.take (Int.toNat (List.length a0 : Int)) a0)) none
noncomputable def slices_Clip_gate_Out.un (s : St U) : Option (List Sgate_Out) := match s.get 0 with | .row C.Sgate_Out x1 => some x1 | _ => none
noncomputable def slices_Clip_gate_Out.mk (x : List Sgate_Out) : St U := ⟨[(0, .row C.Sgate_Out x)], []⟩
noncomputable def slices_Clip_gate_Out.fin (y : List Sgate_Out) : St U := ⟨[(0, .row C.Sgate_Out y)], []⟩
noncomputable def slices_Clip_gate_Out.D (k : Nat) : FDen U := { X := List Sgate_Out, Y := List Sgate_Out, nt := 9, gh := [], un := slices_Clip_gate_Out.un, f := fun x => slices_Clip_gate_Out.f k (x), fin := slices_Clip_gate_Out.fin, cl := true, clo := fun _ _ => rfl }
noncomputable def slices_Clip_gate_Out.re (s : St U) : Option (List Sgate_Out) := match s.get 0 with | .row C.Sgate_Out x1 => some x1 | _ => none
noncomputable def slices_Clip_gate_Out.jl : List (Nat × JDen U) := []
noncomputable def slices_Clip_gate_Out.fl (k : Nat) : List (Nat × FDen U) := []
noncomputable def slices_Clip_gate_Out.ll (k : Nat) : List (Nat × LDen U) := []
noncomputable def slices_Clip_gate_Out.E (k : Nat) : Env U := { P := Try.prog, D := DD, fd := lk (slices_Clip_gate_Out.fl k), ld := lk (slices_Clip_gate_Out.ll k), jd := lk slices_Clip_gate_Out.jl, mode := lk [], elc := lk ec, mpc := lk mc, rts := Try.f62.resultTypes.toList, dyn := fun t => false, vecs := fun d => false, results := Try.f62.results.toList, gh := [], own := false, io := fun g i => false }
theorem slices_Clip_gate_Out.ok (k : Nat) : EnvOk (slices_Clip_gate_Out.E k) := envOk lawful (slices_Clip_gate_Out.fl k) (slices_Clip_gate_Out.ll k) slices_Clip_gate_Out.jl _ _ _ _ _ _ _ _ _ _ (by
  intro p hp
  simp [slices_Clip_gate_Out.fl] at hp) (by
  intro p hp
  simp [slices_Clip_gate_Out.jl] at hp)
theorem slices_Clip_gate_Out.eq (k : Nat) (x : List Sgate_Out) : runF (slices_Clip_gate_Out.E k) (codeOf Try.f62) (slices_Clip_gate_Out.mk x) slices_Clip_gate_Out.re = (slices_Clip_gate_Out.D k).f x := by kernel_rfl
theorem slices_Clip_gate_Out.fit (s : St U) (x : List Sgate_Out) (h : slices_Clip_gate_Out.un s = some x) : Fits s (slices_Clip_gate_Out.mk x) := by
  unfold slices_Clip_gate_Out.un at h
  split at h
  · cases h
    refine fits_ren [] ?_ ?_ ren_nil rfl
    · exact List.forall_mem_cons.2 ⟨FV.one (FV.same (by assumption) rfl), fun _ hp => (List.not_mem_nil hp).elim⟩
    · exact fun _ hp => (List.not_mem_nil hp).elim
  · cases h
theorem slices_Clip_gate_Out.fitR (s : St U) (y : List Sgate_Out) (h : slices_Clip_gate_Out.re s = some y) : Fits s (slices_Clip_gate_Out.fin y) := by
  unfold slices_Clip_gate_Out.re at h
  split at h
  · cases h
    refine fits_ren [] ?_ ?_ ren_nil rfl
    · exact List.forall_mem_cons.2 ⟨FV.one (FV.same (by assumption) rfl), fun _ hp => (List.not_mem_nil hp).elim⟩
    · exact fun _ hp => (List.not_mem_nil hp).elim
  · cases h
theorem slices_Clip_gate_Out.sound (k : Nat) : Sound Try.prog DD 62 (slices_Clip_gate_Out.D k) :=
  fun_sound (E := slices_Clip_gate_Out.E k) (fn := Try.f62) (c := codeOf Try.f62) (slices_Clip_gate_Out.ok k) mixed rfl Try.func62 (by kernel_rfl) (by kernel_rfl) (allL_of (l := []) (by kernel_rfl) allL_nil) (slices_Clip_gate_Out.D k) slices_Clip_gate_Out.mk slices_Clip_gate_Out.re (by kernel_rfl) (by kernel_rfl) slices_Clip_gate_Out.fit slices_Clip_gate_Out.fitR (slices_Clip_gate_Out.eq k)
/-! ### (*pyx/gate.Gate).Log: function 19 -/
noncomputable def gate_Gate_Log.f (k : Nat) (a0 : Sgate_Gate) : Option (List Sgate_Out × Sgate_Gate) := (slices_Clone_gate_Out.f k a0.f_l).bind fun t1 => ((slices_Clip_gate_Out.f k t1).bind fun t2 => (some (t2, (⟨a0.f_l, a0.f_at⟩ : Sgate_Gate))))
noncomputable def gate_Gate_Log.un (s : St U) : Option Sgate_Gate := match s.get 0, lk s.o 7000000000000, s.get 1000000000000000 with | .ptr 7000000000000 0, some (.lit [x3, x4]), .ptr 7000000000000 0 => (tip_Sgate_Out s.o 11 x3).bind fun ex1 => ((map_Sgate_Key_i64_t s.o x4).bind fun ex2 => (cond (apart [ex1.1, ex2.1]) (some (⟨ex1.2, ex2.2⟩ : Sgate_Gate)) none)) | _, _, _ => none
noncomputable def gate_Gate_Log.mk (x : Sgate_Gate) : St U := ⟨[(0, .ptr 7000000000000 0), (1000000000000000, .ptr 7000000000000 0)], [(7000000000000, .lit [.tip 7000000000001 C.Sgate_Out x.f_l, .mp 7000000000002]), (7000000000001, .tip 11), (7000000000002, .map true true false C.Sgate_Key C.i64 x.f_at)]⟩
noncomputable def gate_Gate_Log.fin (y : (List Sgate_Out × Sgate_Gate)) : St U := ⟨[(0, .row C.Sgate_Out y.1), (1000000000000000, .ptr 7000000000000 0)], [(7000000000000, .lit [.tip 7000000000001 C.Sgate_Out y.2.f_l, .mp 7000000000002]), (7000000000001, .tip 11), (7000000000002, .map true true false C.Sgate_Key C.i64 y.2.f_at)]⟩
noncomputable def gate_Gate_Log.D (k : Nat) : FDen U := { X := Sgate_Gate, Y := (List Sgate_Out × Sgate_Gate), nt := 11, gh := [0], un := gate_Gate_Log.un, f := fun x => gate_Gate_Log.f k (x), fin := gate_Gate_Log.fin, cl := false, clo := fun h => by cases h }
noncomputable def gate_Gate_Log.re (s : St U) : Option (List Sgate_Out × Sgate_Gate) := match s.get 0, s.get 1000000000000000, lk s.o 7000000000000 with | .row C.Sgate_Out x1, .ptr 7000000000000 0, some (.lit [x4, x5]) => (tip_Sgate_Out s.o 11 x4).bind fun ex2 => ((map_Sgate_Key_i64_t s.o x5).bind fun ex3 => (cond (apart [ex2.1, ex3.1]) (some (x1, (⟨ex2.2, ex3.2⟩ : Sgate_Gate))) none)) | _, _, _ => none
noncomputable def gate_Gate_Log.jl : List (Nat × JDen U) := []
noncomputable def gate_Gate_Log.fl (k : Nat) : List (Nat × FDen U) := [(63, slices_Clone_gate_Out.D k), (62, slices_Clip_gate_Out.D k)]
noncomputable def gate_Gate_Log.ll (k : Nat) : List (Nat × LDen U) := []
noncomputable def gate_Gate_Log.E (k : Nat) : Env U := { P := Try.prog, D := DD, fd := lk (gate_Gate_Log.fl k), ld := lk (gate_Gate_Log.ll k), jd := lk gate_Gate_Log.jl, mode := lk [], elc := lk ec, mpc := lk mc, rts := Try.f19.resultTypes.toList, dyn := fun t => false, vecs := fun d => false, results := Try.f19.results.toList, gh := [0], own := false, io := fun g i => false }
theorem gate_Gate_Log.ok (k : Nat) : EnvOk (gate_Gate_Log.E k) := envOk lawful (gate_Gate_Log.fl k) (gate_Gate_Log.ll k) gate_Gate_Log.jl _ _ _ _ _ _ _ _ _ _ (by
  intro p hp
  simp only [gate_Gate_Log.fl, List.mem_cons, List.not_mem_nil, or_false] at hp
  rcases hp with rfl | rfl
  · exact ⟨slices_Clone_gate_Out.sound k, enter_of Try.func63 (by kernel_rfl) (by kernel_rfl)⟩
  · exact ⟨slices_Clip_gate_Out.sound k, enter_of Try.func62 (by kernel_rfl) (by kernel_rfl)⟩) (by
  intro p hp
  simp [gate_Gate_Log.jl] at hp)
theorem gate_Gate_Log.eq (k : Nat) (x : Sgate_Gate) : runF (gate_Gate_Log.E k) (codeOf Try.f19) (gate_Gate_Log.mk x) gate_Gate_Log.re = (gate_Gate_Log.D k).f x := by kernel_rfl
theorem gate_Gate_Log.fit (s : St U) (x : Sgate_Gate) (h : gate_Gate_Log.un s = some x) : Fits s (gate_Gate_Log.mk x) := by
  unfold gate_Gate_Log.un at h
  split at h
  · obtain ⟨ex1, hex1, hh1⟩ := Option.bind_eq_some_iff.1 h
    obtain ⟨ex2, hex2, hh2⟩ := Option.bind_eq_some_iff.1 hh1
    obtain ⟨hap, hh0⟩ := cond_none hh2
    cases hh0
    refine fits_ren [(7000000000001, ex1.1), (7000000000002, ex2.1)] ?_ ?_ (ren_apart hap) rfl
    · exact List.forall_mem_cons.2 ⟨FV.one (FV.ptr (by assumption)), List.forall_mem_cons.2 ⟨FV.one (FV.ptr (by assumption)), fun _ hp => (List.not_mem_nil hp).elim⟩⟩
    · exact List.forall_mem_cons.2 ⟨FO.cells (show lk (St.o _) 7000000000000 = some _ from by assumption) (FCs.cons ((tip_Sgate_Out_fit hex1 rfl).1) (FCs.cons ((map_Sgate_Key_i64_t_fit hex2 rfl).1) (FCs.nil))), List.forall_mem_cons.2 ⟨(tip_Sgate_Out_fit hex1 rfl).2, List.forall_mem_cons.2 ⟨(map_Sgate_Key_i64_t_fit hex2 rfl).2, fun _ hp => (List.not_mem_nil hp).elim⟩⟩⟩
  · cases h
theorem gate_Gate_Log.fitR (s : St U) (y : (List Sgate_Out × Sgate_Gate)) (h : gate_Gate_Log.re s = some y) : Fits s (gate_Gate_Log.fin y) := by
  unfold gate_Gate_Log.re at h
  split at h
  · obtain ⟨ex2, hex2, hh1⟩ := Option.bind_eq_some_iff.1 h
    obtain ⟨ex3, hex3, hh2⟩ := Option.bind_eq_some_iff.1 hh1
    obtain ⟨hap, hh0⟩ := cond_none hh2
    cases hh0
    refine fits_ren [(7000000000001, ex2.1), (7000000000002, ex3.1)] ?_ ?_ (ren_apart hap) rfl
    · exact List.forall_mem_cons.2 ⟨FV.one (FV.same (by assumption) rfl), List.forall_mem_cons.2 ⟨FV.one (FV.ptr (by assumption)), fun _ hp => (List.not_mem_nil hp).elim⟩⟩
    · exact List.forall_mem_cons.2 ⟨FO.cells (show lk (St.o _) 7000000000000 = some _ from by assumption) (FCs.cons ((tip_Sgate_Out_fit hex2 rfl).1) (FCs.cons ((map_Sgate_Key_i64_t_fit hex3 rfl).1) (FCs.nil))), List.forall_mem_cons.2 ⟨(tip_Sgate_Out_fit hex2 rfl).2, List.forall_mem_cons.2 ⟨(map_Sgate_Key_i64_t_fit hex3 rfl).2, fun _ hp => (List.not_mem_nil hp).elim⟩⟩⟩
  · cases h
theorem gate_Gate_Log.sound (k : Nat) : Sound Try.prog DD 19 (gate_Gate_Log.D k) :=
  fun_sound (E := gate_Gate_Log.E k) (fn := Try.f19) (c := codeOf Try.f19) (gate_Gate_Log.ok k) mixed rfl Try.func19 (by kernel_rfl) (by kernel_rfl) (allL_of (l := []) (by kernel_rfl) allL_nil) (gate_Gate_Log.D k) gate_Gate_Log.mk gate_Gate_Log.re (by kernel_rfl) (by kernel_rfl) gate_Gate_Log.fit gate_Gate_Log.fitR (gate_Gate_Log.eq k)
/-! ### pyx/pyxlaw25.known: function 16 -/
noncomputable def pyxlaw25_known.f (k : Nat)  : Option Bool := (gate_New.f k).bind fun t1 => ((pyxref1_Of.f k 100 0).bind fun t2 => ((pyxref1_Of.f k 250 0).bind fun t3 => ((gate_Gate_Release.f k (⟨t1.f_l, t1.f_at⟩ : Sgate_Gate) (⟨3, 0, 0, 0, 0, 0, (⟨t2.f_Neg, (t2.f_C.1, t2.f_C.2), t2.f_Scale⟩ : Sapi_Dec), (⟨0, 0⟩ : Sapi_Label)⟩ : Sapi_Rule) 4 (⟨0, 0, 0, 0⟩ : Sgate_Key) (⟨t3.f_Neg, (t3.f_C.1, t3.f_C.2), t3.f_Scale⟩ : Sapi_Dec)).bind fun t4 => ((pyxref1_Of.f k 900 0).bind fun t5 => ((gate_Gate_Release.f k (⟨t4.2.2.2.f_l, t4.2.2.2.f_at⟩ : Sgate_Gate) (⟨3, 0, 0, 0, 0, 0, (⟨t2.f_Neg, (t2.f_C.1, t2.f_C.2), t2.f_Scale⟩ : Sapi_Dec), (⟨0, 0⟩ : Sapi_Label)⟩ : Sapi_Rule) 5 (⟨0, 0, 0, 0⟩ : Sgate_Key) (⟨t5.f_Neg, (t5.f_C.1, t5.f_C.2), t5.f_Scale⟩ : Sapi_Dec)).bind fun t6 => ((gate_Gate_Log.f k (⟨t6.2.2.2.f_l, t6.2.2.2.f_at⟩ : Sgate_Gate)).bind fun t7 => (cond (t4.2.2.1 == 0) (cond (t4.2.1) ((pyxref1_Of.f k 200 0).bind fun t8 => (cond ((t4.1.f_Neg == t8.f_Neg) && ((t4.1.f_C.1 == t8.f_C.1) && ((t4.1.f_C.2 == t8.f_C.2) && (t4.1.f_Scale == t8.f_Scale)))) (cond (t6.2.2.1 == 0) (cond (!t6.2.1) (cond ((t6.1.f_Neg == t4.1.f_Neg) && ((t6.1.f_C.1 == t4.1.f_C.1) && ((t6.1.f_C.2 == t4.1.f_C.2) && (t6.1.f_Scale == t4.1.f_Scale)))) (cond ((List.length t7.1 : Int) == 1) (cond (inb 0 (List.length t7.1)) (some (((((List.getD t7.1 0 Sgate_Out.zero).f_K).f_Group) == 0) && (((((List.getD t7.1 0 Sgate_Out.zero).f_K).f_Line) == 0) && (((((List.getD t7.1 0 Sgate_Out.zero).f_K).f_Period) == 0) && (((((List.getD t7.1 0 Sgate_Out.zero).f_K).f_Version) == 0) && ((((List.getD t7.1 0 Sgate_Out.zero).f_Rule) == 4) && (((((List.getD t7.1 0 Sgate_Out.zero).f_Value).f_Neg) == t4.1.f_Neg) && ((((((List.getD t7.1 0 Sgate_Out.zero).f_Value).f_C).1) == t4.1.f_C.1) && ((((((List.getD t7.1 0 Sgate_Out.zero).f_Value).f_C).2) == t4.1.f_C.2) && (((((List.getD t7.1 0 Sgate_Out.zero).f_Value).f_Scale) == t4.1.f_Scale) && (((((List.getD t7.1 0 Sgate_Out.zero).f_To).f_Set) == 0) && ((((List.getD t7.1 0 Sgate_Out.zero).f_To).f_Level) == 0)))))))))))) none) (some false)) (some false)) (some false)) (some false)) (some false))) (some false)) (some false))))))))
noncomputable def pyxlaw25_known.un (s : St U) : Option Unit := some ()
noncomputable def pyxlaw25_known.mk (x : Unit) : St U := ⟨[], []⟩
noncomputable def pyxlaw25_known.fin (y : Bool) : St U := ⟨[(0, .flat (.bool y))], []⟩
noncomputable def pyxlaw25_known.D (k : Nat) : FDen U := { X := Unit, Y := Bool, nt := 71, gh := [], un := pyxlaw25_known.un, f := fun x => pyxlaw25_known.f k , fin := pyxlaw25_known.fin, cl := true, clo := fun _ _ => rfl }
noncomputable def pyxlaw25_known.re (s : St U) : Option Bool := match s.get 0 with | .flat (.bool x1) => some x1 | _ => none
noncomputable def pyxlaw25_known.jl : List (Nat × JDen U) := []
noncomputable def pyxlaw25_known.fl (k : Nat) : List (Nat × FDen U) := [(15, gate_New.D k), (17, pyxref1_Of.D k), (18, gate_Gate_Release.D k), (19, gate_Gate_Log.D k)]
noncomputable def pyxlaw25_known.ll (k : Nat) : List (Nat × LDen U) := []
noncomputable def pyxlaw25_known.E (k : Nat) : Env U := { P := Try.prog, D := DD, fd := lk (pyxlaw25_known.fl k), ld := lk (pyxlaw25_known.ll k), jd := lk pyxlaw25_known.jl, mode := lk [], elc := lk ec, mpc := lk mc, rts := Try.f16.resultTypes.toList, dyn := fun t => false, vecs := fun d => false, results := Try.f16.results.toList, gh := [], own := false, io := fun g i => false }
theorem pyxlaw25_known.ok (k : Nat) : EnvOk (pyxlaw25_known.E k) := envOk lawful (pyxlaw25_known.fl k) (pyxlaw25_known.ll k) pyxlaw25_known.jl _ _ _ _ _ _ _ _ _ _ (by
  intro p hp
  simp only [pyxlaw25_known.fl, List.mem_cons, List.not_mem_nil, or_false] at hp
  rcases hp with rfl | rfl | rfl | rfl
  · exact ⟨gate_New.sound k, enter_of Try.func15 (by kernel_rfl) (by kernel_rfl)⟩
  · exact ⟨pyxref1_Of.sound k, enter_of Try.func17 (by kernel_rfl) (by kernel_rfl)⟩
  · exact ⟨gate_Gate_Release.sound k, enter_of Try.func18 (by kernel_rfl) (by kernel_rfl)⟩
  · exact ⟨gate_Gate_Log.sound k, enter_of Try.func19 (by kernel_rfl) (by kernel_rfl)⟩) (by
  intro p hp
  simp [pyxlaw25_known.jl] at hp)
theorem pyxlaw25_known.eq (k : Nat) (x : Unit) : runF (pyxlaw25_known.E k) (codeOf Try.f16) (pyxlaw25_known.mk x) pyxlaw25_known.re = (pyxlaw25_known.D k).f x := by kernel_rfl
theorem pyxlaw25_known.fit (s : St U) (x : Unit) (h : pyxlaw25_known.un s = some x) : Fits s (pyxlaw25_known.mk x) := by
  unfold pyxlaw25_known.un at h
  cases h
  refine fits_ren [] ?_ ?_ ren_nil rfl
  · exact fun _ hp => (List.not_mem_nil hp).elim
  · exact fun _ hp => (List.not_mem_nil hp).elim
theorem pyxlaw25_known.fitR (s : St U) (y : Bool) (h : pyxlaw25_known.re s = some y) : Fits s (pyxlaw25_known.fin y) := by
  unfold pyxlaw25_known.re at h
  split at h
  · cases h
    refine fits_ren [] ?_ ?_ ren_nil rfl
    · exact List.forall_mem_cons.2 ⟨FV.one (FV.same (by assumption) rfl), fun _ hp => (List.not_mem_nil hp).elim⟩
    · exact fun _ hp => (List.not_mem_nil hp).elim
  · cases h
theorem pyxlaw25_known.sound (k : Nat) : Sound Try.prog DD 16 (pyxlaw25_known.D k) :=
  fun_sound (E := pyxlaw25_known.E k) (fn := Try.f16) (c := codeOf Try.f16) (pyxlaw25_known.ok k) mixed rfl Try.func16 (by kernel_rfl) (by kernel_rfl) (allL_of (l := []) (by kernel_rfl) allL_nil) (pyxlaw25_known.D k) pyxlaw25_known.mk pyxlaw25_known.re (by kernel_rfl) (by kernel_rfl) pyxlaw25_known.fit pyxlaw25_known.fitR (pyxlaw25_known.eq k)
/-! ### pyx/pyxhand.Pick: function 25 -/
noncomputable def pyxhand_Pick.f (k : Nat) (a0 : Int) (a1 : Int) : Option Int := cond (a1 == 0) none (cond (decide ((Int.tmod a0 a1) < 0)) (some (IntKind.wrap .i64 ((Int.tmod a0 a1) + a1))) (some (Int.tmod a0 a1)))
noncomputable def pyxhand_Pick.un (s : St U) : Option (Int × Int) := match s.get 0, s.get 1 with | .flat (.int .i64 x1), .flat (.int .i64 x2) => some (x1, x2) | _, _ => none
noncomputable def pyxhand_Pick.mk (x : (Int × Int)) : St U := ⟨[(0, .flat (.int .i64 x.1)), (1, .flat (.int .i64 x.2))], []⟩
noncomputable def pyxhand_Pick.fin (y : Int) : St U := ⟨[(0, .flat (.int .i64 y))], []⟩
noncomputable def pyxhand_Pick.D (k : Nat) : FDen U := { X := (Int × Int), Y := Int, nt := 14, gh := [], un := pyxhand_Pick.un, f := fun x => pyxhand_Pick.f k (x.1) (x.2), fin := pyxhand_Pick.fin, cl := true, clo := fun _ _ => rfl }
noncomputable def pyxhand_Pick.re (s : St U) : Option Int := match s.get 0 with | .flat (.int .i64 x1) => some x1 | _ => none
noncomputable def pyxhand_Pick.jl : List (Nat × JDen U) := []
noncomputable def pyxhand_Pick.fl (k : Nat) : List (Nat × FDen U) := []
noncomputable def pyxhand_Pick.ll (k : Nat) : List (Nat × LDen U) := []
noncomputable def pyxhand_Pick.E (k : Nat) : Env U := { P := Try.prog, D := DD, fd := lk (pyxhand_Pick.fl k), ld := lk (pyxhand_Pick.ll k), jd := lk pyxhand_Pick.jl, mode := lk [], elc := lk ec, mpc := lk mc, rts := Try.f25.resultTypes.toList, dyn := fun t => false, vecs := fun d => false, results := Try.f25.results.toList, gh := [], own := false, io := fun g i => false }
theorem pyxhand_Pick.ok (k : Nat) : EnvOk (pyxhand_Pick.E k) := envOk lawful (pyxhand_Pick.fl k) (pyxhand_Pick.ll k) pyxhand_Pick.jl _ _ _ _ _ _ _ _ _ _ (by
  intro p hp
  simp [pyxhand_Pick.fl] at hp) (by
  intro p hp
  simp [pyxhand_Pick.jl] at hp)
theorem pyxhand_Pick.eq (k : Nat) (x : (Int × Int)) : runF (pyxhand_Pick.E k) (codeOf Try.f25) (pyxhand_Pick.mk x) pyxhand_Pick.re = (pyxhand_Pick.D k).f x := by kernel_rfl
theorem pyxhand_Pick.fit (s : St U) (x : (Int × Int)) (h : pyxhand_Pick.un s = some x) : Fits s (pyxhand_Pick.mk x) := by
  unfold pyxhand_Pick.un at h
  split at h
  · cases h
    refine fits_ren [] ?_ ?_ ren_nil rfl
    · exact List.forall_mem_cons.2 ⟨FV.one (FV.same (by assumption) rfl), List.forall_mem_cons.2 ⟨FV.one (FV.same (by assumption) rfl), fun _ hp => (List.not_mem_nil hp).elim⟩⟩
    · exact fun _ hp => (List.not_mem_nil hp).elim
  · cases h
theorem pyxhand_Pick.fitR (s : St U) (y : Int) (h : pyxhand_Pick.re s = some y) : Fits s (pyxhand_Pick.fin y) := by
  unfold pyxhand_Pick.re at h
  split at h
  · cases h
    refine fits_ren [] ?_ ?_ ren_nil rfl
    · exact List.forall_mem_cons.2 ⟨FV.one (FV.same (by assumption) rfl), fun _ hp => (List.not_mem_nil hp).elim⟩
    · exact fun _ hp => (List.not_mem_nil hp).elim
  · cases h
theorem pyxhand_Pick.sound (k : Nat) : Sound Try.prog DD 25 (pyxhand_Pick.D k) :=
  fun_sound (E := pyxhand_Pick.E k) (fn := Try.f25) (c := codeOf Try.f25) (pyxhand_Pick.ok k) mixed rfl Try.func25 (by kernel_rfl) (by kernel_rfl) (allL_of (l := []) (by kernel_rfl) allL_nil) (pyxhand_Pick.D k) pyxhand_Pick.mk pyxhand_Pick.re (by kernel_rfl) (by kernel_rfl) pyxhand_Pick.fit pyxhand_Pick.fitR (pyxhand_Pick.eq k)
/-! ### pyx/pyxhand.Dec: function 21 -/
noncomputable def pyxhand_Dec.f (k : Nat) (a0 : Int) (a1 : Int) (a2 : Int) : Option Sapi_Dec := (pyxhand_Pick.f k a2 11).bind fun t1 => (cond (t1 == 0) ((pyxhand_Pick.f k a0 12).bind fun t2 => (some (⟨(Int.tmod a2 2) == 0, (IntKind.wrap .u64 (a0), IntKind.wrap .u64 (a1)), IntKind.wrap .i64 (t2 - 1)⟩ : Sapi_Dec))) (cond (t1 == 1) ((pyxhand_Pick.f k a1 54210108624).bind fun t3 => ((pyxhand_Pick.f k (IntKind.wrap .i64 (Int.tdiv a2 11)) 10).bind fun t4 => (some (⟨(Int.tmod a0 2) == 0, (IntKind.wrap .u64 (a0), IntKind.wrap .u64 (t3)), t4⟩ : Sapi_Dec)))) (cond (t1 == 2) ((pyxhand_Pick.f k a0 7).bind fun t5 => ((pyxhand_Pick.f k a1 10).bind fun t6 => ((pyxref1_Of.f k (IntKind.wrap .i64 (t5 - 3)) t6).bind fun t7 => (some (⟨t7.f_Neg, (t7.f_C.1, t7.f_C.2), t7.f_Scale⟩ : Sapi_Dec))))) (cond (t1 == 3) ((pyxhand_Pick.f k a1 10).bind fun t8 => ((pyxref1_Of.f k a0 t8).bind fun t9 => (some (⟨t9.f_Neg, (t9.f_C.1, t9.f_C.2), t9.f_Scale⟩ : Sapi_Dec)))) ((pyxhand_Pick.f k a0 2000000).bind fun t10 => ((pyxhand_Pick.f k a1 10).bind fun t11 => ((pyxref1_Of.f k (IntKind.wrap .i64 (t10 - 1000000)) t11).bind fun t12 => (some (⟨t12.f_Neg, (t12.f_C.1, t12.f_C.2), t12.f_Scale⟩ : Sapi_Dec)))))))))
noncomputable def pyxhand_Dec.un (s : St U) : Option (Int × Int × Int) := match s.get 0, s.get 1, s.get 2 with | .flat (.int .i64 x1), .flat (.int .i64 x2), .flat (.int .i64 x3) => some (x1, x2, x3) | _, _, _ => none
noncomputable def pyxhand_Dec.mk (x : (Int × Int × Int)) : St U := ⟨[(0, .flat (.int .i64 x.1)), (1, .flat (.int .i64 x.2.1)), (2, .flat (.int .i64 x.2.2))], []⟩
noncomputable def pyxhand_Dec.fin (y : Sapi_Dec) : St U := ⟨[(0, .agg [.flat (.bool y.f_Neg), .flat (.int .u64 y.f_C.1), .flat (.int .u64 y.f_C.2), .flat (.int .i64 y.f_Scale)])], []⟩
noncomputable def pyxhand_Dec.D (k : Nat) : FDen U := { X := (Int × Int × Int), Y := Sapi_Dec, nt := 58, gh := [], un := pyxhand_Dec.un, f := fun x => pyxhand_Dec.f k (x.1) (x.2.1) (x.2.2), fin := pyxhand_Dec.fin, cl := true, clo := fun _ _ => rfl }
noncomputable def pyxhand_Dec.re (s : St U) : Option Sapi_Dec := match s.get 0 with | .agg [.flat (.bool x1), .flat (.int .u64 x2), .flat (.int .u64 x3), .flat (.int .i64 x4)] => some (⟨x1, (x2, x3), x4⟩ : Sapi_Dec) | _ => none
noncomputable def pyxhand_Dec.jl : List (Nat × JDen U) := []
noncomputable def pyxhand_Dec.fl (k : Nat) : List (Nat × FDen U) := [(25, pyxhand_Pick.D k), (17, pyxref1_Of.D k)]
noncomputable def pyxhand_Dec.ll (k : Nat) : List (Nat × LDen U) := []
noncomputable def pyxhand_Dec.E (k : Nat) : Env U := { P := Try.prog, D := DD, fd := lk (pyxhand_Dec.fl k), ld := lk (pyxhand_Dec.ll k), jd := lk pyxhand_Dec.jl, mode := lk [], elc := lk ec, mpc := lk mc, rts := Try.f21.resultTypes.toList, dyn := fun t => false, vecs := fun d => false, results := Try.f21.results.toList, gh := [], own := false, io := fun g i => false }
theorem pyxhand_Dec.ok (k : Nat) : EnvOk (pyxhand_Dec.E k) := envOk lawful (pyxhand_Dec.fl k) (pyxhand_Dec.ll k) pyxhand_Dec.jl _ _ _ _ _ _ _ _ _ _ (by
  intro p hp
  simp only [pyxhand_Dec.fl, List.mem_cons, List.not_mem_nil, or_false] at hp
  rcases hp with rfl | rfl
  · exact ⟨pyxhand_Pick.sound k, enter_of Try.func25 (by kernel_rfl) (by kernel_rfl)⟩
  · exact ⟨pyxref1_Of.sound k, enter_of Try.func17 (by kernel_rfl) (by kernel_rfl)⟩) (by
  intro p hp
  simp [pyxhand_Dec.jl] at hp)
theorem pyxhand_Dec.eq (k : Nat) (x : (Int × Int × Int)) : runF (pyxhand_Dec.E k) (codeOf Try.f21) (pyxhand_Dec.mk x) pyxhand_Dec.re = (pyxhand_Dec.D k).f x := by kernel_rfl
theorem pyxhand_Dec.fit (s : St U) (x : (Int × Int × Int)) (h : pyxhand_Dec.un s = some x) : Fits s (pyxhand_Dec.mk x) := by
  unfold pyxhand_Dec.un at h
  split at h
  · cases h
    refine fits_ren [] ?_ ?_ ren_nil rfl
    · exact List.forall_mem_cons.2 ⟨FV.one (FV.same (by assumption) rfl), List.forall_mem_cons.2 ⟨FV.one (FV.same (by assumption) rfl), List.forall_mem_cons.2 ⟨FV.one (FV.same (by assumption) rfl), fun _ hp => (List.not_mem_nil hp).elim⟩⟩⟩
    · exact fun _ hp => (List.not_mem_nil hp).elim
  · cases h
theorem pyxhand_Dec.fitR (s : St U) (y : Sapi_Dec) (h : pyxhand_Dec.re s = some y) : Fits s (pyxhand_Dec.fin y) := by
  unfold pyxhand_Dec.re at h
  split at h
  · cases h
    refine fits_ren [] ?_ ?_ ren_nil rfl
    · exact List.forall_mem_cons.2 ⟨FV.one (FV.same (by assumption) rfl), fun _ hp => (List.not_mem_nil hp).elim⟩
    · exact fun _ hp => (List.not_mem_nil hp).elim
  · cases h
theorem pyxhand_Dec.sound (k : Nat) : Sound Try.prog DD 21 (pyxhand_Dec.D k) :=
  fun_sound (E := pyxhand_Dec.E k) (fn := Try.f21) (c := codeOf Try.f21) (pyxhand_Dec.ok k) mixed rfl Try.func21 (by kernel_rfl) (by kernel_rfl) (allL_of (l := []) (by kernel_rfl) allL_nil) (pyxhand_Dec.D k) pyxhand_Dec.mk pyxhand_Dec.re (by kernel_rfl) (by kernel_rfl) pyxhand_Dec.fit pyxhand_Dec.fitR (pyxhand_Dec.eq k)
/-! ### pyx/pyxlaw25.rule: function 22 -/
noncomputable def pyxlaw25_rule.f (k : Nat) (a0 : Spyxlaw25_Raw) : Option Sapi_Rule := (pyxhand_Pick.f k a0.f_Group 2).bind fun t1 => ((pyxhand_Pick.f k a0.f_Line 3).bind fun t2 => ((pyxref1_Of.f k 1 0).bind fun t3 => ((pyxref1_Of.f k 25 0).bind fun t4 => ((pyxref1_Of.f k 5 1).bind fun t5 => ((pyxref1_Of.f k 1 2).bind fun t6 => ((pyxhand_Pick.f k a0.f_Unit 4).bind fun t7 => (cond (inb t7 4) ((pyxhand_Pick.f k a0.f_To 4).bind fun t8 => ((pyxhand_Pick.f k (IntKind.wrap .i64 (Int.tdiv a0.f_To 4)) 3).bind fun t9 => ((pyxhand_Pick.f k a0.f_Bend 13).bind fun t10 => (cond (t10 == 10) ((pyxhand_Pick.f k (IntKind.wrap .i64 (Int.tdiv a0.f_Bend 13)) 5).bind fun t11 => (some (⟨t11, 0, 0, (-1), t1, t2, (⟨(List.getD [(⟨t3.f_Neg, (t3.f_C.1, t3.f_C.2), t3.f_Scale⟩ : Sapi_Dec), (⟨t4.f_Neg, (t4.f_C.1, t4.f_C.2), t4.f_Scale⟩ : Sapi_Dec), (⟨t5.f_Neg, (t5.f_C.1, t5.f_C.2), t5.f_Scale⟩ : Sapi_Dec), (⟨t6.f_Neg, (t6.f_C.1, t6.f_C.2), t6.f_Scale⟩ : Sapi_Dec)] (Int.toNat t7) Sapi_Dec.zero).f_Neg, (((List.getD [(⟨t3.f_Neg, (t3.f_C.1, t3.f_C.2), t3.f_Scale⟩ : Sapi_Dec), (⟨t4.f_Neg, (t4.f_C.1, t4.f_C.2), t4.f_Scale⟩ : Sapi_Dec), (⟨t5.f_Neg, (t5.f_C.1, t5.f_C.2), t5.f_Scale⟩ : Sapi_Dec), (⟨t6.f_Neg, (t6.f_C.1, t6.f_C.2), t6.f_Scale⟩ : Sapi_Dec)] (Int.toNat t7) Sapi_Dec.zero).f_C).1, ((List.getD [(⟨t3.f_Neg, (t3.f_C.1, t3.f_C.2), t3.f_Scale⟩ : Sapi_Dec), (⟨t4.f_Neg, (t4.f_C.1, t4.f_C.2), t4.f_Scale⟩ : Sapi_Dec), (⟨t5.f_Neg, (t5.f_C.1, t5.f_C.2), t5.f_Scale⟩ : Sapi_Dec), (⟨t6.f_Neg, (t6.f_C.1, t6.f_C.2), t6.f_Scale⟩ : Sapi_Dec)] (Int.toNat t7) Sapi_Dec.zero).f_C).2), (List.getD [(⟨t3.f_Neg, (t3.f_C.1, t3.f_C.2), t3.f_Scale⟩ : Sapi_Dec), (⟨t4.f_Neg, (t4.f_C.1, t4.f_C.2), t4.f_Scale⟩ : Sapi_Dec), (⟨t5.f_Neg, (t5.f_C.1, t5.f_C.2), t5.f_Scale⟩ : Sapi_Dec), (⟨t6.f_Neg, (t6.f_C.1, t6.f_C.2), t6.f_Scale⟩ : Sapi_Dec)] (Int.toNat t7) Sapi_Dec.zero).f_Scale⟩ : Sapi_Dec), (⟨IntKind.wrap .u64 (t8), t9⟩ : Sapi_Label)⟩ : Sapi_Rule))) (cond (t10 == 11) (some (⟨3, 0, 0, (-1), 7, t2, (⟨(List.getD [(⟨t3.f_Neg, (t3.f_C.1, t3.f_C.2), t3.f_Scale⟩ : Sapi_Dec), (⟨t4.f_Neg, (t4.f_C.1, t4.f_C.2), t4.f_Scale⟩ : Sapi_Dec), (⟨t5.f_Neg, (t5.f_C.1, t5.f_C.2), t5.f_Scale⟩ : Sapi_Dec), (⟨t6.f_Neg, (t6.f_C.1, t6.f_C.2), t6.f_Scale⟩ : Sapi_Dec)] (Int.toNat t7) Sapi_Dec.zero).f_Neg, (((List.getD [(⟨t3.f_Neg, (t3.f_C.1, t3.f_C.2), t3.f_Scale⟩ : Sapi_Dec), (⟨t4.f_Neg, (t4.f_C.1, t4.f_C.2), t4.f_Scale⟩ : Sapi_Dec), (⟨t5.f_Neg, (t5.f_C.1, t5.f_C.2), t5.f_Scale⟩ : Sapi_Dec), (⟨t6.f_Neg, (t6.f_C.1, t6.f_C.2), t6.f_Scale⟩ : Sapi_Dec)] (Int.toNat t7) Sapi_Dec.zero).f_C).1, ((List.getD [(⟨t3.f_Neg, (t3.f_C.1, t3.f_C.2), t3.f_Scale⟩ : Sapi_Dec), (⟨t4.f_Neg, (t4.f_C.1, t4.f_C.2), t4.f_Scale⟩ : Sapi_Dec), (⟨t5.f_Neg, (t5.f_C.1, t5.f_C.2), t5.f_Scale⟩ : Sapi_Dec), (⟨t6.f_Neg, (t6.f_C.1, t6.f_C.2), t6.f_Scale⟩ : Sapi_Dec)] (Int.toNat t7) Sapi_Dec.zero).f_C).2), (List.getD [(⟨t3.f_Neg, (t3.f_C.1, t3.f_C.2), t3.f_Scale⟩ : Sapi_Dec), (⟨t4.f_Neg, (t4.f_C.1, t4.f_C.2), t4.f_Scale⟩ : Sapi_Dec), (⟨t5.f_Neg, (t5.f_C.1, t5.f_C.2), t5.f_Scale⟩ : Sapi_Dec), (⟨t6.f_Neg, (t6.f_C.1, t6.f_C.2), t6.f_Scale⟩ : Sapi_Dec)] (Int.toNat t7) Sapi_Dec.zero).f_Scale⟩ : Sapi_Dec), (⟨IntKind.wrap .u64 (t8), t9⟩ : Sapi_Label)⟩ : Sapi_Rule)) (cond (t10 == 12) ((pyxhand_Dec.f k a0.f_N a0.f_Scale (IntKind.wrap .i64 (Int.tdiv a0.f_Bend 13))).bind fun t12 => (some (⟨3, 0, 0, (-1), t1, t2, (⟨t12.f_Neg, (t12.f_C.1, t12.f_C.2), t12.f_Scale⟩ : Sapi_Dec), (⟨IntKind.wrap .u64 (t8), t9⟩ : Sapi_Label)⟩ : Sapi_Rule))) (some (⟨3, 0, 0, (-1), t1, t2, (⟨(List.getD [(⟨t3.f_Neg, (t3.f_C.1, t3.f_C.2), t3.f_Scale⟩ : Sapi_Dec), (⟨t4.f_Neg, (t4.f_C.1, t4.f_C.2), t4.f_Scale⟩ : Sapi_Dec), (⟨t5.f_Neg, (t5.f_C.1, t5.f_C.2), t5.f_Scale⟩ : Sapi_Dec), (⟨t6.f_Neg, (t6.f_C.1, t6.f_C.2), t6.f_Scale⟩ : Sapi_Dec)] (Int.toNat t7) Sapi_Dec.zero).f_Neg, (((List.getD [(⟨t3.f_Neg, (t3.f_C.1, t3.f_C.2), t3.f_Scale⟩ : Sapi_Dec), (⟨t4.f_Neg, (t4.f_C.1, t4.f_C.2), t4.f_Scale⟩ : Sapi_Dec), (⟨t5.f_Neg, (t5.f_C.1, t5.f_C.2), t5.f_Scale⟩ : Sapi_Dec), (⟨t6.f_Neg, (t6.f_C.1, t6.f_C.2), t6.f_Scale⟩ : Sapi_Dec)] (Int.toNat t7) Sapi_Dec.zero).f_C).1, ((List.getD [(⟨t3.f_Neg, (t3.f_C.1, t3.f_C.2), t3.f_Scale⟩ : Sapi_Dec), (⟨t4.f_Neg, (t4.f_C.1, t4.f_C.2), t4.f_Scale⟩ : Sapi_Dec), (⟨t5.f_Neg, (t5.f_C.1, t5.f_C.2), t5.f_Scale⟩ : Sapi_Dec), (⟨t6.f_Neg, (t6.f_C.1, t6.f_C.2), t6.f_Scale⟩ : Sapi_Dec)] (Int.toNat t7) Sapi_Dec.zero).f_C).2), (List.getD [(⟨t3.f_Neg, (t3.f_C.1, t3.f_C.2), t3.f_Scale⟩ : Sapi_Dec), (⟨t4.f_Neg, (t4.f_C.1, t4.f_C.2), t4.f_Scale⟩ : Sapi_Dec), (⟨t5.f_Neg, (t5.f_C.1, t5.f_C.2), t5.f_Scale⟩ : Sapi_Dec), (⟨t6.f_Neg, (t6.f_C.1, t6.f_C.2), t6.f_Scale⟩ : Sapi_Dec)] (Int.toNat t7) Sapi_Dec.zero).f_Scale⟩ : Sapi_Dec), (⟨IntKind.wrap .u64 (t8), t9⟩ : Sapi_Label)⟩ : Sapi_Rule)))))))) none)))))))
noncomputable def pyxlaw25_rule.un (s : St U) : Option Spyxlaw25_Raw := match s.get 0 with | .agg x1 => (cd_Spyxlaw25_Raw.full x1).bind fun x2 => (some x2) | _ => none
noncomputable def pyxlaw25_rule.mk (x : Spyxlaw25_Raw) : St U := ⟨[(0, .agg (cd_Spyxlaw25_Raw.enc x))], []⟩
noncomputable def pyxlaw25_rule.fin (y : Sapi_Rule) : St U := ⟨[(0, .agg (cd_Sapi_Rule.enc y))], []⟩
noncomputable def pyxlaw25_rule.D (k : Nat) : FDen U := { X := Spyxlaw25_Raw, Y := Sapi_Rule, nt := 54, gh := [], un := pyxlaw25_rule.un, f := fun x => pyxlaw25_rule.f k (x), fin := pyxlaw25_rule.fin, cl := true, clo := fun _ _ => rfl }
noncomputable def pyxlaw25_rule.re (s : St U) : Option Sapi_Rule := match s.get 0 with | .agg x1 => (cd_Sapi_Rule.full x1).bind fun x2 => (some x2) | _ => none
noncomputable def pyxlaw25_rule.jl : List (Nat × JDen U) := []
noncomputable def pyxlaw25_rule.fl (k : Nat) : List (Nat × FDen U) := [(25, pyxhand_Pick.D k), (17, pyxref1_Of.D k), (21, pyxhand_Dec.D k)]
noncomputable def pyxlaw25_rule.ll (k : Nat) : List (Nat × LDen U) := []
noncomputable def pyxlaw25_rule.E (k : Nat) : Env U := { P := Try.prog, D := DD, fd := lk (pyxlaw25_rule.fl k), ld := lk (pyxlaw25_rule.ll k), jd := lk pyxlaw25_rule.jl, mode := lk [(136, (4, C.Sapi_Dec))], elc := lk ec, mpc := lk mc, rts := Try.f22.resultTypes.toList, dyn := fun t => false, vecs := fun d => false, results := Try.f22.results.toList, gh := [], own := false, io := fun g i => false }
theorem pyxlaw25_rule.ok (k : Nat) : EnvOk (pyxlaw25_rule.E k) := envOk lawful (pyxlaw25_rule.fl k) (pyxlaw25_rule.ll k) pyxlaw25_rule.jl _ _ _ _ _ _ _ _ _ _ (by
  intro p hp
  simp only [pyxlaw25_rule.fl, List.mem_cons, List.not_mem_nil, or_false] at hp
  rcases hp with rfl | rfl | rfl
  · exact ⟨pyxhand_Pick.sound k, enter_of Try.func25 (by kernel_rfl) (by kernel_rfl)⟩
  · exact ⟨pyxref1_Of.sound k, enter_of Try.func17 (by kernel_rfl) (by kernel_rfl)⟩
  · exact ⟨pyxhand_Dec.sound k, enter_of Try.func21 (by kernel_rfl) (by kernel_rfl)⟩) (by
  intro p hp
  simp [pyxlaw25_rule.jl] at hp)
theorem pyxlaw25_rule.eq (k : Nat) (x : Spyxlaw25_Raw) : runF (pyxlaw25_rule.E k) (codeOf Try.f22) (pyxlaw25_rule.mk x) pyxlaw25_rule.re = (pyxlaw25_rule.D k).f x := by kernel_rfl
theorem pyxlaw25_rule.fit (s : St U) (x : Spyxlaw25_Raw) (h : pyxlaw25_rule.un s = some x) : Fits s (pyxlaw25_rule.mk x) := by
  unfold pyxlaw25_rule.un at h
  split at h
  · obtain ⟨x2, hx2, hh1⟩ := Option.bind_eq_some_iff.1 h
    have hc1 := Cd.full_ok hx2
    clear hx2
    subst hc1
    cases hh1
    refine fits_ren [] ?_ ?_ ren_nil rfl
    · exact List.forall_mem_cons.2 ⟨FV.one (FV.same (by assumption) rfl), fun _ hp => (List.not_mem_nil hp).elim⟩
    · exact fun _ hp => (List.not_mem_nil hp).elim
  · cases h
theorem pyxlaw25_rule.fitR (s : St U) (y : Sapi_Rule) (h : pyxlaw25_rule.re s = some y) : Fits s (pyxlaw25_rule.fin y) := by
  unfold pyxlaw25_rule.re at h
  split at h
  · obtain ⟨x2, hx2, hh1⟩ := Option.bind_eq_some_iff.1 h
    have hc1 := Cd.full_ok hx2
    clear hx2
    subst hc1
    cases hh1
    refine fits_ren [] ?_ ?_ ren_nil rfl
    · exact List.forall_mem_cons.2 ⟨FV.one (FV.same (by assumption) rfl), fun _ hp => (List.not_mem_nil hp).elim⟩
    · exact fun _ hp => (List.not_mem_nil hp).elim
  · cases h
theorem pyxlaw25_rule.sound (k : Nat) : Sound Try.prog DD 22 (pyxlaw25_rule.D k) :=
  fun_sound (E := pyxlaw25_rule.E k) (fn := Try.f22) (c := codeOf Try.f22) (pyxlaw25_rule.ok k) mixed rfl Try.func22 (by kernel_rfl) (by kernel_rfl) (allL_of (l := []) (by kernel_rfl) allL_nil) (pyxlaw25_rule.D k) pyxlaw25_rule.mk pyxlaw25_rule.re (by kernel_rfl) (by kernel_rfl) pyxlaw25_rule.fit pyxlaw25_rule.fitR (pyxlaw25_rule.eq k)
/-! ### pyx/pyxlaw25.key: function 23 -/
noncomputable def pyxlaw25_key.f (k : Nat) (a0 : Spyxlaw25_Raw) : Option Sgate_Key := (pyxhand_Pick.f k a0.f_Group 2).bind fun t1 => ((pyxhand_Pick.f k a0.f_Line 3).bind fun t2 => ((pyxhand_Pick.f k a0.f_Period 2).bind fun t3 => ((pyxhand_Pick.f k a0.f_Version 2).bind fun t4 => (some (⟨t1, t2, t3, t4⟩ : Sgate_Key)))))
noncomputable def pyxlaw25_key.un (s : St U) : Option Spyxlaw25_Raw := match s.get 0 with | .agg x1 => (cd_Spyxlaw25_Raw.full x1).bind fun x2 => (some x2) | _ => none
noncomputable def pyxlaw25_key.mk (x : Spyxlaw25_Raw) : St U := ⟨[(0, .agg (cd_Spyxlaw25_Raw.enc x))], []⟩
noncomputable def pyxlaw25_key.fin (y : Sgate_Key) : St U := ⟨[(0, .agg [.flat (.int .i64 y.f_Group), .flat (.int .i64 y.f_Line), .flat (.int .i64 y.f_Period), .flat (.int .i64 y.f_Version)])], []⟩
noncomputable def pyxlaw25_key.D (k : Nat) : FDen U := { X := Spyxlaw25_Raw, Y := Sgate_Key, nt := 16, gh := [], un := pyxlaw25_key.un, f := fun x => pyxlaw25_key.f k (x), fin := pyxlaw25_key.fin, cl := true, clo := fun _ _ => rfl }
noncomputable def pyxlaw25_key.re (s : St U) : Option Sgate_Key := match s.get 0 with | .agg [.flat (.int .i64 x1), .flat (.int .i64 x2), .flat (.int .i64 x3), .flat (.int .i64 x4)] => some (⟨x1, x2, x3, x4⟩ : Sgate_Key) | _ => none
noncomputable def pyxlaw25_key.jl : List (Nat × JDen U) := []
noncomputable def pyxlaw25_key.fl (k : Nat) : List (Nat × FDen U) := [(25, pyxhand_Pick.D k)]
noncomputable def pyxlaw25_key.ll (k : Nat) : List (Nat × LDen U) := []
noncomputable def pyxlaw25_key.E (k : Nat) : Env U := { P := Try.prog, D := DD, fd := lk (pyxlaw25_key.fl k), ld := lk (pyxlaw25_key.ll k), jd := lk pyxlaw25_key.jl, mode := lk [], elc := lk ec, mpc := lk mc, rts := Try.f23.resultTypes.toList, dyn := fun t => false, vecs := fun d => false, results := Try.f23.results.toList, gh := [], own := false, io := fun g i => false }
theorem pyxlaw25_key.ok (k : Nat) : EnvOk (pyxlaw25_key.E k) := envOk lawful (pyxlaw25_key.fl k) (pyxlaw25_key.ll k) pyxlaw25_key.jl _ _ _ _ _ _ _ _ _ _ (by
  intro p hp
  simp only [pyxlaw25_key.fl, List.mem_cons, List.not_mem_nil, or_false] at hp
  rcases hp with rfl
  · exact ⟨pyxhand_Pick.sound k, enter_of Try.func25 (by kernel_rfl) (by kernel_rfl)⟩) (by
  intro p hp
  simp [pyxlaw25_key.jl] at hp)
theorem pyxlaw25_key.eq (k : Nat) (x : Spyxlaw25_Raw) : runF (pyxlaw25_key.E k) (codeOf Try.f23) (pyxlaw25_key.mk x) pyxlaw25_key.re = (pyxlaw25_key.D k).f x := by kernel_rfl
theorem pyxlaw25_key.fit (s : St U) (x : Spyxlaw25_Raw) (h : pyxlaw25_key.un s = some x) : Fits s (pyxlaw25_key.mk x) := by
  unfold pyxlaw25_key.un at h
  split at h
  · obtain ⟨x2, hx2, hh1⟩ := Option.bind_eq_some_iff.1 h
    have hc1 := Cd.full_ok hx2
    clear hx2
    subst hc1
    cases hh1
    refine fits_ren [] ?_ ?_ ren_nil rfl
    · exact List.forall_mem_cons.2 ⟨FV.one (FV.same (by assumption) rfl), fun _ hp => (List.not_mem_nil hp).elim⟩
    · exact fun _ hp => (List.not_mem_nil hp).elim
  · cases h
theorem pyxlaw25_key.fitR (s : St U) (y : Sgate_Key) (h : pyxlaw25_key.re s = some y) : Fits s (pyxlaw25_key.fin y) := by
  unfold pyxlaw25_key.re at h
  split at h
  · cases h
    refine fits_ren [] ?_ ?_ ren_nil rfl
    · exact List.forall_mem_cons.2 ⟨FV.one (FV.same (by assumption) rfl), fun _ hp => (List.not_mem_nil hp).elim⟩
    · exact fun _ hp => (List.not_mem_nil hp).elim
  · cases h
theorem pyxlaw25_key.sound (k : Nat) : Sound Try.prog DD 23 (pyxlaw25_key.D k) :=
  fun_sound (E := pyxlaw25_key.E k) (fn := Try.f23) (c := codeOf Try.f23) (pyxlaw25_key.ok k) mixed rfl Try.func23 (by kernel_rfl) (by kernel_rfl) (allL_of (l := []) (by kernel_rfl) allL_nil) (pyxlaw25_key.D k) pyxlaw25_key.mk pyxlaw25_key.re (by kernel_rfl) (by kernel_rfl) pyxlaw25_key.fit pyxlaw25_key.fitR (pyxlaw25_key.eq k)
end
end Go.Proofs.Ytlaogfkgkpgofaa
