import Derived.Test.YthknecaigoilmaaF0
/-! Functions, told; their equations with the evaluator; that they are sound. Written by gen.py. -/
namespace Go.Proofs.Ythknecaigoilmaa
open Go Go.Ev
noncomputable section
set_option linter.unusedVariables false
set_option linter.unusedSimpArgs false
set_option maxRecDepth 100000
/-! ### pyx/pyxref1.Of: function 52 -/
noncomputable def pyxref1_Of.f (k : Nat) (a0 : Int) (a1 : Int) : Option Sapi_Dec := ((cond (decide (a0 < 0)) (some (a1, decide (a0 < 0), IntKind.wrap .u64 (0 - (IntKind.wrap .u64 (a0))), false, 0, 0, 0)) (some (a1, decide (a0 < 0), IntKind.wrap .u64 (a0), false, 0, 0, 0))) : Option (Int × Bool × Int × Bool × Int × Int × Int)).bind fun y8 => ((pyxref1_Word.f k y8.2.2.1).bind fun t9 => ((pyxref1_Within.f k y8.1 0 9).bind fun t10 => ((pyxref1_Make.f k y8.2.1 t9 t10).bind fun t11 => (some (⟨t11.1.f_Neg, (t11.1.f_C.1, t11.1.f_C.2), t11.1.f_Scale⟩ : Sapi_Dec)))))
noncomputable def pyxref1_Of.un (s : St U) : Option (Int × Int) := match s.get 0, s.get 1 with | .flat (.int .i64 x1), .flat (.int .i64 x2) => some (x1, x2) | _, _ => none
noncomputable def pyxref1_Of.mk (x : (Int × Int)) : St U := ⟨[(0, .flat (.int .i64 x.1)), (1, .flat (.int .i64 x.2))], []⟩
noncomputable def pyxref1_Of.fin (y : Sapi_Dec) : St U := ⟨[(0, .agg [.flat (.bool y.f_Neg), .flat (.int .u64 y.f_C.1), .flat (.int .u64 y.f_C.2), .flat (.int .i64 y.f_Scale)])], []⟩
noncomputable def pyxref1_Of.D (k : Nat) : FDen U := { X := (Int × Int), Y := Sapi_Dec, nt := 26, gh := [], un := pyxref1_Of.un, f := fun x => pyxref1_Of.f k (x.1) (x.2), fin := pyxref1_Of.fin, cl := true, clo := fun _ _ => rfl }
noncomputable def pyxref1_Of.re (s : St U) : Option Sapi_Dec := match s.get 0 with | .agg [.flat (.bool x1), .flat (.int .u64 x2), .flat (.int .u64 x3), .flat (.int .i64 x4)] => some (⟨x1, (x2, x3), x4⟩ : Sapi_Dec) | _ => none
noncomputable def pyxref1_Of.j4001.fin (y : (Int × Bool × Int × Bool × Int × Int × Int)) : Out U := match y with | (x1, x6, x7, x2, x3, x4, x5) => .norm ⟨[(4, .ptr 4 0), (1, .flat (.int .i64 x1)), (5, .flat (.bool x6)), (6, .flat (.int .u64 x7))], [(4, .lit [.flat (.bool x2), .flat (.int .u64 x3), .flat (.int .u64 x4), .flat (.int .i64 x5)])]⟩
noncomputable def pyxref1_Of.j4001.finK {ρ : Type} (y : (Int × Bool × Int × Bool × Int × Int × Int)) (K : Out U → Option ρ) : Option ρ := match y with | (x1, x6, x7, x2, x3, x4, x5) => K (.norm ⟨[(4, .ptr 4 0), (1, .flat (.int .i64 x1)), (5, .flat (.bool x6)), (6, .flat (.int .u64 x7))], [(4, .lit [.flat (.bool x2), .flat (.int .u64 x3), .flat (.int .u64 x4), .flat (.int .i64 x5)])]⟩)
theorem pyxref1_Of.j4001.finK_eq {ρ : Type} (y : (Int × Bool × Int × Bool × Int × Int × Int)) (K : Out U → Option ρ) : pyxref1_Of.j4001.finK y K = K (pyxref1_Of.j4001.fin y) := by
  unfold pyxref1_Of.j4001.finK pyxref1_Of.j4001.fin
  first | rfl | (split <;> rfl)
noncomputable def pyxref1_Of.j4001.re : Out U → Option ((Int × Bool × Int × Bool × Int × Int × Int)) | .norm s => (match s.get 4, s.get 1, s.get 5, s.get 6, lk s.o 4 with | .ptr 4 0, .flat (.int .i64 x1), .flat (.bool x6), .flat (.int .u64 x7), some (.lit [.flat (.bool x2), .flat (.int .u64 x3), .flat (.int .u64 x4), .flat (.int .i64 x5)]) => some (x1, x6, x7, x2, x3, x4, x5) | _, _, _, _, _ => none) | _ => none
noncomputable def pyxref1_Of.j4001.J : JDen U := { Y := (Int × Bool × Int × Bool × Int × Int × Int), re := pyxref1_Of.j4001.re, fin := pyxref1_Of.j4001.fin, finK := pyxref1_Of.j4001.finK, finK_eq := pyxref1_Of.j4001.finK_eq }
theorem pyxref1_Of.j4001.fit (o : Out U) (y : (Int × Bool × Int × Bool × Int × Int × Int)) (h : pyxref1_Of.j4001.re o = some y) : FitsO o (pyxref1_Of.j4001.fin y) := by
  unfold pyxref1_Of.j4001.re at h
  split at h
  · split at h
    · cases h
      refine fitsO_norm (fits_ren [] ?_ ?_ ren_nil rfl)
      · exact List.forall_mem_cons.2 ⟨FV.one (FV.ptr (by assumption)), List.forall_mem_cons.2 ⟨FV.one (FV.same (by assumption) rfl), List.forall_mem_cons.2 ⟨FV.one (FV.same (by assumption) rfl), List.forall_mem_cons.2 ⟨FV.one (FV.same (by assumption) rfl), fun _ hp => (List.not_mem_nil hp).elim⟩⟩⟩⟩
      · exact List.forall_mem_cons.2 ⟨(FO.same (show lk (St.o _) 4 = some _ from by assumption) rfl), fun _ hp => (List.not_mem_nil hp).elim⟩
    · cases h
  · cases h
noncomputable def pyxref1_Of.jl : List (Nat × JDen U) := [(4001, pyxref1_Of.j4001.J)]
noncomputable def pyxref1_Of.fl (k : Nat) : List (Nat × FDen U) := [(67, pyxref1_Word.D k), (74, pyxref1_Within.D k), (83, pyxref1_Make.D k)]
noncomputable def pyxref1_Of.ll (k : Nat) : List (Nat × LDen U) := []
noncomputable def pyxref1_Of.E (k : Nat) : Env U := { P := Try.prog, D := DD, fd := lk (pyxref1_Of.fl k), ld := lk (pyxref1_Of.ll k), jd := lk pyxref1_Of.jl, mode := lk [], elc := lk ec, mpc := lk mc, rts := Try.f52.resultTypes.toList, dyn := fun t => false, vecs := fun d => false, results := Try.f52.results.toList, gh := [], own := false, io := fun g i => false }
theorem pyxref1_Of.ok (k : Nat) : EnvOk (pyxref1_Of.E k) := envOk lawful (pyxref1_Of.fl k) (pyxref1_Of.ll k) pyxref1_Of.jl _ _ _ _ _ _ _ _ _ _ (by
  intro p hp
  simp only [pyxref1_Of.fl, List.mem_cons, List.not_mem_nil, or_false] at hp
  rcases hp with rfl | rfl | rfl
  · exact ⟨pyxref1_Word.sound k, enter_of Try.func67 (by kernel_rfl) (by kernel_rfl)⟩
  · exact ⟨pyxref1_Within.sound k, enter_of Try.func74 (by kernel_rfl) (by kernel_rfl)⟩
  · exact ⟨pyxref1_Make.sound k, enter_of Try.func83 (by kernel_rfl) (by kernel_rfl)⟩) (by
  intro p hp
  simp only [pyxref1_Of.jl, List.mem_cons, List.not_mem_nil, or_false] at hp
  rcases hp with rfl
  · exact pyxref1_Of.j4001.fit)
theorem pyxref1_Of.eq (k : Nat) (x : (Int × Int)) : runF (pyxref1_Of.E k) (codeOf Try.f52) (pyxref1_Of.mk x) pyxref1_Of.re = (pyxref1_Of.D k).f x := by kernel_rfl
theorem pyxref1_Of.fit (s : St U) (x : (Int × Int)) (h : pyxref1_Of.un s = some x) : Fits s (pyxref1_Of.mk x) := by
  unfold pyxref1_Of.un at h
  split at h
  · cases h
    refine fits_ren [] ?_ ?_ ren_nil rfl
    · exact List.forall_mem_cons.2 ⟨FV.one (FV.same (by assumption) rfl), List.forall_mem_cons.2 ⟨FV.one (FV.same (by assumption) rfl), fun _ hp => (List.not_mem_nil hp).elim⟩⟩
    · exact fun _ hp => (List.not_mem_nil hp).elim
  · cases h
theorem pyxref1_Of.fitR (s : St U) (y : Sapi_Dec) (h : pyxref1_Of.re s = some y) : Fits s (pyxref1_Of.fin y) := by
  unfold pyxref1_Of.re at h
  split at h
  · cases h
    refine fits_ren [] ?_ ?_ ren_nil rfl
    · exact List.forall_mem_cons.2 ⟨FV.one (FV.same (by assumption) rfl), fun _ hp => (List.not_mem_nil hp).elim⟩
    · exact fun _ hp => (List.not_mem_nil hp).elim
  · cases h
theorem pyxref1_Of.sound (k : Nat) : Sound Try.prog DD 52 (pyxref1_Of.D k) :=
  fun_sound (E := pyxref1_Of.E k) (fn := Try.f52) (c := codeOf Try.f52) (pyxref1_Of.ok k) mixed rfl Try.func52 (by kernel_rfl) (by kernel_rfl) (allL_of (l := []) (by kernel_rfl) allL_nil) (pyxref1_Of.D k) pyxref1_Of.mk pyxref1_Of.re (by kernel_rfl) (by kernel_rfl) pyxref1_Of.fit pyxref1_Of.fitR (pyxref1_Of.eq k)
/-! ### pyx/pyxhand.Policy: function 42 -/
noncomputable def pyxhand_Policy.l4.once (k : Nat) (x : (List Int × Int × Int × List Sapi_Ent × List Int × List Sapi_Who × List Int × List Sapi_Rule × List Sapi_Ent × List Int × List Sapi_Who × List Int × List Sapi_Rule)) : Option ((List Int × Int × Int × List Sapi_Ent × List Int × List Sapi_Who × List Int × List Sapi_Rule × List Sapi_Ent × List Int × List Sapi_Who × List Int × List Sapi_Rule) ⊕ ((List Int × Int × List Sapi_Ent × List Int × List Sapi_Who × List Int × List Sapi_Rule × List Sapi_Ent × List Int × List Sapi_Who × List Int × List Sapi_Rule))) := match x with | (x3, x9, x15, x4, x5, x6, x7, x8, x10, x11, x12, x13, x14) => cond (decide (x15 < x9)) ((((pyxhand_at.f k x3 (IntKind.wrap .i64 (1 + x15))).bind fun t16 => ((pyxhand_Pick.f k t16 4).bind fun t17 => ((pyxhand_at.f k x3 (IntKind.wrap .i64 (5 + x15))).bind fun t18 => ((pyxhand_Pick.f k t18 4).bind fun t19 => (cond (inb t19 4) (((cond (decide (x15 > 0)) ((pyxhand_at.f k x3 (IntKind.wrap .i64 (9 + x15))).bind fun t20 => ((pyxhand_Pick.f k t20 3).bind fun t21 => (some (x3, x9, x15, decide (t21 > 0), x4, x5, x6, x7, x8, x10, x11, x12, x13, x14, t17, List.getD [2, 2, 0, 3] (Int.toNat t19) 0, (-1), 10000)))) (some (x3, x9, x15, false, x4, x5, x6, x7, x8, x10, x11, x12, x13, x14, t17, List.getD [2, 2, 0, 3] (Int.toNat t19) 0, (-1), 10000))) : Option (List Int × Int × Int × Bool × List Sapi_Ent × List Int × List Sapi_Who × List Int × List Sapi_Rule × List Sapi_Ent × List Int × List Sapi_Who × List Int × List Sapi_Rule × Int × Int × Int × Int)).bind fun y40 => (((cond (y40.2.2.2.1) ((pyxhand_at.f k y40.1 (IntKind.wrap .i64 (9 + y40.2.2.1))).bind fun t41 => ((pyxhand_Pick.f k (IntKind.wrap .i64 (Int.tdiv t41 3)) y40.2.2.1).bind fun t42 => ((pyxhand_at.f k y40.1 (IntKind.wrap .i64 (13 + y40.2.2.1))).bind fun t43 => ((pyxhand_Pick.f k t43 10000).bind fun t44 => (some (y40.1, y40.2.1, y40.2.2.1, y40.2.2.2.2.1, y40.2.2.2.2.2.1, y40.2.2.2.2.2.2.1, y40.2.2.2.2.2.2.2.1, y40.2.2.2.2.2.2.2.2.1, y40.2.2.2.2.2.2.2.2.2.1, y40.2.2.2.2.2.2.2.2.2.2.1, y40.2.2.2.2.2.2.2.2.2.2.2.1, y40.2.2.2.2.2.2.2.2.2.2.2.2.1, y40.2.2.2.2.2.2.2.2.2.2.2.2.2.1, y40.2.2.2.2.2.2.2.2.2.2.2.2.2.2.1, y40.2.2.2.2.2.2.2.2.2.2.2.2.2.2.2.1, t42, IntKind.wrap .i64 (1 + t44))))))) (some (y40.1, y40.2.1, y40.2.2.1, y40.2.2.2.2.1, y40.2.2.2.2.2.1, y40.2.2.2.2.2.2.1, y40.2.2.2.2.2.2.2.1, y40.2.2.2.2.2.2.2.2.1, y40.2.2.2.2.2.2.2.2.2.1, y40.2.2.2.2.2.2.2.2.2.2.1, y40.2.2.2.2.2.2.2.2.2.2.2.1, y40.2.2.2.2.2.2.2.2.2.2.2.2.1, y40.2.2.2.2.2.2.2.2.2.2.2.2.2.1, y40.2.2.2.2.2.2.2.2.2.2.2.2.2.2.1, y40.2.2.2.2.2.2.2.2.2.2.2.2.2.2.2.1, y40.2.2.2.2.2.2.2.2.2.2.2.2.2.2.2.2.1, y40.2.2.2.2.2.2.2.2.2.2.2.2.2.2.2.2.2))) : Option (List Int × Int × Int × List Sapi_Ent × List Int × List Sapi_Who × List Int × List Sapi_Rule × List Sapi_Ent × List Int × List Sapi_Who × List Int × List Sapi_Rule × Int × Int × Int × Int)).bind fun y62 => (cond (okLen (List.length y62.2.2.2.2.2.2.2.2.1 + List.length [(⟨y62.2.2.2.2.2.2.2.2.2.2.2.2.2.1, y62.2.2.2.2.2.2.2.2.2.2.2.2.2.2.1, y62.2.2.2.2.2.2.2.2.2.2.2.2.2.2.2.1, y62.2.2.2.2.2.2.2.2.2.2.2.2.2.2.2.2⟩ : Sapi_Ent)]) 32) (some (y62.1, y62.2.1, y62.2.2.1, y62.2.2.2.1, y62.2.2.2.2.1, y62.2.2.2.2.2.1, y62.2.2.2.2.2.2.1, y62.2.2.2.2.2.2.2.1, y62.2.2.2.2.2.2.2.2.1 ++ [(⟨y62.2.2.2.2.2.2.2.2.2.2.2.2.2.1, y62.2.2.2.2.2.2.2.2.2.2.2.2.2.2.1, y62.2.2.2.2.2.2.2.2.2.2.2.2.2.2.2.1, y62.2.2.2.2.2.2.2.2.2.2.2.2.2.2.2.2⟩ : Sapi_Ent)], y62.2.2.2.2.2.2.2.2.2.1, y62.2.2.2.2.2.2.2.2.2.2.1, y62.2.2.2.2.2.2.2.2.2.2.2.1, y62.2.2.2.2.2.2.2.2.2.2.2.2.1)) none))) none))))) : Option (List Int × Int × Int × List Sapi_Ent × List Int × List Sapi_Who × List Int × List Sapi_Rule × List Sapi_Ent × List Int × List Sapi_Who × List Int × List Sapi_Rule)).bind fun y76 => (some (.inl (y76.1, y76.2.1, IntKind.wrap .i64 (y76.2.2.1 + 1), y76.2.2.2.1, y76.2.2.2.2.1, y76.2.2.2.2.2.1, y76.2.2.2.2.2.2.1, y76.2.2.2.2.2.2.2.1, y76.2.2.2.2.2.2.2.2.1, y76.2.2.2.2.2.2.2.2.2.1, y76.2.2.2.2.2.2.2.2.2.2.1, y76.2.2.2.2.2.2.2.2.2.2.2.1, y76.2.2.2.2.2.2.2.2.2.2.2.2)))) (some (.inr (x3, x9, x4, x5, x6, x7, x8, x10, x11, x12, x13, x14)))
noncomputable def pyxhand_Policy.l14.once (k : Nat) (x : (List Int × Int × Int × List Sapi_Ent × List Int × List Sapi_Who × List Int × List Sapi_Rule × List Sapi_Ent × List Int × List Sapi_Who × List Int × List Sapi_Rule)) : Option ((List Int × Int × Int × List Sapi_Ent × List Int × List Sapi_Who × List Int × List Sapi_Rule × List Sapi_Ent × List Int × List Sapi_Who × List Int × List Sapi_Rule) ⊕ ((List Int × Int × List Sapi_Ent × List Int × List Sapi_Who × List Int × List Sapi_Rule × List Sapi_Ent × List Int × List Sapi_Who × List Int × List Sapi_Rule))) := match x with | (x90, x96, x102, x91, x92, x93, x94, x95, x97, x98, x99, x100, x101) => (pyxhand_at.f k x90 17).bind fun t103 => ((pyxhand_Pick.f k t103 3).bind fun t104 => (cond (decide (x102 < t104)) ((((pyxhand_at.f k x90 (IntKind.wrap .i64 (18 + x102))).bind fun t105 => (cond (decide (IntKind.wrap .u64 (x96) < 0)) none ((pyxhand_Pick.f k t105 (IntKind.wrap .i64 (1 * 2 ^ (min (Int.toNat (IntKind.wrap .u64 (x96))) 64)))).bind fun t106 => (cond (decide ((IntKind.wrap .u64 (t106)) > 0)) (cond (okLen (List.length x98 + List.length [IntKind.wrap .u64 (t106)]) 8) (some (x90, x96, x102, x91, x92, x93, x94, x95, x97, x98 ++ [IntKind.wrap .u64 (t106)], x99, x100, x101)) none) (some (x90, x96, x102, x91, x92, x93, x94, x95, x97, x98, x99, x100, x101)))))) : Option (List Int × Int × Int × List Sapi_Ent × List Int × List Sapi_Who × List Int × List Sapi_Rule × List Sapi_Ent × List Int × List Sapi_Who × List Int × List Sapi_Rule)).bind fun y120 => (some (.inl (y120.1, y120.2.1, IntKind.wrap .i64 (y120.2.2.1 + 1), y120.2.2.2.1, y120.2.2.2.2.1, y120.2.2.2.2.2.1, y120.2.2.2.2.2.2.1, y120.2.2.2.2.2.2.2.1, y120.2.2.2.2.2.2.2.2.1, y120.2.2.2.2.2.2.2.2.2.1, y120.2.2.2.2.2.2.2.2.2.2.1, y120.2.2.2.2.2.2.2.2.2.2.2.1, y120.2.2.2.2.2.2.2.2.2.2.2.2)))) (some (.inr (x90, x96, x91, x92, x93, x94, x95, x97, x98, x99, x100, x101)))))
noncomputable def pyxhand_Policy.l22.once (k : Nat) (x : (List Int × Int × Int × List Sapi_Ent × List Int × List Sapi_Who × List Int × List Sapi_Rule × List Sapi_Ent × List Int × List Sapi_Who × List Int × List Sapi_Rule)) : Option ((List Int × Int × Int × List Sapi_Ent × List Int × List Sapi_Who × List Int × List Sapi_Rule × List Sapi_Ent × List Int × List Sapi_Who × List Int × List Sapi_Rule) ⊕ ((List Int × Int × List Sapi_Ent × List Int × List Sapi_Who × List Int × List Sapi_Rule × List Sapi_Ent × List Int × List Sapi_Who × List Int × List Sapi_Rule))) := match x with | (x138, x144, x150, x139, x140, x141, x142, x143, x145, x146, x147, x148, x149) => (pyxhand_at.f k x138 23).bind fun t151 => ((pyxhand_Pick.f k t151 3).bind fun t152 => (cond (decide (x150 < (IntKind.wrap .i64 (1 + t152)))) ((pyxhand_at.f k x138 (IntKind.wrap .i64 (24 + x150))).bind fun t153 => (cond (decide (IntKind.wrap .u64 (x144) < 0)) none ((pyxhand_Pick.f k t153 (IntKind.wrap .i64 (1 * 2 ^ (min (Int.toNat (IntKind.wrap .u64 (x144))) 64)))).bind fun t154 => ((pyxhand_at.f k x138 (IntKind.wrap .i64 (27 + x150))).bind fun t155 => ((pyxhand_Pick.f k t155 4).bind fun t156 => ((pyxhand_at.f k x138 (IntKind.wrap .i64 (30 + x150))).bind fun t157 => ((pyxhand_Pick.f k t157 16).bind fun t158 => (cond (okLen (List.length x147 + List.length [(⟨(⟨IntKind.wrap .u64 (t154), t156⟩ : Sapi_Label), IntKind.wrap .u64 (t158)⟩ : Sapi_Who)]) 24) (some (.inl (x138, x144, IntKind.wrap .i64 (x150 + 1), x139, x140, x141, x142, x143, x145, x146, x147 ++ [(⟨(⟨IntKind.wrap .u64 (t154), t156⟩ : Sapi_Label), IntKind.wrap .u64 (t158)⟩ : Sapi_Who)], x148, x149))) none)))))))) (some (.inr (x138, x144, x139, x140, x141, x142, x143, x145, x146, x147, x148, x149)))))
noncomputable def pyxhand_Policy.l26.once (k : Nat) (x : (List Int × Int × Int × List Sapi_Ent × List Int × List Sapi_Who × List Int × List Sapi_Rule × List Sapi_Ent × List Int × List Sapi_Who × List Int × List Sapi_Rule)) : Option ((List Int × Int × Int × List Sapi_Ent × List Int × List Sapi_Who × List Int × List Sapi_Rule × List Sapi_Ent × List Int × List Sapi_Who × List Int × List Sapi_Rule) ⊕ ((List Int × Int × List Sapi_Ent × List Int × List Sapi_Who × List Int × List Sapi_Rule × List Sapi_Ent × List Int × List Sapi_Who × List Int × List Sapi_Rule))) := match x with | (x172, x178, x184, x173, x174, x175, x176, x177, x179, x180, x181, x182, x183) => cond (decide (x184 ≤ 3)) ((pyxhand_at.f k x172 (IntKind.wrap .i64 (33 + x184))).bind fun t185 => ((pyxhand_Pick.f k t185 x178).bind fun t186 => (cond (okLen (List.length x183 + List.length [(⟨1, 0, x184, (-1), 0, 0, (⟨false, (0, 0), 0⟩ : Sapi_Dec), (⟨0, 0⟩ : Sapi_Label)⟩ : Sapi_Rule), (⟨1, 3, x184, t186, 0, 0, (⟨false, (0, 0), 0⟩ : Sapi_Dec), (⟨0, 0⟩ : Sapi_Label)⟩ : Sapi_Rule)]) 96) (some (.inl (x172, x178, IntKind.wrap .i64 (x184 + 1), x173, x174, x175, x176, x177, x179, x180, x181, x182, x183 ++ [(⟨1, 0, x184, (-1), 0, 0, (⟨false, (0, 0), 0⟩ : Sapi_Dec), (⟨0, 0⟩ : Sapi_Label)⟩ : Sapi_Rule), (⟨1, 3, x184, t186, 0, 0, (⟨false, (0, 0), 0⟩ : Sapi_Dec), (⟨0, 0⟩ : Sapi_Label)⟩ : Sapi_Rule)]))) none))) (some (.inr (x172, x178, x173, x174, x175, x176, x177, x179, x180, x181, x182, x183)))
noncomputable def pyxhand_Policy.l30.once (k : Nat) (x : (List Int × Int × Int × List Sapi_Ent × List Int × List Sapi_Who × List Int × List Sapi_Rule × List Sapi_Ent × List Int × List Sapi_Who × List Int × List Sapi_Rule)) : Option ((List Int × Int × Int × List Sapi_Ent × List Int × List Sapi_Who × List Int × List Sapi_Rule × List Sapi_Ent × List Int × List Sapi_Who × List Int × List Sapi_Rule) ⊕ ((List Int × Int × List Sapi_Ent × List Int × List Sapi_Who × List Int × List Sapi_Rule × List Sapi_Ent × List Int × List Sapi_Who × List Int × List Sapi_Rule))) := match x with | (x200, x206, x212, x201, x202, x203, x204, x205, x207, x208, x209, x210, x211) => (pyxhand_at.f k x200 37).bind fun t213 => ((pyxhand_Pick.f k t213 5).bind fun t214 => (cond (decide (x212 < t214)) ((pyxhand_at.f k x200 (IntKind.wrap .i64 (38 + x212))).bind fun t215 => ((pyxhand_Pick.f k t215 2).bind fun t216 => ((pyxhand_at.f k x200 (IntKind.wrap .i64 (42 + x212))).bind fun t217 => ((pyxhand_Pick.f k t217 2).bind fun t218 => ((pyxhand_at.f k x200 (IntKind.wrap .i64 (46 + x212))).bind fun t219 => ((pyxhand_Pick.f k t219 3).bind fun t220 => ((pyxhand_at.f k x200 (IntKind.wrap .i64 (50 + x212))).bind fun t221 => ((pyxhand_Pick.f k t221 (IntKind.wrap .i64 (x206 + 1))).bind fun t222 => (cond (okLen (List.length x211 + List.length [(⟨IntKind.wrap .i64 (1 + t216), IntKind.wrap .i64 (1 + t218), IntKind.wrap .i64 (1 + t220), IntKind.wrap .i64 (t222 - 1), 0, 0, (⟨false, (0, 0), 0⟩ : Sapi_Dec), (⟨0, 0⟩ : Sapi_Label)⟩ : Sapi_Rule)]) 96) (some (.inl (x200, x206, IntKind.wrap .i64 (x212 + 1), x201, x202, x203, x204, x205, x207, x208, x209, x210, x211 ++ [(⟨IntKind.wrap .i64 (1 + t216), IntKind.wrap .i64 (1 + t218), IntKind.wrap .i64 (1 + t220), IntKind.wrap .i64 (t222 - 1), 0, 0, (⟨false, (0, 0), 0⟩ : Sapi_Dec), (⟨0, 0⟩ : Sapi_Label)⟩ : Sapi_Rule)]))) none))))))))) (some (.inr (x200, x206, x201, x202, x203, x204, x205, x207, x208, x209, x210, x211)))))
noncomputable def pyxhand_Policy.l35.once (k : Nat) (x : (List Int × Int × Int × List Sapi_Ent × List Int × List Sapi_Who × List Int × List Sapi_Rule × List Sapi_Ent × List Int × List Sapi_Who × List Int × List Sapi_Rule)) : Option ((List Int × Int × Int × List Sapi_Ent × List Int × List Sapi_Who × List Int × List Sapi_Rule × List Sapi_Ent × List Int × List Sapi_Who × List Int × List Sapi_Rule) ⊕ ((List Sapi_Ent × List Int × List Sapi_Who × List Int × List Sapi_Rule × List Sapi_Ent × List Int × List Sapi_Who × List Int × List Sapi_Rule))) := match x with | (x236, x242, x248, x237, x238, x239, x240, x241, x243, x244, x245, x246, x247) => (pyxhand_at.f k x236 54).bind fun t249 => ((pyxhand_Pick.f k t249 3).bind fun t250 => (cond (decide (x248 < (IntKind.wrap .i64 (1 + t250)))) ((((pyxhand_at.f k x236 (IntKind.wrap .i64 (58 + x248))).bind fun t251 => ((pyxhand_Pick.f k t251 3).bind fun t252 => (((cond (t252 == 2) ((pyxhand_at.f k x236 (IntKind.wrap .i64 (61 + x248))).bind fun t253 => (cond (decide (IntKind.wrap .u64 (x242) < 0)) none ((pyxhand_Pick.f k t253 (IntKind.wrap .i64 (1 * 2 ^ (min (Int.toNat (IntKind.wrap .u64 (x242))) 64)))).bind fun t254 => ((pyxhand_at.f k x236 (IntKind.wrap .i64 (64 + x248))).bind fun t255 => ((pyxhand_Pick.f k t255 4).bind fun t256 => (some (x236, x242, x248, x237, x238, x239, x240, x241, x243, x244, x245, x246, x247, IntKind.wrap .u64 (t254), t256))))))) (some (x236, x242, x248, x237, x238, x239, x240, x241, x243, x244, x245, x246, x247, 0, 0))) : Option (List Int × Int × Int × List Sapi_Ent × List Int × List Sapi_Who × List Int × List Sapi_Rule × List Sapi_Ent × List Int × List Sapi_Who × List Int × List Sapi_Rule × Int × Int)).bind fun y272 => ((pyxhand_at.f k y272.1 (IntKind.wrap .i64 (67 + y272.2.2.1))).bind fun t273 => ((pyxhand_Pick.f k t273 4).bind fun t274 => ((pyxhand_at.f k y272.1 (IntKind.wrap .i64 (70 + y272.2.2.1))).bind fun t275 => ((pyxhand_Pick.f k t275 (List.length y272.2.2.2.2.2.2.2.2.2.1 : Int)).bind fun t276 => ((pyxhand_at.f k y272.1 (IntKind.wrap .i64 (73 + y272.2.2.1))).bind fun t277 => ((pyxhand_Pick.f k t277 6).bind fun t278 => ((pyxref1_Of.f k 1 0).bind fun t279 => ((pyxref1_Of.f k 100 0).bind fun t280 => ((pyxref1_Of.f k 5 1).bind fun t281 => ((pyxref1_Of.f k 2500 2).bind fun t282 => ((pyxhand_at.f k y272.1 (IntKind.wrap .i64 (76 + y272.2.2.1))).bind fun t283 => ((pyxhand_Pick.f k t283 4).bind fun t284 => (cond (inb t284 4) (cond (okLen (List.length y272.2.2.2.2.2.2.2.2.2.2.2.2.1 + List.length [(⟨3, IntKind.wrap .i64 ((if 1 < y272.2.2.1 then 1 else y272.2.2.1) * t274), 0, (-1), t276, t278, (⟨(List.getD [(⟨t279.f_Neg, (t279.f_C.1, t279.f_C.2), t279.f_Scale⟩ : Sapi_Dec), (⟨t280.f_Neg, (t280.f_C.1, t280.f_C.2), t280.f_Scale⟩ : Sapi_Dec), (⟨t281.f_Neg, (t281.f_C.1, t281.f_C.2), t281.f_Scale⟩ : Sapi_Dec), (⟨t282.f_Neg, (t282.f_C.1, t282.f_C.2), t282.f_Scale⟩ : Sapi_Dec)] (Int.toNat t284) Sapi_Dec.zero).f_Neg, (((List.getD [(⟨t279.f_Neg, (t279.f_C.1, t279.f_C.2), t279.f_Scale⟩ : Sapi_Dec), (⟨t280.f_Neg, (t280.f_C.1, t280.f_C.2), t280.f_Scale⟩ : Sapi_Dec), (⟨t281.f_Neg, (t281.f_C.1, t281.f_C.2), t281.f_Scale⟩ : Sapi_Dec), (⟨t282.f_Neg, (t282.f_C.1, t282.f_C.2), t282.f_Scale⟩ : Sapi_Dec)] (Int.toNat t284) Sapi_Dec.zero).f_C).1, ((List.getD [(⟨t279.f_Neg, (t279.f_C.1, t279.f_C.2), t279.f_Scale⟩ : Sapi_Dec), (⟨t280.f_Neg, (t280.f_C.1, t280.f_C.2), t280.f_Scale⟩ : Sapi_Dec), (⟨t281.f_Neg, (t281.f_C.1, t281.f_C.2), t281.f_Scale⟩ : Sapi_Dec), (⟨t282.f_Neg, (t282.f_C.1, t282.f_C.2), t282.f_Scale⟩ : Sapi_Dec)] (Int.toNat t284) Sapi_Dec.zero).f_C).2), (List.getD [(⟨t279.f_Neg, (t279.f_C.1, t279.f_C.2), t279.f_Scale⟩ : Sapi_Dec), (⟨t280.f_Neg, (t280.f_C.1, t280.f_C.2), t280.f_Scale⟩ : Sapi_Dec), (⟨t281.f_Neg, (t281.f_C.1, t281.f_C.2), t281.f_Scale⟩ : Sapi_Dec), (⟨t282.f_Neg, (t282.f_C.1, t282.f_C.2), t282.f_Scale⟩ : Sapi_Dec)] (Int.toNat t284) Sapi_Dec.zero).f_Scale⟩ : Sapi_Dec), (⟨y272.2.2.2.2.2.2.2.2.2.2.2.2.2.1, y272.2.2.2.2.2.2.2.2.2.2.2.2.2.2⟩ : Sapi_Label)⟩ : Sapi_Rule)]) 96) (some (y272.1, y272.2.1, y272.2.2.1, y272.2.2.2.1, y272.2.2.2.2.1, y272.2.2.2.2.2.1, y272.2.2.2.2.2.2.1, y272.2.2.2.2.2.2.2.1, y272.2.2.2.2.2.2.2.2.1, y272.2.2.2.2.2.2.2.2.2.1, y272.2.2.2.2.2.2.2.2.2.2.1, y272.2.2.2.2.2.2.2.2.2.2.2.1, y272.2.2.2.2.2.2.2.2.2.2.2.2.1 ++ [(⟨3, IntKind.wrap .i64 ((if 1 < y272.2.2.1 then 1 else y272.2.2.1) * t274), 0, (-1), t276, t278, (⟨(List.getD [(⟨t279.f_Neg, (t279.f_C.1, t279.f_C.2), t279.f_Scale⟩ : Sapi_Dec), (⟨t280.f_Neg, (t280.f_C.1, t280.f_C.2), t280.f_Scale⟩ : Sapi_Dec), (⟨t281.f_Neg, (t281.f_C.1, t281.f_C.2), t281.f_Scale⟩ : Sapi_Dec), (⟨t282.f_Neg, (t282.f_C.1, t282.f_C.2), t282.f_Scale⟩ : Sapi_Dec)] (Int.toNat t284) Sapi_Dec.zero).f_Neg, (((List.getD [(⟨t279.f_Neg, (t279.f_C.1, t279.f_C.2), t279.f_Scale⟩ : Sapi_Dec), (⟨t280.f_Neg, (t280.f_C.1, t280.f_C.2), t280.f_Scale⟩ : Sapi_Dec), (⟨t281.f_Neg, (t281.f_C.1, t281.f_C.2), t281.f_Scale⟩ : Sapi_Dec), (⟨t282.f_Neg, (t282.f_C.1, t282.f_C.2), t282.f_Scale⟩ : Sapi_Dec)] (Int.toNat t284) Sapi_Dec.zero).f_C).1, ((List.getD [(⟨t279.f_Neg, (t279.f_C.1, t279.f_C.2), t279.f_Scale⟩ : Sapi_Dec), (⟨t280.f_Neg, (t280.f_C.1, t280.f_C.2), t280.f_Scale⟩ : Sapi_Dec), (⟨t281.f_Neg, (t281.f_C.1, t281.f_C.2), t281.f_Scale⟩ : Sapi_Dec), (⟨t282.f_Neg, (t282.f_C.1, t282.f_C.2), t282.f_Scale⟩ : Sapi_Dec)] (Int.toNat t284) Sapi_Dec.zero).f_C).2), (List.getD [(⟨t279.f_Neg, (t279.f_C.1, t279.f_C.2), t279.f_Scale⟩ : Sapi_Dec), (⟨t280.f_Neg, (t280.f_C.1, t280.f_C.2), t280.f_Scale⟩ : Sapi_Dec), (⟨t281.f_Neg, (t281.f_C.1, t281.f_C.2), t281.f_Scale⟩ : Sapi_Dec), (⟨t282.f_Neg, (t282.f_C.1, t282.f_C.2), t282.f_Scale⟩ : Sapi_Dec)] (Int.toNat t284) Sapi_Dec.zero).f_Scale⟩ : Sapi_Dec), (⟨y272.2.2.2.2.2.2.2.2.2.2.2.2.2.1, y272.2.2.2.2.2.2.2.2.2.2.2.2.2.2⟩ : Sapi_Label)⟩ : Sapi_Rule)])) none) none)))))))))))))))) : Option (List Int × Int × Int × List Sapi_Ent × List Int × List Sapi_Who × List Int × List Sapi_Rule × List Sapi_Ent × List Int × List Sapi_Who × List Int × List Sapi_Rule)).bind fun y298 => (some (.inl (y298.1, y298.2.1, IntKind.wrap .i64 (y298.2.2.1 + 1), y298.2.2.2.1, y298.2.2.2.2.1, y298.2.2.2.2.2.1, y298.2.2.2.2.2.2.1, y298.2.2.2.2.2.2.2.1, y298.2.2.2.2.2.2.2.2.1, y298.2.2.2.2.2.2.2.2.2.1, y298.2.2.2.2.2.2.2.2.2.2.1, y298.2.2.2.2.2.2.2.2.2.2.2.1, y298.2.2.2.2.2.2.2.2.2.2.2.2)))) (some (.inr (x237, x238, x239, x240, x241, x243, x244, x245, x246, x247)))))
noncomputable def pyxhand_Policy.f (k : Nat) (a0 : List Int) : Option Sapi_Policy := (pyxhand_at.f k a0 0).bind fun t1 => ((pyxhand_Pick.f k t1 3).bind fun t2 => ((iter (pyxhand_Policy.l4.once k) k (a0, IntKind.wrap .i64 (2 + t2), 0, ([] : List Sapi_Ent), ([] : List Int), ([] : List Sapi_Who), ([] : List Int), ([] : List Sapi_Rule), ([] : List Sapi_Ent), ([] : List Int), ([] : List Sapi_Who), ([] : List Int), ([] : List Sapi_Rule))).bind fun y89 => (cond (decide (IntKind.wrap .u64 (y89.2.1) < 0)) none ((iter (pyxhand_Policy.l14.once k) k (y89.1, y89.2.1, 0, y89.2.2.1, y89.2.2.2.1, y89.2.2.2.2.1, y89.2.2.2.2.2.1, y89.2.2.2.2.2.2.1, y89.2.2.2.2.2.2.2.1, [IntKind.wrap .u64 ((IntKind.wrap .u64 (1 * 2 ^ (min (Int.toNat (IntKind.wrap .u64 (y89.2.1))) 64))) - 1)], y89.2.2.2.2.2.2.2.2.2.1, y89.2.2.2.2.2.2.2.2.2.2.1, y89.2.2.2.2.2.2.2.2.2.2.2)).bind fun y133 => ((pyxhand_at.f k y133.1 21).bind fun t134 => ((pyxhand_Pick.f k t134 2).bind fun t135 => ((pyxhand_at.f k y133.1 22).bind fun t136 => ((pyxhand_Pick.f k t136 3).bind fun t137 => ((iter (pyxhand_Policy.l22.once k) k (y133.1, y133.2.1, 0, y133.2.2.1, y133.2.2.2.1, y133.2.2.2.2.1, y133.2.2.2.2.2.1, y133.2.2.2.2.2.2.1, y133.2.2.2.2.2.2.2.1, y133.2.2.2.2.2.2.2.2.1, [(⟨(⟨255, 3⟩ : Sapi_Label), 1⟩ : Sapi_Who)], [(-1), IntKind.wrap .i64 ((-1) + t135), IntKind.wrap .i64 ((-1) + t137), (-1)], y133.2.2.2.2.2.2.2.2.2.2.2)).bind fun y171 => ((iter (pyxhand_Policy.l26.once k) k (y171.1, y171.2.1, 1, y171.2.2.1, y171.2.2.2.1, y171.2.2.2.2.1, y171.2.2.2.2.2.1, y171.2.2.2.2.2.2.1, y171.2.2.2.2.2.2.2.1, y171.2.2.2.2.2.2.2.2.1, y171.2.2.2.2.2.2.2.2.2.1, y171.2.2.2.2.2.2.2.2.2.2.1, y171.2.2.2.2.2.2.2.2.2.2.2)).bind fun y199 => ((iter (pyxhand_Policy.l30.once k) k (y199.1, y199.2.1, 0, y199.2.2.1, y199.2.2.2.1, y199.2.2.2.2.1, y199.2.2.2.2.2.1, y199.2.2.2.2.2.2.1, y199.2.2.2.2.2.2.2.1, y199.2.2.2.2.2.2.2.2.1, y199.2.2.2.2.2.2.2.2.2.1, y199.2.2.2.2.2.2.2.2.2.2.1, y199.2.2.2.2.2.2.2.2.2.2.2)).bind fun y235 => ((iter (pyxhand_Policy.l35.once k) k (y235.1, y235.2.1, 0, y235.2.2.1, y235.2.2.2.1, y235.2.2.2.2.1, y235.2.2.2.2.2.1, y235.2.2.2.2.2.2.1, y235.2.2.2.2.2.2.2.1, y235.2.2.2.2.2.2.2.2.1, y235.2.2.2.2.2.2.2.2.2.1, y235.2.2.2.2.2.2.2.2.2.2.1, y235.2.2.2.2.2.2.2.2.2.2.2)).bind fun y309 => (some (⟨y309.2.2.2.2.2.1, y309.2.2.2.2.2.2.1, y309.2.2.2.2.2.2.2.1, y309.2.2.2.2.2.2.2.2.1, y309.2.2.2.2.2.2.2.2.2⟩ : Sapi_Policy))))))))))))))
noncomputable def pyxhand_Policy.un (s : St U) : Option (List Int) := match s.get 0 with | .row C.i64 x1 => some x1 | _ => none
noncomputable def pyxhand_Policy.mk (x : List Int) : St U := ⟨[(0, .row C.i64 x)], []⟩
noncomputable def pyxhand_Policy.fin (y : Sapi_Policy) : St U := ⟨[(0, .agg [.row C.Sapi_Ent y.f_Ents, .row C.u64 y.f_Groups, .row C.Sapi_Who y.f_Who, .row C.i64 y.f_Up, .row C.Sapi_Rule y.f_Rules])], []⟩
noncomputable def pyxhand_Policy.D (k : Nat) : FDen U := { X := List Int, Y := Sapi_Policy, nt := 279, gh := [], un := pyxhand_Policy.un, f := fun x => pyxhand_Policy.f k (x), fin := pyxhand_Policy.fin, cl := true, clo := fun _ _ => rfl }
noncomputable def pyxhand_Policy.re (s : St U) : Option Sapi_Policy := match s.get 0 with | .agg [.row C.Sapi_Ent x1, .row C.u64 x2, .row C.Sapi_Who x3, .row C.i64 x4, .row C.Sapi_Rule x5] => some (⟨x1, x2, x3, x4, x5⟩ : Sapi_Policy) | _ => none
noncomputable def pyxhand_Policy.l4.mk (x : (List Int × Int × Int × List Sapi_Ent × List Int × List Sapi_Who × List Int × List Sapi_Rule × List Sapi_Ent × List Int × List Sapi_Who × List Int × List Sapi_Rule)) : St U := match x with | (x3, x9, x15, x4, x5, x6, x7, x8, x10, x11, x12, x13, x14) => ⟨[(2, .ptr 2 0), (4, .ptr 4 0), (0, .row C.i64 x3), (3, .flat (.int .i64 x9)), (5, .flat (.int .i64 x15))], [(2, .lit [.tip 2000400200 C.Sapi_Ent x4, .tip 2000400201 C.u64 x5, .tip 2000400202 C.Sapi_Who x6, .tip 2000400203 C.i64 x7, .tip 2000400204 C.Sapi_Rule x8]), (2000400200, .tip 4), (2000400201, .tip 1), (2000400202, .tip 3), (2000400203, .tip 1), (2000400204, .tip 12), (4, .lit [.tip 2000400400 C.Sapi_Ent x10, .tip 2000400401 C.u64 x11, .tip 2000400402 C.Sapi_Who x12, .tip 2000400403 C.i64 x13, .tip 2000400404 C.Sapi_Rule x14]), (2000400400, .tip 4), (2000400401, .tip 1), (2000400402, .tip 3), (2000400403, .tip 1), (2000400404, .tip 12)]⟩
noncomputable def pyxhand_Policy.l4.un (s : St U) : Option (List Int × Int × Int × List Sapi_Ent × List Int × List Sapi_Who × List Int × List Sapi_Rule × List Sapi_Ent × List Int × List Sapi_Who × List Int × List Sapi_Rule) := (row_i64 (s.get 0)).bind fun q0 => (match s.get 2, s.get 4, s.get 3, s.get 5, lk s.o 2, lk s.o 4 with | .ptr 2 0, .ptr 4 0, .flat (.int .i64 x9), .flat (.int .i64 x15), some (.lit [u2_0, u2_1, u2_2, u2_3, u2_4]), some (.lit [u4_0, u4_1, u4_2, u4_3, u4_4]) => (tip_Sapi_Ent s.o 4 u2_0).bind fun w2_0 => ((tip_u64 s.o 1 u2_1).bind fun w2_1 => ((tip_Sapi_Who s.o 3 u2_2).bind fun w2_2 => ((tip_i64 s.o 1 u2_3).bind fun w2_3 => ((tip_Sapi_Rule s.o 12 u2_4).bind fun w2_4 => ((tip_Sapi_Ent s.o 4 u4_0).bind fun w4_0 => ((tip_u64 s.o 1 u4_1).bind fun w4_1 => ((tip_Sapi_Who s.o 3 u4_2).bind fun w4_2 => ((tip_i64 s.o 1 u4_3).bind fun w4_3 => ((tip_Sapi_Rule s.o 12 u4_4).bind fun w4_4 => (cond (apart [w2_0.1, w2_1.1, w2_2.1, w2_3.1, w2_4.1, w4_0.1, w4_1.1, w4_2.1, w4_3.1, w4_4.1]) (some (q0, x9, x15, w2_0.2, w2_1.2, w2_2.2, w2_3.2, w2_4.2, w4_0.2, w4_1.2, w4_2.2, w4_3.2, w4_4.2)) none)))))))))) | _, _, _, _, _, _ => none)
noncomputable def pyxhand_Policy.l4.fin (y : (List Int × Int × List Sapi_Ent × List Int × List Sapi_Who × List Int × List Sapi_Rule × List Sapi_Ent × List Int × List Sapi_Who × List Int × List Sapi_Rule)) : Out U := match y with | (x77, x83, x78, x79, x80, x81, x82, x84, x85, x86, x87, x88) => .exit 0 ⟨[(2, .ptr 2 0), (4, .ptr 4 0), (0, .row C.i64 x77), (3, .flat (.int .i64 x83))], [(2, .lit [.tip 2000400200 C.Sapi_Ent x78, .tip 2000400201 C.u64 x79, .tip 2000400202 C.Sapi_Who x80, .tip 2000400203 C.i64 x81, .tip 2000400204 C.Sapi_Rule x82]), (2000400200, .tip 4), (2000400201, .tip 1), (2000400202, .tip 3), (2000400203, .tip 1), (2000400204, .tip 12), (4, .lit [.tip 2000400400 C.Sapi_Ent x84, .tip 2000400401 C.u64 x85, .tip 2000400402 C.Sapi_Who x86, .tip 2000400403 C.i64 x87, .tip 2000400404 C.Sapi_Rule x88]), (2000400400, .tip 4), (2000400401, .tip 1), (2000400402, .tip 3), (2000400403, .tip 1), (2000400404, .tip 12)]⟩
noncomputable def pyxhand_Policy.l4.finK {ρ : Type} (y : (List Int × Int × List Sapi_Ent × List Int × List Sapi_Who × List Int × List Sapi_Rule × List Sapi_Ent × List Int × List Sapi_Who × List Int × List Sapi_Rule)) (K : Out U → Option ρ) : Option ρ := match y with | (x77, x83, x78, x79, x80, x81, x82, x84, x85, x86, x87, x88) => K (.exit 0 ⟨[(2, .ptr 2 0), (4, .ptr 4 0), (0, .row C.i64 x77), (3, .flat (.int .i64 x83))], [(2, .lit [.tip 2000400200 C.Sapi_Ent x78, .tip 2000400201 C.u64 x79, .tip 2000400202 C.Sapi_Who x80, .tip 2000400203 C.i64 x81, .tip 2000400204 C.Sapi_Rule x82]), (2000400200, .tip 4), (2000400201, .tip 1), (2000400202, .tip 3), (2000400203, .tip 1), (2000400204, .tip 12), (4, .lit [.tip 2000400400 C.Sapi_Ent x84, .tip 2000400401 C.u64 x85, .tip 2000400402 C.Sapi_Who x86, .tip 2000400403 C.i64 x87, .tip 2000400404 C.Sapi_Rule x88]), (2000400400, .tip 4), (2000400401, .tip 1), (2000400402, .tip 3), (2000400403, .tip 1), (2000400404, .tip 12)]⟩)
theorem pyxhand_Policy.l4.finK_eq {ρ : Type} (y : (List Int × Int × List Sapi_Ent × List Int × List Sapi_Who × List Int × List Sapi_Rule × List Sapi_Ent × List Int × List Sapi_Who × List Int × List Sapi_Rule)) (K : Out U → Option ρ) : pyxhand_Policy.l4.finK y K = K (pyxhand_Policy.l4.fin y) := by
  unfold pyxhand_Policy.l4.finK pyxhand_Policy.l4.fin
  first | rfl | (split <;> rfl)
noncomputable def pyxhand_Policy.l4.re : Out U → Option ((List Int × Int × List Sapi_Ent × List Int × List Sapi_Who × List Int × List Sapi_Rule × List Sapi_Ent × List Int × List Sapi_Who × List Int × List Sapi_Rule)) | .exit 0 s => ((row_i64 (s.get 0)).bind fun q0 => (match s.get 2, s.get 4, s.get 3, lk s.o 2, lk s.o 4 with | .ptr 2 0, .ptr 4 0, .flat (.int .i64 x83), some (.lit [u2_0, u2_1, u2_2, u2_3, u2_4]), some (.lit [u4_0, u4_1, u4_2, u4_3, u4_4]) => (tip_Sapi_Ent s.o 4 u2_0).bind fun w2_0 => ((tip_u64 s.o 1 u2_1).bind fun w2_1 => ((tip_Sapi_Who s.o 3 u2_2).bind fun w2_2 => ((tip_i64 s.o 1 u2_3).bind fun w2_3 => ((tip_Sapi_Rule s.o 12 u2_4).bind fun w2_4 => ((tip_Sapi_Ent s.o 4 u4_0).bind fun w4_0 => ((tip_u64 s.o 1 u4_1).bind fun w4_1 => ((tip_Sapi_Who s.o 3 u4_2).bind fun w4_2 => ((tip_i64 s.o 1 u4_3).bind fun w4_3 => ((tip_Sapi_Rule s.o 12 u4_4).bind fun w4_4 => (cond (apart [w2_0.1, w2_1.1, w2_2.1, w2_3.1, w2_4.1, w4_0.1, w4_1.1, w4_2.1, w4_3.1, w4_4.1]) (some (q0, x83, w2_0.2, w2_1.2, w2_2.2, w2_3.2, w2_4.2, w4_0.2, w4_1.2, w4_2.2, w4_3.2, w4_4.2)) none)))))))))) | _, _, _, _, _ => none)) | _ => none
noncomputable def pyxhand_Policy.l4.L (k : Nat) : LDen U := { X := (List Int × Int × Int × List Sapi_Ent × List Int × List Sapi_Who × List Int × List Sapi_Rule × List Sapi_Ent × List Int × List Sapi_Who × List Int × List Sapi_Rule), Y := (List Int × Int × List Sapi_Ent × List Int × List Sapi_Who × List Int × List Sapi_Rule × List Sapi_Ent × List Int × List Sapi_Who × List Int × List Sapi_Rule), un := pyxhand_Policy.l4.un, f := iter (pyxhand_Policy.l4.once k) k, fin := pyxhand_Policy.l4.fin, finK := pyxhand_Policy.l4.finK, finK_eq := pyxhand_Policy.l4.finK_eq }
noncomputable def pyxhand_Policy.l14.mk (x : (List Int × Int × Int × List Sapi_Ent × List Int × List Sapi_Who × List Int × List Sapi_Rule × List Sapi_Ent × List Int × List Sapi_Who × List Int × List Sapi_Rule)) : St U := match x with | (x90, x96, x102, x91, x92, x93, x94, x95, x97, x98, x99, x100, x101) => ⟨[(2, .ptr 2 0), (4, .ptr 4 0), (0, .row C.i64 x90), (3, .flat (.int .i64 x96)), (8, .flat (.int .i64 x102))], [(2, .lit [.tip 2001400200 C.Sapi_Ent x91, .tip 2001400201 C.u64 x92, .tip 2001400202 C.Sapi_Who x93, .tip 2001400203 C.i64 x94, .tip 2001400204 C.Sapi_Rule x95]), (2001400200, .tip 4), (2001400201, .tip 1), (2001400202, .tip 3), (2001400203, .tip 1), (2001400204, .tip 12), (4, .lit [.tip 2001400400 C.Sapi_Ent x97, .tip 2001400401 C.u64 x98, .tip 2001400402 C.Sapi_Who x99, .tip 2001400403 C.i64 x100, .tip 2001400404 C.Sapi_Rule x101]), (2001400400, .tip 4), (2001400401, .tip 1), (2001400402, .tip 3), (2001400403, .tip 1), (2001400404, .tip 12)]⟩
noncomputable def pyxhand_Policy.l14.un (s : St U) : Option (List Int × Int × Int × List Sapi_Ent × List Int × List Sapi_Who × List Int × List Sapi_Rule × List Sapi_Ent × List Int × List Sapi_Who × List Int × List Sapi_Rule) := (row_i64 (s.get 0)).bind fun q0 => (match s.get 2, s.get 4, s.get 3, s.get 8, lk s.o 2, lk s.o 4 with | .ptr 2 0, .ptr 4 0, .flat (.int .i64 x96), .flat (.int .i64 x102), some (.lit [u2_0, u2_1, u2_2, u2_3, u2_4]), some (.lit [u4_0, u4_1, u4_2, u4_3, u4_4]) => (tip_Sapi_Ent s.o 4 u2_0).bind fun w2_0 => ((tip_u64 s.o 1 u2_1).bind fun w2_1 => ((tip_Sapi_Who s.o 3 u2_2).bind fun w2_2 => ((tip_i64 s.o 1 u2_3).bind fun w2_3 => ((tip_Sapi_Rule s.o 12 u2_4).bind fun w2_4 => ((tip_Sapi_Ent s.o 4 u4_0).bind fun w4_0 => ((tip_u64 s.o 1 u4_1).bind fun w4_1 => ((tip_Sapi_Who s.o 3 u4_2).bind fun w4_2 => ((tip_i64 s.o 1 u4_3).bind fun w4_3 => ((tip_Sapi_Rule s.o 12 u4_4).bind fun w4_4 => (cond (apart [w2_0.1, w2_1.1, w2_2.1, w2_3.1, w2_4.1, w4_0.1, w4_1.1, w4_2.1, w4_3.1, w4_4.1]) (some (q0, x96, x102, w2_0.2, w2_1.2, w2_2.2, w2_3.2, w2_4.2, w4_0.2, w4_1.2, w4_2.2, w4_3.2, w4_4.2)) none)))))))))) | _, _, _, _, _, _ => none)
noncomputable def pyxhand_Policy.l14.fin (y : (List Int × Int × List Sapi_Ent × List Int × List Sapi_Who × List Int × List Sapi_Rule × List Sapi_Ent × List Int × List Sapi_Who × List Int × List Sapi_Rule)) : Out U := match y with | (x121, x127, x122, x123, x124, x125, x126, x128, x129, x130, x131, x132) => .exit 2 ⟨[(2, .ptr 2 0), (4, .ptr 4 0), (0, .row C.i64 x121), (3, .flat (.int .i64 x127))], [(2, .lit [.tip 2001400200 C.Sapi_Ent x122, .tip 2001400201 C.u64 x123, .tip 2001400202 C.Sapi_Who x124, .tip 2001400203 C.i64 x125, .tip 2001400204 C.Sapi_Rule x126]), (2001400200, .tip 4), (2001400201, .tip 1), (2001400202, .tip 3), (2001400203, .tip 1), (2001400204, .tip 12), (4, .lit [.tip 2001400400 C.Sapi_Ent x128, .tip 2001400401 C.u64 x129, .tip 2001400402 C.Sapi_Who x130, .tip 2001400403 C.i64 x131, .tip 2001400404 C.Sapi_Rule x132]), (2001400400, .tip 4), (2001400401, .tip 1), (2001400402, .tip 3), (2001400403, .tip 1), (2001400404, .tip 12)]⟩
noncomputable def pyxhand_Policy.l14.finK {ρ : Type} (y : (List Int × Int × List Sapi_Ent × List Int × List Sapi_Who × List Int × List Sapi_Rule × List Sapi_Ent × List Int × List Sapi_Who × List Int × List Sapi_Rule)) (K : Out U → Option ρ) : Option ρ := match y with | (x121, x127, x122, x123, x124, x125, x126, x128, x129, x130, x131, x132) => K (.exit 2 ⟨[(2, .ptr 2 0), (4, .ptr 4 0), (0, .row C.i64 x121), (3, .flat (.int .i64 x127))], [(2, .lit [.tip 2001400200 C.Sapi_Ent x122, .tip 2001400201 C.u64 x123, .tip 2001400202 C.Sapi_Who x124, .tip 2001400203 C.i64 x125, .tip 2001400204 C.Sapi_Rule x126]), (2001400200, .tip 4), (2001400201, .tip 1), (2001400202, .tip 3), (2001400203, .tip 1), (2001400204, .tip 12), (4, .lit [.tip 2001400400 C.Sapi_Ent x128, .tip 2001400401 C.u64 x129, .tip 2001400402 C.Sapi_Who x130, .tip 2001400403 C.i64 x131, .tip 2001400404 C.Sapi_Rule x132]), (2001400400, .tip 4), (2001400401, .tip 1), (2001400402, .tip 3), (2001400403, .tip 1), (2001400404, .tip 12)]⟩)
theorem pyxhand_Policy.l14.finK_eq {ρ : Type} (y : (List Int × Int × List Sapi_Ent × List Int × List Sapi_Who × List Int × List Sapi_Rule × List Sapi_Ent × List Int × List Sapi_Who × List Int × List Sapi_Rule)) (K : Out U → Option ρ) : pyxhand_Policy.l14.finK y K = K (pyxhand_Policy.l14.fin y) := by
  unfold pyxhand_Policy.l14.finK pyxhand_Policy.l14.fin
  first | rfl | (split <;> rfl)
noncomputable def pyxhand_Policy.l14.re : Out U → Option ((List Int × Int × List Sapi_Ent × List Int × List Sapi_Who × List Int × List Sapi_Rule × List Sapi_Ent × List Int × List Sapi_Who × List Int × List Sapi_Rule)) | .exit 2 s => ((row_i64 (s.get 0)).bind fun q0 => (match s.get 2, s.get 4, s.get 3, lk s.o 2, lk s.o 4 with | .ptr 2 0, .ptr 4 0, .flat (.int .i64 x127), some (.lit [u2_0, u2_1, u2_2, u2_3, u2_4]), some (.lit [u4_0, u4_1, u4_2, u4_3, u4_4]) => (tip_Sapi_Ent s.o 4 u2_0).bind fun w2_0 => ((tip_u64 s.o 1 u2_1).bind fun w2_1 => ((tip_Sapi_Who s.o 3 u2_2).bind fun w2_2 => ((tip_i64 s.o 1 u2_3).bind fun w2_3 => ((tip_Sapi_Rule s.o 12 u2_4).bind fun w2_4 => ((tip_Sapi_Ent s.o 4 u4_0).bind fun w4_0 => ((tip_u64 s.o 1 u4_1).bind fun w4_1 => ((tip_Sapi_Who s.o 3 u4_2).bind fun w4_2 => ((tip_i64 s.o 1 u4_3).bind fun w4_3 => ((tip_Sapi_Rule s.o 12 u4_4).bind fun w4_4 => (cond (apart [w2_0.1, w2_1.1, w2_2.1, w2_3.1, w2_4.1, w4_0.1, w4_1.1, w4_2.1, w4_3.1, w4_4.1]) (some (q0, x127, w2_0.2, w2_1.2, w2_2.2, w2_3.2, w2_4.2, w4_0.2, w4_1.2, w4_2.2, w4_3.2, w4_4.2)) none)))))))))) | _, _, _, _, _ => none)) | _ => none
noncomputable def pyxhand_Policy.l14.L (k : Nat) : LDen U := { X := (List Int × Int × Int × List Sapi_Ent × List Int × List Sapi_Who × List Int × List Sapi_Rule × List Sapi_Ent × List Int × List Sapi_Who × List Int × List Sapi_Rule), Y := (List Int × Int × List Sapi_Ent × List Int × List Sapi_Who × List Int × List Sapi_Rule × List Sapi_Ent × List Int × List Sapi_Who × List Int × List Sapi_Rule), un := pyxhand_Policy.l14.un, f := iter (pyxhand_Policy.l14.once k) k, fin := pyxhand_Policy.l14.fin, finK := pyxhand_Policy.l14.finK, finK_eq := pyxhand_Policy.l14.finK_eq }
noncomputable def pyxhand_Policy.l22.mk (x : (List Int × Int × Int × List Sapi_Ent × List Int × List Sapi_Who × List Int × List Sapi_Rule × List Sapi_Ent × List Int × List Sapi_Who × List Int × List Sapi_Rule)) : St U := match x with | (x138, x144, x150, x139, x140, x141, x142, x143, x145, x146, x147, x148, x149) => ⟨[(2, .ptr 2 0), (4, .ptr 4 0), (0, .row C.i64 x138), (3, .flat (.int .i64 x144)), (10, .flat (.int .i64 x150))], [(2, .lit [.tip 2002200200 C.Sapi_Ent x139, .tip 2002200201 C.u64 x140, .tip 2002200202 C.Sapi_Who x141, .tip 2002200203 C.i64 x142, .tip 2002200204 C.Sapi_Rule x143]), (2002200200, .tip 4), (2002200201, .tip 1), (2002200202, .tip 3), (2002200203, .tip 1), (2002200204, .tip 12), (4, .lit [.tip 2002200400 C.Sapi_Ent x145, .tip 2002200401 C.u64 x146, .tip 2002200402 C.Sapi_Who x147, .tip 2002200403 C.i64 x148, .tip 2002200404 C.Sapi_Rule x149]), (2002200400, .tip 4), (2002200401, .tip 1), (2002200402, .tip 3), (2002200403, .tip 1), (2002200404, .tip 12)]⟩
noncomputable def pyxhand_Policy.l22.un (s : St U) : Option (List Int × Int × Int × List Sapi_Ent × List Int × List Sapi_Who × List Int × List Sapi_Rule × List Sapi_Ent × List Int × List Sapi_Who × List Int × List Sapi_Rule) := (row_i64 (s.get 0)).bind fun q0 => (match s.get 2, s.get 4, s.get 3, s.get 10, lk s.o 2, lk s.o 4 with | .ptr 2 0, .ptr 4 0, .flat (.int .i64 x144), .flat (.int .i64 x150), some (.lit [u2_0, u2_1, u2_2, u2_3, u2_4]), some (.lit [u4_0, u4_1, u4_2, u4_3, u4_4]) => (tip_Sapi_Ent s.o 4 u2_0).bind fun w2_0 => ((tip_u64 s.o 1 u2_1).bind fun w2_1 => ((tip_Sapi_Who s.o 3 u2_2).bind fun w2_2 => ((tip_i64 s.o 1 u2_3).bind fun w2_3 => ((tip_Sapi_Rule s.o 12 u2_4).bind fun w2_4 => ((tip_Sapi_Ent s.o 4 u4_0).bind fun w4_0 => ((tip_u64 s.o 1 u4_1).bind fun w4_1 => ((tip_Sapi_Who s.o 3 u4_2).bind fun w4_2 => ((tip_i64 s.o 1 u4_3).bind fun w4_3 => ((tip_Sapi_Rule s.o 12 u4_4).bind fun w4_4 => (cond (apart [w2_0.1, w2_1.1, w2_2.1, w2_3.1, w2_4.1, w4_0.1, w4_1.1, w4_2.1, w4_3.1, w4_4.1]) (some (q0, x144, x150, w2_0.2, w2_1.2, w2_2.2, w2_3.2, w2_4.2, w4_0.2, w4_1.2, w4_2.2, w4_3.2, w4_4.2)) none)))))))))) | _, _, _, _, _, _ => none)
noncomputable def pyxhand_Policy.l22.fin (y : (List Int × Int × List Sapi_Ent × List Int × List Sapi_Who × List Int × List Sapi_Rule × List Sapi_Ent × List Int × List Sapi_Who × List Int × List Sapi_Rule)) : Out U := match y with | (x159, x165, x160, x161, x162, x163, x164, x166, x167, x168, x169, x170) => .exit 4 ⟨[(2, .ptr 2 0), (4, .ptr 4 0), (0, .row C.i64 x159), (3, .flat (.int .i64 x165))], [(2, .lit [.tip 2002200200 C.Sapi_Ent x160, .tip 2002200201 C.u64 x161, .tip 2002200202 C.Sapi_Who x162, .tip 2002200203 C.i64 x163, .tip 2002200204 C.Sapi_Rule x164]), (2002200200, .tip 4), (2002200201, .tip 1), (2002200202, .tip 3), (2002200203, .tip 1), (2002200204, .tip 12), (4, .lit [.tip 2002200400 C.Sapi_Ent x166, .tip 2002200401 C.u64 x167, .tip 2002200402 C.Sapi_Who x168, .tip 2002200403 C.i64 x169, .tip 2002200404 C.Sapi_Rule x170]), (2002200400, .tip 4), (2002200401, .tip 1), (2002200402, .tip 3), (2002200403, .tip 1), (2002200404, .tip 12)]⟩
noncomputable def pyxhand_Policy.l22.finK {ρ : Type} (y : (List Int × Int × List Sapi_Ent × List Int × List Sapi_Who × List Int × List Sapi_Rule × List Sapi_Ent × List Int × List Sapi_Who × List Int × List Sapi_Rule)) (K : Out U → Option ρ) : Option ρ := match y with | (x159, x165, x160, x161, x162, x163, x164, x166, x167, x168, x169, x170) => K (.exit 4 ⟨[(2, .ptr 2 0), (4, .ptr 4 0), (0, .row C.i64 x159), (3, .flat (.int .i64 x165))], [(2, .lit [.tip 2002200200 C.Sapi_Ent x160, .tip 2002200201 C.u64 x161, .tip 2002200202 C.Sapi_Who x162, .tip 2002200203 C.i64 x163, .tip 2002200204 C.Sapi_Rule x164]), (2002200200, .tip 4), (2002200201, .tip 1), (2002200202, .tip 3), (2002200203, .tip 1), (2002200204, .tip 12), (4, .lit [.tip 2002200400 C.Sapi_Ent x166, .tip 2002200401 C.u64 x167, .tip 2002200402 C.Sapi_Who x168, .tip 2002200403 C.i64 x169, .tip 2002200404 C.Sapi_Rule x170]), (2002200400, .tip 4), (2002200401, .tip 1), (2002200402, .tip 3), (2002200403, .tip 1), (2002200404, .tip 12)]⟩)
theorem pyxhand_Policy.l22.finK_eq {ρ : Type} (y : (List Int × Int × List Sapi_Ent × List Int × List Sapi_Who × List Int × List Sapi_Rule × List Sapi_Ent × List Int × List Sapi_Who × List Int × List Sapi_Rule)) (K : Out U → Option ρ) : pyxhand_Policy.l22.finK y K = K (pyxhand_Policy.l22.fin y) := by
  unfold pyxhand_Policy.l22.finK pyxhand_Policy.l22.fin
  first | rfl | (split <;> rfl)
noncomputable def pyxhand_Policy.l22.re : Out U → Option ((List Int × Int × List Sapi_Ent × List Int × List Sapi_Who × List Int × List Sapi_Rule × List Sapi_Ent × List Int × List Sapi_Who × List Int × List Sapi_Rule)) | .exit 4 s => ((row_i64 (s.get 0)).bind fun q0 => (match s.get 2, s.get 4, s.get 3, lk s.o 2, lk s.o 4 with | .ptr 2 0, .ptr 4 0, .flat (.int .i64 x165), some (.lit [u2_0, u2_1, u2_2, u2_3, u2_4]), some (.lit [u4_0, u4_1, u4_2, u4_3, u4_4]) => (tip_Sapi_Ent s.o 4 u2_0).bind fun w2_0 => ((tip_u64 s.o 1 u2_1).bind fun w2_1 => ((tip_Sapi_Who s.o 3 u2_2).bind fun w2_2 => ((tip_i64 s.o 1 u2_3).bind fun w2_3 => ((tip_Sapi_Rule s.o 12 u2_4).bind fun w2_4 => ((tip_Sapi_Ent s.o 4 u4_0).bind fun w4_0 => ((tip_u64 s.o 1 u4_1).bind fun w4_1 => ((tip_Sapi_Who s.o 3 u4_2).bind fun w4_2 => ((tip_i64 s.o 1 u4_3).bind fun w4_3 => ((tip_Sapi_Rule s.o 12 u4_4).bind fun w4_4 => (cond (apart [w2_0.1, w2_1.1, w2_2.1, w2_3.1, w2_4.1, w4_0.1, w4_1.1, w4_2.1, w4_3.1, w4_4.1]) (some (q0, x165, w2_0.2, w2_1.2, w2_2.2, w2_3.2, w2_4.2, w4_0.2, w4_1.2, w4_2.2, w4_3.2, w4_4.2)) none)))))))))) | _, _, _, _, _ => none)) | _ => none
noncomputable def pyxhand_Policy.l22.L (k : Nat) : LDen U := { X := (List Int × Int × Int × List Sapi_Ent × List Int × List Sapi_Who × List Int × List Sapi_Rule × List Sapi_Ent × List Int × List Sapi_Who × List Int × List Sapi_Rule), Y := (List Int × Int × List Sapi_Ent × List Int × List Sapi_Who × List Int × List Sapi_Rule × List Sapi_Ent × List Int × List Sapi_Who × List Int × List Sapi_Rule), un := pyxhand_Policy.l22.un, f := iter (pyxhand_Policy.l22.once k) k, fin := pyxhand_Policy.l22.fin, finK := pyxhand_Policy.l22.finK, finK_eq := pyxhand_Policy.l22.finK_eq }
noncomputable def pyxhand_Policy.l26.mk (x : (List Int × Int × Int × List Sapi_Ent × List Int × List Sapi_Who × List Int × List Sapi_Rule × List Sapi_Ent × List Int × List Sapi_Who × List Int × List Sapi_Rule)) : St U := match x with | (x172, x178, x184, x173, x174, x175, x176, x177, x179, x180, x181, x182, x183) => ⟨[(2, .ptr 2 0), (4, .ptr 4 0), (0, .row C.i64 x172), (3, .flat (.int .i64 x178)), (11, .flat (.int .i64 x184))], [(2, .lit [.tip 2002600200 C.Sapi_Ent x173, .tip 2002600201 C.u64 x174, .tip 2002600202 C.Sapi_Who x175, .tip 2002600203 C.i64 x176, .tip 2002600204 C.Sapi_Rule x177]), (2002600200, .tip 4), (2002600201, .tip 1), (2002600202, .tip 3), (2002600203, .tip 1), (2002600204, .tip 12), (4, .lit [.tip 2002600400 C.Sapi_Ent x179, .tip 2002600401 C.u64 x180, .tip 2002600402 C.Sapi_Who x181, .tip 2002600403 C.i64 x182, .tip 2002600404 C.Sapi_Rule x183]), (2002600400, .tip 4), (2002600401, .tip 1), (2002600402, .tip 3), (2002600403, .tip 1), (2002600404, .tip 12)]⟩
noncomputable def pyxhand_Policy.l26.un (s : St U) : Option (List Int × Int × Int × List Sapi_Ent × List Int × List Sapi_Who × List Int × List Sapi_Rule × List Sapi_Ent × List Int × List Sapi_Who × List Int × List Sapi_Rule) := (row_i64 (s.get 0)).bind fun q0 => (match s.get 2, s.get 4, s.get 3, s.get 11, lk s.o 2, lk s.o 4 with | .ptr 2 0, .ptr 4 0, .flat (.int .i64 x178), .flat (.int .i64 x184), some (.lit [u2_0, u2_1, u2_2, u2_3, u2_4]), some (.lit [u4_0, u4_1, u4_2, u4_3, u4_4]) => (tip_Sapi_Ent s.o 4 u2_0).bind fun w2_0 => ((tip_u64 s.o 1 u2_1).bind fun w2_1 => ((tip_Sapi_Who s.o 3 u2_2).bind fun w2_2 => ((tip_i64 s.o 1 u2_3).bind fun w2_3 => ((tip_Sapi_Rule s.o 12 u2_4).bind fun w2_4 => ((tip_Sapi_Ent s.o 4 u4_0).bind fun w4_0 => ((tip_u64 s.o 1 u4_1).bind fun w4_1 => ((tip_Sapi_Who s.o 3 u4_2).bind fun w4_2 => ((tip_i64 s.o 1 u4_3).bind fun w4_3 => ((tip_Sapi_Rule s.o 12 u4_4).bind fun w4_4 => (cond (apart [w2_0.1, w2_1.1, w2_2.1, w2_3.1, w2_4.1, w4_0.1, w4_1.1, w4_2.1, w4_3.1, w4_4.1]) (some (q0, x178, x184, w2_0.2, w2_1.2, w2_2.2, w2_3.2, w2_4.2, w4_0.2, w4_1.2, w4_2.2, w4_3.2, w4_4.2)) none)))))))))) | _, _, _, _, _, _ => none)
noncomputable def pyxhand_Policy.l26.fin (y : (List Int × Int × List Sapi_Ent × List Int × List Sapi_Who × List Int × List Sapi_Rule × List Sapi_Ent × List Int × List Sapi_Who × List Int × List Sapi_Rule)) : Out U := match y with | (x187, x193, x188, x189, x190, x191, x192, x194, x195, x196, x197, x198) => .exit 6 ⟨[(2, .ptr 2 0), (4, .ptr 4 0), (0, .row C.i64 x187), (3, .flat (.int .i64 x193))], [(2, .lit [.tip 2002600200 C.Sapi_Ent x188, .tip 2002600201 C.u64 x189, .tip 2002600202 C.Sapi_Who x190, .tip 2002600203 C.i64 x191, .tip 2002600204 C.Sapi_Rule x192]), (2002600200, .tip 4), (2002600201, .tip 1), (2002600202, .tip 3), (2002600203, .tip 1), (2002600204, .tip 12), (4, .lit [.tip 2002600400 C.Sapi_Ent x194, .tip 2002600401 C.u64 x195, .tip 2002600402 C.Sapi_Who x196, .tip 2002600403 C.i64 x197, .tip 2002600404 C.Sapi_Rule x198]), (2002600400, .tip 4), (2002600401, .tip 1), (2002600402, .tip 3), (2002600403, .tip 1), (2002600404, .tip 12)]⟩
noncomputable def pyxhand_Policy.l26.finK {ρ : Type} (y : (List Int × Int × List Sapi_Ent × List Int × List Sapi_Who × List Int × List Sapi_Rule × List Sapi_Ent × List Int × List Sapi_Who × List Int × List Sapi_Rule)) (K : Out U → Option ρ) : Option ρ := match y with | (x187, x193, x188, x189, x190, x191, x192, x194, x195, x196, x197, x198) => K (.exit 6 ⟨[(2, .ptr 2 0), (4, .ptr 4 0), (0, .row C.i64 x187), (3, .flat (.int .i64 x193))], [(2, .lit [.tip 2002600200 C.Sapi_Ent x188, .tip 2002600201 C.u64 x189, .tip 2002600202 C.Sapi_Who x190, .tip 2002600203 C.i64 x191, .tip 2002600204 C.Sapi_Rule x192]), (2002600200, .tip 4), (2002600201, .tip 1), (2002600202, .tip 3), (2002600203, .tip 1), (2002600204, .tip 12), (4, .lit [.tip 2002600400 C.Sapi_Ent x194, .tip 2002600401 C.u64 x195, .tip 2002600402 C.Sapi_Who x196, .tip 2002600403 C.i64 x197, .tip 2002600404 C.Sapi_Rule x198]), (2002600400, .tip 4), (2002600401, .tip 1), (2002600402, .tip 3), (2002600403, .tip 1), (2002600404, .tip 12)]⟩)
theorem pyxhand_Policy.l26.finK_eq {ρ : Type} (y : (List Int × Int × List Sapi_Ent × List Int × List Sapi_Who × List Int × List Sapi_Rule × List Sapi_Ent × List Int × List Sapi_Who × List Int × List Sapi_Rule)) (K : Out U → Option ρ) : pyxhand_Policy.l26.finK y K = K (pyxhand_Policy.l26.fin y) := by
  unfold pyxhand_Policy.l26.finK pyxhand_Policy.l26.fin
  first | rfl | (split <;> rfl)
noncomputable def pyxhand_Policy.l26.re : Out U → Option ((List Int × Int × List Sapi_Ent × List Int × List Sapi_Who × List Int × List Sapi_Rule × List Sapi_Ent × List Int × List Sapi_Who × List Int × List Sapi_Rule)) | .exit 6 s => ((row_i64 (s.get 0)).bind fun q0 => (match s.get 2, s.get 4, s.get 3, lk s.o 2, lk s.o 4 with | .ptr 2 0, .ptr 4 0, .flat (.int .i64 x193), some (.lit [u2_0, u2_1, u2_2, u2_3, u2_4]), some (.lit [u4_0, u4_1, u4_2, u4_3, u4_4]) => (tip_Sapi_Ent s.o 4 u2_0).bind fun w2_0 => ((tip_u64 s.o 1 u2_1).bind fun w2_1 => ((tip_Sapi_Who s.o 3 u2_2).bind fun w2_2 => ((tip_i64 s.o 1 u2_3).bind fun w2_3 => ((tip_Sapi_Rule s.o 12 u2_4).bind fun w2_4 => ((tip_Sapi_Ent s.o 4 u4_0).bind fun w4_0 => ((tip_u64 s.o 1 u4_1).bind fun w4_1 => ((tip_Sapi_Who s.o 3 u4_2).bind fun w4_2 => ((tip_i64 s.o 1 u4_3).bind fun w4_3 => ((tip_Sapi_Rule s.o 12 u4_4).bind fun w4_4 => (cond (apart [w2_0.1, w2_1.1, w2_2.1, w2_3.1, w2_4.1, w4_0.1, w4_1.1, w4_2.1, w4_3.1, w4_4.1]) (some (q0, x193, w2_0.2, w2_1.2, w2_2.2, w2_3.2, w2_4.2, w4_0.2, w4_1.2, w4_2.2, w4_3.2, w4_4.2)) none)))))))))) | _, _, _, _, _ => none)) | _ => none
noncomputable def pyxhand_Policy.l26.L (k : Nat) : LDen U := { X := (List Int × Int × Int × List Sapi_Ent × List Int × List Sapi_Who × List Int × List Sapi_Rule × List Sapi_Ent × List Int × List Sapi_Who × List Int × List Sapi_Rule), Y := (List Int × Int × List Sapi_Ent × List Int × List Sapi_Who × List Int × List Sapi_Rule × List Sapi_Ent × List Int × List Sapi_Who × List Int × List Sapi_Rule), un := pyxhand_Policy.l26.un, f := iter (pyxhand_Policy.l26.once k) k, fin := pyxhand_Policy.l26.fin, finK := pyxhand_Policy.l26.finK, finK_eq := pyxhand_Policy.l26.finK_eq }
noncomputable def pyxhand_Policy.l30.mk (x : (List Int × Int × Int × List Sapi_Ent × List Int × List Sapi_Who × List Int × List Sapi_Rule × List Sapi_Ent × List Int × List Sapi_Who × List Int × List Sapi_Rule)) : St U := match x with | (x200, x206, x212, x201, x202, x203, x204, x205, x207, x208, x209, x210, x211) => ⟨[(2, .ptr 2 0), (4, .ptr 4 0), (0, .row C.i64 x200), (3, .flat (.int .i64 x206)), (12, .flat (.int .i64 x212))], [(2, .lit [.tip 2003000200 C.Sapi_Ent x201, .tip 2003000201 C.u64 x202, .tip 2003000202 C.Sapi_Who x203, .tip 2003000203 C.i64 x204, .tip 2003000204 C.Sapi_Rule x205]), (2003000200, .tip 4), (2003000201, .tip 1), (2003000202, .tip 3), (2003000203, .tip 1), (2003000204, .tip 12), (4, .lit [.tip 2003000400 C.Sapi_Ent x207, .tip 2003000401 C.u64 x208, .tip 2003000402 C.Sapi_Who x209, .tip 2003000403 C.i64 x210, .tip 2003000404 C.Sapi_Rule x211]), (2003000400, .tip 4), (2003000401, .tip 1), (2003000402, .tip 3), (2003000403, .tip 1), (2003000404, .tip 12)]⟩
noncomputable def pyxhand_Policy.l30.un (s : St U) : Option (List Int × Int × Int × List Sapi_Ent × List Int × List Sapi_Who × List Int × List Sapi_Rule × List Sapi_Ent × List Int × List Sapi_Who × List Int × List Sapi_Rule) := (row_i64 (s.get 0)).bind fun q0 => (match s.get 2, s.get 4, s.get 3, s.get 12, lk s.o 2, lk s.o 4 with | .ptr 2 0, .ptr 4 0, .flat (.int .i64 x206), .flat (.int .i64 x212), some (.lit [u2_0, u2_1, u2_2, u2_3, u2_4]), some (.lit [u4_0, u4_1, u4_2, u4_3, u4_4]) => (tip_Sapi_Ent s.o 4 u2_0).bind fun w2_0 => ((tip_u64 s.o 1 u2_1).bind fun w2_1 => ((tip_Sapi_Who s.o 3 u2_2).bind fun w2_2 => ((tip_i64 s.o 1 u2_3).bind fun w2_3 => ((tip_Sapi_Rule s.o 12 u2_4).bind fun w2_4 => ((tip_Sapi_Ent s.o 4 u4_0).bind fun w4_0 => ((tip_u64 s.o 1 u4_1).bind fun w4_1 => ((tip_Sapi_Who s.o 3 u4_2).bind fun w4_2 => ((tip_i64 s.o 1 u4_3).bind fun w4_3 => ((tip_Sapi_Rule s.o 12 u4_4).bind fun w4_4 => (cond (apart [w2_0.1, w2_1.1, w2_2.1, w2_3.1, w2_4.1, w4_0.1, w4_1.1, w4_2.1, w4_3.1, w4_4.1]) (some (q0, x206, x212, w2_0.2, w2_1.2, w2_2.2, w2_3.2, w2_4.2, w4_0.2, w4_1.2, w4_2.2, w4_3.2, w4_4.2)) none)))))))))) | _, _, _, _, _, _ => none)
noncomputable def pyxhand_Policy.l30.fin (y : (List Int × Int × List Sapi_Ent × List Int × List Sapi_Who × List Int × List Sapi_Rule × List Sapi_Ent × List Int × List Sapi_Who × List Int × List Sapi_Rule)) : Out U := match y with | (x223, x229, x224, x225, x226, x227, x228, x230, x231, x232, x233, x234) => .exit 8 ⟨[(2, .ptr 2 0), (4, .ptr 4 0), (0, .row C.i64 x223), (3, .flat (.int .i64 x229))], [(2, .lit [.tip 2003000200 C.Sapi_Ent x224, .tip 2003000201 C.u64 x225, .tip 2003000202 C.Sapi_Who x226, .tip 2003000203 C.i64 x227, .tip 2003000204 C.Sapi_Rule x228]), (2003000200, .tip 4), (2003000201, .tip 1), (2003000202, .tip 3), (2003000203, .tip 1), (2003000204, .tip 12), (4, .lit [.tip 2003000400 C.Sapi_Ent x230, .tip 2003000401 C.u64 x231, .tip 2003000402 C.Sapi_Who x232, .tip 2003000403 C.i64 x233, .tip 2003000404 C.Sapi_Rule x234]), (2003000400, .tip 4), (2003000401, .tip 1), (2003000402, .tip 3), (2003000403, .tip 1), (2003000404, .tip 12)]⟩
noncomputable def pyxhand_Policy.l30.finK {ρ : Type} (y : (List Int × Int × List Sapi_Ent × List Int × List Sapi_Who × List Int × List Sapi_Rule × List Sapi_Ent × List Int × List Sapi_Who × List Int × List Sapi_Rule)) (K : Out U → Option ρ) : Option ρ := match y with | (x223, x229, x224, x225, x226, x227, x228, x230, x231, x232, x233, x234) => K (.exit 8 ⟨[(2, .ptr 2 0), (4, .ptr 4 0), (0, .row C.i64 x223), (3, .flat (.int .i64 x229))], [(2, .lit [.tip 2003000200 C.Sapi_Ent x224, .tip 2003000201 C.u64 x225, .tip 2003000202 C.Sapi_Who x226, .tip 2003000203 C.i64 x227, .tip 2003000204 C.Sapi_Rule x228]), (2003000200, .tip 4), (2003000201, .tip 1), (2003000202, .tip 3), (2003000203, .tip 1), (2003000204, .tip 12), (4, .lit [.tip 2003000400 C.Sapi_Ent x230, .tip 2003000401 C.u64 x231, .tip 2003000402 C.Sapi_Who x232, .tip 2003000403 C.i64 x233, .tip 2003000404 C.Sapi_Rule x234]), (2003000400, .tip 4), (2003000401, .tip 1), (2003000402, .tip 3), (2003000403, .tip 1), (2003000404, .tip 12)]⟩)
theorem pyxhand_Policy.l30.finK_eq {ρ : Type} (y : (List Int × Int × List Sapi_Ent × List Int × List Sapi_Who × List Int × List Sapi_Rule × List Sapi_Ent × List Int × List Sapi_Who × List Int × List Sapi_Rule)) (K : Out U → Option ρ) : pyxhand_Policy.l30.finK y K = K (pyxhand_Policy.l30.fin y) := by
  unfold pyxhand_Policy.l30.finK pyxhand_Policy.l30.fin
  first | rfl | (split <;> rfl)
noncomputable def pyxhand_Policy.l30.re : Out U → Option ((List Int × Int × List Sapi_Ent × List Int × List Sapi_Who × List Int × List Sapi_Rule × List Sapi_Ent × List Int × List Sapi_Who × List Int × List Sapi_Rule)) | .exit 8 s => ((row_i64 (s.get 0)).bind fun q0 => (match s.get 2, s.get 4, s.get 3, lk s.o 2, lk s.o 4 with | .ptr 2 0, .ptr 4 0, .flat (.int .i64 x229), some (.lit [u2_0, u2_1, u2_2, u2_3, u2_4]), some (.lit [u4_0, u4_1, u4_2, u4_3, u4_4]) => (tip_Sapi_Ent s.o 4 u2_0).bind fun w2_0 => ((tip_u64 s.o 1 u2_1).bind fun w2_1 => ((tip_Sapi_Who s.o 3 u2_2).bind fun w2_2 => ((tip_i64 s.o 1 u2_3).bind fun w2_3 => ((tip_Sapi_Rule s.o 12 u2_4).bind fun w2_4 => ((tip_Sapi_Ent s.o 4 u4_0).bind fun w4_0 => ((tip_u64 s.o 1 u4_1).bind fun w4_1 => ((tip_Sapi_Who s.o 3 u4_2).bind fun w4_2 => ((tip_i64 s.o 1 u4_3).bind fun w4_3 => ((tip_Sapi_Rule s.o 12 u4_4).bind fun w4_4 => (cond (apart [w2_0.1, w2_1.1, w2_2.1, w2_3.1, w2_4.1, w4_0.1, w4_1.1, w4_2.1, w4_3.1, w4_4.1]) (some (q0, x229, w2_0.2, w2_1.2, w2_2.2, w2_3.2, w2_4.2, w4_0.2, w4_1.2, w4_2.2, w4_3.2, w4_4.2)) none)))))))))) | _, _, _, _, _ => none)) | _ => none
noncomputable def pyxhand_Policy.l30.L (k : Nat) : LDen U := { X := (List Int × Int × Int × List Sapi_Ent × List Int × List Sapi_Who × List Int × List Sapi_Rule × List Sapi_Ent × List Int × List Sapi_Who × List Int × List Sapi_Rule), Y := (List Int × Int × List Sapi_Ent × List Int × List Sapi_Who × List Int × List Sapi_Rule × List Sapi_Ent × List Int × List Sapi_Who × List Int × List Sapi_Rule), un := pyxhand_Policy.l30.un, f := iter (pyxhand_Policy.l30.once k) k, fin := pyxhand_Policy.l30.fin, finK := pyxhand_Policy.l30.finK, finK_eq := pyxhand_Policy.l30.finK_eq }
noncomputable def pyxhand_Policy.l35.mk (x : (List Int × Int × Int × List Sapi_Ent × List Int × List Sapi_Who × List Int × List Sapi_Rule × List Sapi_Ent × List Int × List Sapi_Who × List Int × List Sapi_Rule)) : St U := match x with | (x236, x242, x248, x237, x238, x239, x240, x241, x243, x244, x245, x246, x247) => ⟨[(2, .ptr 2 0), (4, .ptr 4 0), (0, .row C.i64 x236), (3, .flat (.int .i64 x242)), (14, .flat (.int .i64 x248))], [(2, .lit [.tip 2003500200 C.Sapi_Ent x237, .tip 2003500201 C.u64 x238, .tip 2003500202 C.Sapi_Who x239, .tip 2003500203 C.i64 x240, .tip 2003500204 C.Sapi_Rule x241]), (2003500200, .tip 4), (2003500201, .tip 1), (2003500202, .tip 3), (2003500203, .tip 1), (2003500204, .tip 12), (4, .lit [.tip 2003500400 C.Sapi_Ent x243, .tip 2003500401 C.u64 x244, .tip 2003500402 C.Sapi_Who x245, .tip 2003500403 C.i64 x246, .tip 2003500404 C.Sapi_Rule x247]), (2003500400, .tip 4), (2003500401, .tip 1), (2003500402, .tip 3), (2003500403, .tip 1), (2003500404, .tip 12)]⟩
noncomputable def pyxhand_Policy.l35.un (s : St U) : Option (List Int × Int × Int × List Sapi_Ent × List Int × List Sapi_Who × List Int × List Sapi_Rule × List Sapi_Ent × List Int × List Sapi_Who × List Int × List Sapi_Rule) := (row_i64 (s.get 0)).bind fun q0 => (match s.get 2, s.get 4, s.get 3, s.get 14, lk s.o 2, lk s.o 4 with | .ptr 2 0, .ptr 4 0, .flat (.int .i64 x242), .flat (.int .i64 x248), some (.lit [u2_0, u2_1, u2_2, u2_3, u2_4]), some (.lit [u4_0, u4_1, u4_2, u4_3, u4_4]) => (tip_Sapi_Ent s.o 4 u2_0).bind fun w2_0 => ((tip_u64 s.o 1 u2_1).bind fun w2_1 => ((tip_Sapi_Who s.o 3 u2_2).bind fun w2_2 => ((tip_i64 s.o 1 u2_3).bind fun w2_3 => ((tip_Sapi_Rule s.o 12 u2_4).bind fun w2_4 => ((tip_Sapi_Ent s.o 4 u4_0).bind fun w4_0 => ((tip_u64 s.o 1 u4_1).bind fun w4_1 => ((tip_Sapi_Who s.o 3 u4_2).bind fun w4_2 => ((tip_i64 s.o 1 u4_3).bind fun w4_3 => ((tip_Sapi_Rule s.o 12 u4_4).bind fun w4_4 => (cond (apart [w2_0.1, w2_1.1, w2_2.1, w2_3.1, w2_4.1, w4_0.1, w4_1.1, w4_2.1, w4_3.1, w4_4.1]) (some (q0, x242, x248, w2_0.2, w2_1.2, w2_2.2, w2_3.2, w2_4.2, w4_0.2, w4_1.2, w4_2.2, w4_3.2, w4_4.2)) none)))))))))) | _, _, _, _, _, _ => none)
noncomputable def pyxhand_Policy.l35.fin (y : (List Sapi_Ent × List Int × List Sapi_Who × List Int × List Sapi_Rule × List Sapi_Ent × List Int × List Sapi_Who × List Int × List Sapi_Rule)) : Out U := match y with | (x299, x300, x301, x302, x303, x304, x305, x306, x307, x308) => .exit 10 ⟨[(2, .ptr 2 0), (4, .ptr 4 0)], [(2, .lit [.tip 2003500200 C.Sapi_Ent x299, .tip 2003500201 C.u64 x300, .tip 2003500202 C.Sapi_Who x301, .tip 2003500203 C.i64 x302, .tip 2003500204 C.Sapi_Rule x303]), (2003500200, .tip 4), (2003500201, .tip 1), (2003500202, .tip 3), (2003500203, .tip 1), (2003500204, .tip 12), (4, .lit [.tip 2003500400 C.Sapi_Ent x304, .tip 2003500401 C.u64 x305, .tip 2003500402 C.Sapi_Who x306, .tip 2003500403 C.i64 x307, .tip 2003500404 C.Sapi_Rule x308]), (2003500400, .tip 4), (2003500401, .tip 1), (2003500402, .tip 3), (2003500403, .tip 1), (2003500404, .tip 12)]⟩
noncomputable def pyxhand_Policy.l35.finK {ρ : Type} (y : (List Sapi_Ent × List Int × List Sapi_Who × List Int × List Sapi_Rule × List Sapi_Ent × List Int × List Sapi_Who × List Int × List Sapi_Rule)) (K : Out U → Option ρ) : Option ρ := match y with | (x299, x300, x301, x302, x303, x304, x305, x306, x307, x308) => K (.exit 10 ⟨[(2, .ptr 2 0), (4, .ptr 4 0)], [(2, .lit [.tip 2003500200 C.Sapi_Ent x299, .tip 2003500201 C.u64 x300, .tip 2003500202 C.Sapi_Who x301, .tip 2003500203 C.i64 x302, .tip 2003500204 C.Sapi_Rule x303]), (2003500200, .tip 4), (2003500201, .tip 1), (2003500202, .tip 3), (2003500203, .tip 1), (2003500204, .tip 12), (4, .lit [.tip 2003500400 C.Sapi_Ent x304, .tip 2003500401 C.u64 x305, .tip 2003500402 C.Sapi_Who x306, .tip 2003500403 C.i64 x307, .tip 2003500404 C.Sapi_Rule x308]), (2003500400, .tip 4), (2003500401, .tip 1), (2003500402, .tip 3), (2003500403, .tip 1), (2003500404, .tip 12)]⟩)
theorem pyxhand_Policy.l35.finK_eq {ρ : Type} (y : (List Sapi_Ent × List Int × List Sapi_Who × List Int × List Sapi_Rule × List Sapi_Ent × List Int × List Sapi_Who × List Int × List Sapi_Rule)) (K : Out U → Option ρ) : pyxhand_Policy.l35.finK y K = K (pyxhand_Policy.l35.fin y) := by
  unfold pyxhand_Policy.l35.finK pyxhand_Policy.l35.fin
  first | rfl | (split <;> rfl)
noncomputable def pyxhand_Policy.l35.re : Out U → Option ((List Sapi_Ent × List Int × List Sapi_Who × List Int × List Sapi_Rule × List Sapi_Ent × List Int × List Sapi_Who × List Int × List Sapi_Rule)) | .exit 10 s => (match s.get 2, s.get 4, lk s.o 2, lk s.o 4 with | .ptr 2 0, .ptr 4 0, some (.lit [u2_0, u2_1, u2_2, u2_3, u2_4]), some (.lit [u4_0, u4_1, u4_2, u4_3, u4_4]) => (tip_Sapi_Ent s.o 4 u2_0).bind fun w2_0 => ((tip_u64 s.o 1 u2_1).bind fun w2_1 => ((tip_Sapi_Who s.o 3 u2_2).bind fun w2_2 => ((tip_i64 s.o 1 u2_3).bind fun w2_3 => ((tip_Sapi_Rule s.o 12 u2_4).bind fun w2_4 => ((tip_Sapi_Ent s.o 4 u4_0).bind fun w4_0 => ((tip_u64 s.o 1 u4_1).bind fun w4_1 => ((tip_Sapi_Who s.o 3 u4_2).bind fun w4_2 => ((tip_i64 s.o 1 u4_3).bind fun w4_3 => ((tip_Sapi_Rule s.o 12 u4_4).bind fun w4_4 => (cond (apart [w2_0.1, w2_1.1, w2_2.1, w2_3.1, w2_4.1, w4_0.1, w4_1.1, w4_2.1, w4_3.1, w4_4.1]) (some (w2_0.2, w2_1.2, w2_2.2, w2_3.2, w2_4.2, w4_0.2, w4_1.2, w4_2.2, w4_3.2, w4_4.2)) none)))))))))) | _, _, _, _ => none) | _ => none
noncomputable def pyxhand_Policy.l35.L (k : Nat) : LDen U := { X := (List Int × Int × Int × List Sapi_Ent × List Int × List Sapi_Who × List Int × List Sapi_Rule × List Sapi_Ent × List Int × List Sapi_Who × List Int × List Sapi_Rule), Y := (List Sapi_Ent × List Int × List Sapi_Who × List Int × List Sapi_Rule × List Sapi_Ent × List Int × List Sapi_Who × List Int × List Sapi_Rule), un := pyxhand_Policy.l35.un, f := iter (pyxhand_Policy.l35.once k) k, fin := pyxhand_Policy.l35.fin, finK := pyxhand_Policy.l35.finK, finK_eq := pyxhand_Policy.l35.finK_eq }
noncomputable def pyxhand_Policy.j7000.fin (y : (List Int × Int × Int × Bool × List Sapi_Ent × List Int × List Sapi_Who × List Int × List Sapi_Rule × List Sapi_Ent × List Int × List Sapi_Who × List Int × List Sapi_Rule × Int × Int × Int × Int)) : Out U := match y with | (x22, x28, x34, x39, x23, x24, x25, x26, x27, x29, x30, x31, x32, x33, x35, x36, x37, x38) => .norm ⟨[(2, .ptr 2 0), (4, .ptr 4 0), (6, .ptr 6 0), (0, .row C.i64 x22), (3, .flat (.int .i64 x28)), (5, .flat (.int .i64 x34)), (48, .flat (.bool x39))], [(2, .lit [.tip 102700000200 C.Sapi_Ent x23, .tip 102700000201 C.u64 x24, .tip 102700000202 C.Sapi_Who x25, .tip 102700000203 C.i64 x26, .tip 102700000204 C.Sapi_Rule x27]), (102700000200, .tip 4), (102700000201, .tip 1), (102700000202, .tip 3), (102700000203, .tip 1), (102700000204, .tip 12), (4, .lit [.tip 102700000400 C.Sapi_Ent x29, .tip 102700000401 C.u64 x30, .tip 102700000402 C.Sapi_Who x31, .tip 102700000403 C.i64 x32, .tip 102700000404 C.Sapi_Rule x33]), (102700000400, .tip 4), (102700000401, .tip 1), (102700000402, .tip 3), (102700000403, .tip 1), (102700000404, .tip 12), (6, .lit [.flat (.int .i64 x35), .flat (.int .i64 x36), .flat (.int .i64 x37), .flat (.int .i64 x38)])]⟩
noncomputable def pyxhand_Policy.j7000.finK {ρ : Type} (y : (List Int × Int × Int × Bool × List Sapi_Ent × List Int × List Sapi_Who × List Int × List Sapi_Rule × List Sapi_Ent × List Int × List Sapi_Who × List Int × List Sapi_Rule × Int × Int × Int × Int)) (K : Out U → Option ρ) : Option ρ := match y with | (x22, x28, x34, x39, x23, x24, x25, x26, x27, x29, x30, x31, x32, x33, x35, x36, x37, x38) => K (.norm ⟨[(2, .ptr 2 0), (4, .ptr 4 0), (6, .ptr 6 0), (0, .row C.i64 x22), (3, .flat (.int .i64 x28)), (5, .flat (.int .i64 x34)), (48, .flat (.bool x39))], [(2, .lit [.tip 102700000200 C.Sapi_Ent x23, .tip 102700000201 C.u64 x24, .tip 102700000202 C.Sapi_Who x25, .tip 102700000203 C.i64 x26, .tip 102700000204 C.Sapi_Rule x27]), (102700000200, .tip 4), (102700000201, .tip 1), (102700000202, .tip 3), (102700000203, .tip 1), (102700000204, .tip 12), (4, .lit [.tip 102700000400 C.Sapi_Ent x29, .tip 102700000401 C.u64 x30, .tip 102700000402 C.Sapi_Who x31, .tip 102700000403 C.i64 x32, .tip 102700000404 C.Sapi_Rule x33]), (102700000400, .tip 4), (102700000401, .tip 1), (102700000402, .tip 3), (102700000403, .tip 1), (102700000404, .tip 12), (6, .lit [.flat (.int .i64 x35), .flat (.int .i64 x36), .flat (.int .i64 x37), .flat (.int .i64 x38)])]⟩)
theorem pyxhand_Policy.j7000.finK_eq {ρ : Type} (y : (List Int × Int × Int × Bool × List Sapi_Ent × List Int × List Sapi_Who × List Int × List Sapi_Rule × List Sapi_Ent × List Int × List Sapi_Who × List Int × List Sapi_Rule × Int × Int × Int × Int)) (K : Out U → Option ρ) : pyxhand_Policy.j7000.finK y K = K (pyxhand_Policy.j7000.fin y) := by
  unfold pyxhand_Policy.j7000.finK pyxhand_Policy.j7000.fin
  first | rfl | (split <;> rfl)
noncomputable def pyxhand_Policy.j7000.re : Out U → Option ((List Int × Int × Int × Bool × List Sapi_Ent × List Int × List Sapi_Who × List Int × List Sapi_Rule × List Sapi_Ent × List Int × List Sapi_Who × List Int × List Sapi_Rule × Int × Int × Int × Int)) | .norm s => ((row_i64 (s.get 0)).bind fun q0 => (match s.get 2, s.get 4, s.get 6, s.get 3, s.get 5, s.get 48, lk s.o 2, lk s.o 4, lk s.o 6 with | .ptr 2 0, .ptr 4 0, .ptr 6 0, .flat (.int .i64 x28), .flat (.int .i64 x34), .flat (.bool x39), some (.lit [u2_0, u2_1, u2_2, u2_3, u2_4]), some (.lit [u4_0, u4_1, u4_2, u4_3, u4_4]), some (.lit [.flat (.int .i64 x35), .flat (.int .i64 x36), .flat (.int .i64 x37), .flat (.int .i64 x38)]) => (tip_Sapi_Ent s.o 4 u2_0).bind fun w2_0 => ((tip_u64 s.o 1 u2_1).bind fun w2_1 => ((tip_Sapi_Who s.o 3 u2_2).bind fun w2_2 => ((tip_i64 s.o 1 u2_3).bind fun w2_3 => ((tip_Sapi_Rule s.o 12 u2_4).bind fun w2_4 => ((tip_Sapi_Ent s.o 4 u4_0).bind fun w4_0 => ((tip_u64 s.o 1 u4_1).bind fun w4_1 => ((tip_Sapi_Who s.o 3 u4_2).bind fun w4_2 => ((tip_i64 s.o 1 u4_3).bind fun w4_3 => ((tip_Sapi_Rule s.o 12 u4_4).bind fun w4_4 => (cond (apart [w2_0.1, w2_1.1, w2_2.1, w2_3.1, w2_4.1, w4_0.1, w4_1.1, w4_2.1, w4_3.1, w4_4.1]) (some (q0, x28, x34, x39, w2_0.2, w2_1.2, w2_2.2, w2_3.2, w2_4.2, w4_0.2, w4_1.2, w4_2.2, w4_3.2, w4_4.2, x35, x36, x37, x38)) none)))))))))) | _, _, _, _, _, _, _, _, _ => none)) | _ => none
noncomputable def pyxhand_Policy.j7000.J : JDen U := { Y := (List Int × Int × Int × Bool × List Sapi_Ent × List Int × List Sapi_Who × List Int × List Sapi_Rule × List Sapi_Ent × List Int × List Sapi_Who × List Int × List Sapi_Rule × Int × Int × Int × Int), re := pyxhand_Policy.j7000.re, fin := pyxhand_Policy.j7000.fin, finK := pyxhand_Policy.j7000.finK, finK_eq := pyxhand_Policy.j7000.finK_eq }
theorem pyxhand_Policy.j7000.fit (o : Out U) (y : (List Int × Int × Int × Bool × List Sapi_Ent × List Int × List Sapi_Who × List Int × List Sapi_Rule × List Sapi_Ent × List Int × List Sapi_Who × List Int × List Sapi_Rule × Int × Int × Int × Int)) (h : pyxhand_Policy.j7000.re o = some y) : FitsO o (pyxhand_Policy.j7000.fin y) := by
  unfold pyxhand_Policy.j7000.re at h
  split at h
  · obtain ⟨q0, eq0, h1⟩ := Option.bind_eq_some_iff.1 h
    split at h1
    · obtain ⟨w2_0, ew2_0, h2⟩ := Option.bind_eq_some_iff.1 h1
      obtain ⟨w2_1, ew2_1, h3⟩ := Option.bind_eq_some_iff.1 h2
      obtain ⟨w2_2, ew2_2, h4⟩ := Option.bind_eq_some_iff.1 h3
      obtain ⟨w2_3, ew2_3, h5⟩ := Option.bind_eq_some_iff.1 h4
      obtain ⟨w2_4, ew2_4, h6⟩ := Option.bind_eq_some_iff.1 h5
      obtain ⟨w4_0, ew4_0, h7⟩ := Option.bind_eq_some_iff.1 h6
      obtain ⟨w4_1, ew4_1, h8⟩ := Option.bind_eq_some_iff.1 h7
      obtain ⟨w4_2, ew4_2, h9⟩ := Option.bind_eq_some_iff.1 h8
      obtain ⟨w4_3, ew4_3, h10⟩ := Option.bind_eq_some_iff.1 h9
      obtain ⟨w4_4, ew4_4, h11⟩ := Option.bind_eq_some_iff.1 h10
      obtain ⟨hap, h12⟩ := cond_none h11
      cases h12
      refine fitsO_norm (fits_ren [(102700000200, w2_0.1), (102700000201, w2_1.1), (102700000202, w2_2.1), (102700000203, w2_3.1), (102700000204, w2_4.1), (102700000400, w4_0.1), (102700000401, w4_1.1), (102700000402, w4_2.1), (102700000403, w4_3.1), (102700000404, w4_4.1)] ?_ ?_ (ren_apart hap) rfl)
      · exact List.forall_mem_cons.2 ⟨FV.one (FV.ptr (by assumption)), List.forall_mem_cons.2 ⟨FV.one (FV.ptr (by assumption)), List.forall_mem_cons.2 ⟨FV.one (FV.ptr (by assumption)), List.forall_mem_cons.2 ⟨FV.one (row_i64_fit eq0), List.forall_mem_cons.2 ⟨FV.one (FV.same (by assumption) rfl), List.forall_mem_cons.2 ⟨FV.one (FV.same (by assumption) rfl), List.forall_mem_cons.2 ⟨FV.one (FV.same (by assumption) rfl), fun _ hp => (List.not_mem_nil hp).elim⟩⟩⟩⟩⟩⟩⟩
      · exact List.forall_mem_cons.2 ⟨(FO.cells (show lk (St.o _) 2 = some _ from by assumption) (FCs.cons ((tip_Sapi_Ent_fit ew2_0 rfl).1) (FCs.cons ((tip_u64_fit ew2_1 rfl).1) (FCs.cons ((tip_Sapi_Who_fit ew2_2 rfl).1) (FCs.cons ((tip_i64_fit ew2_3 rfl).1) (FCs.cons ((tip_Sapi_Rule_fit ew2_4 rfl).1) (FCs.nil))))))), List.forall_mem_cons.2 ⟨(tip_Sapi_Ent_fit ew2_0 rfl).2, List.forall_mem_cons.2 ⟨(tip_u64_fit ew2_1 rfl).2, List.forall_mem_cons.2 ⟨(tip_Sapi_Who_fit ew2_2 rfl).2, List.forall_mem_cons.2 ⟨(tip_i64_fit ew2_3 rfl).2, List.forall_mem_cons.2 ⟨(tip_Sapi_Rule_fit ew2_4 rfl).2, List.forall_mem_cons.2 ⟨(FO.cells (show lk (St.o _) 4 = some _ from by assumption) (FCs.cons ((tip_Sapi_Ent_fit ew4_0 rfl).1) (FCs.cons ((tip_u64_fit ew4_1 rfl).1) (FCs.cons ((tip_Sapi_Who_fit ew4_2 rfl).1) (FCs.cons ((tip_i64_fit ew4_3 rfl).1) (FCs.cons ((tip_Sapi_Rule_fit ew4_4 rfl).1) (FCs.nil))))))), List.forall_mem_cons.2 ⟨(tip_Sapi_Ent_fit ew4_0 rfl).2, List.forall_mem_cons.2 ⟨(tip_u64_fit ew4_1 rfl).2, List.forall_mem_cons.2 ⟨(tip_Sapi_Who_fit ew4_2 rfl).2, List.forall_mem_cons.2 ⟨(tip_i64_fit ew4_3 rfl).2, List.forall_mem_cons.2 ⟨(tip_Sapi_Rule_fit ew4_4 rfl).2, List.forall_mem_cons.2 ⟨(FO.same (show lk (St.o _) 6 = some _ from by assumption) rfl), fun _ hp => (List.not_mem_nil hp).elim⟩⟩⟩⟩⟩⟩⟩⟩⟩⟩⟩⟩⟩
    · cases h1
  · cases h
noncomputable def pyxhand_Policy.j8001.fin (y : (List Int × Int × Int × List Sapi_Ent × List Int × List Sapi_Who × List Int × List Sapi_Rule × List Sapi_Ent × List Int × List Sapi_Who × List Int × List Sapi_Rule × Int × Int × Int × Int)) : Out U := match y with | (x45, x51, x57, x46, x47, x48, x49, x50, x52, x53, x54, x55, x56, x58, x59, x60, x61) => .norm ⟨[(2, .ptr 2 0), (4, .ptr 4 0), (6, .ptr 6 0), (0, .row C.i64 x45), (3, .flat (.int .i64 x51)), (5, .flat (.int .i64 x57))], [(2, .lit [.tip 102800100200 C.Sapi_Ent x46, .tip 102800100201 C.u64 x47, .tip 102800100202 C.Sapi_Who x48, .tip 102800100203 C.i64 x49, .tip 102800100204 C.Sapi_Rule x50]), (102800100200, .tip 4), (102800100201, .tip 1), (102800100202, .tip 3), (102800100203, .tip 1), (102800100204, .tip 12), (4, .lit [.tip 102800100400 C.Sapi_Ent x52, .tip 102800100401 C.u64 x53, .tip 102800100402 C.Sapi_Who x54, .tip 102800100403 C.i64 x55, .tip 102800100404 C.Sapi_Rule x56]), (102800100400, .tip 4), (102800100401, .tip 1), (102800100402, .tip 3), (102800100403, .tip 1), (102800100404, .tip 12), (6, .lit [.flat (.int .i64 x58), .flat (.int .i64 x59), .flat (.int .i64 x60), .flat (.int .i64 x61)])]⟩
noncomputable def pyxhand_Policy.j8001.finK {ρ : Type} (y : (List Int × Int × Int × List Sapi_Ent × List Int × List Sapi_Who × List Int × List Sapi_Rule × List Sapi_Ent × List Int × List Sapi_Who × List Int × List Sapi_Rule × Int × Int × Int × Int)) (K : Out U → Option ρ) : Option ρ := match y with | (x45, x51, x57, x46, x47, x48, x49, x50, x52, x53, x54, x55, x56, x58, x59, x60, x61) => K (.norm ⟨[(2, .ptr 2 0), (4, .ptr 4 0), (6, .ptr 6 0), (0, .row C.i64 x45), (3, .flat (.int .i64 x51)), (5, .flat (.int .i64 x57))], [(2, .lit [.tip 102800100200 C.Sapi_Ent x46, .tip 102800100201 C.u64 x47, .tip 102800100202 C.Sapi_Who x48, .tip 102800100203 C.i64 x49, .tip 102800100204 C.Sapi_Rule x50]), (102800100200, .tip 4), (102800100201, .tip 1), (102800100202, .tip 3), (102800100203, .tip 1), (102800100204, .tip 12), (4, .lit [.tip 102800100400 C.Sapi_Ent x52, .tip 102800100401 C.u64 x53, .tip 102800100402 C.Sapi_Who x54, .tip 102800100403 C.i64 x55, .tip 102800100404 C.Sapi_Rule x56]), (102800100400, .tip 4), (102800100401, .tip 1), (102800100402, .tip 3), (102800100403, .tip 1), (102800100404, .tip 12), (6, .lit [.flat (.int .i64 x58), .flat (.int .i64 x59), .flat (.int .i64 x60), .flat (.int .i64 x61)])]⟩)
theorem pyxhand_Policy.j8001.finK_eq {ρ : Type} (y : (List Int × Int × Int × List Sapi_Ent × List Int × List Sapi_Who × List Int × List Sapi_Rule × List Sapi_Ent × List Int × List Sapi_Who × List Int × List Sapi_Rule × Int × Int × Int × Int)) (K : Out U → Option ρ) : pyxhand_Policy.j8001.finK y K = K (pyxhand_Policy.j8001.fin y) := by
  unfold pyxhand_Policy.j8001.finK pyxhand_Policy.j8001.fin
  first | rfl | (split <;> rfl)
noncomputable def pyxhand_Policy.j8001.re : Out U → Option ((List Int × Int × Int × List Sapi_Ent × List Int × List Sapi_Who × List Int × List Sapi_Rule × List Sapi_Ent × List Int × List Sapi_Who × List Int × List Sapi_Rule × Int × Int × Int × Int)) | .norm s => ((row_i64 (s.get 0)).bind fun q0 => (match s.get 2, s.get 4, s.get 6, s.get 3, s.get 5, lk s.o 2, lk s.o 4, lk s.o 6 with | .ptr 2 0, .ptr 4 0, .ptr 6 0, .flat (.int .i64 x51), .flat (.int .i64 x57), some (.lit [u2_0, u2_1, u2_2, u2_3, u2_4]), some (.lit [u4_0, u4_1, u4_2, u4_3, u4_4]), some (.lit [.flat (.int .i64 x58), .flat (.int .i64 x59), .flat (.int .i64 x60), .flat (.int .i64 x61)]) => (tip_Sapi_Ent s.o 4 u2_0).bind fun w2_0 => ((tip_u64 s.o 1 u2_1).bind fun w2_1 => ((tip_Sapi_Who s.o 3 u2_2).bind fun w2_2 => ((tip_i64 s.o 1 u2_3).bind fun w2_3 => ((tip_Sapi_Rule s.o 12 u2_4).bind fun w2_4 => ((tip_Sapi_Ent s.o 4 u4_0).bind fun w4_0 => ((tip_u64 s.o 1 u4_1).bind fun w4_1 => ((tip_Sapi_Who s.o 3 u4_2).bind fun w4_2 => ((tip_i64 s.o 1 u4_3).bind fun w4_3 => ((tip_Sapi_Rule s.o 12 u4_4).bind fun w4_4 => (cond (apart [w2_0.1, w2_1.1, w2_2.1, w2_3.1, w2_4.1, w4_0.1, w4_1.1, w4_2.1, w4_3.1, w4_4.1]) (some (q0, x51, x57, w2_0.2, w2_1.2, w2_2.2, w2_3.2, w2_4.2, w4_0.2, w4_1.2, w4_2.2, w4_3.2, w4_4.2, x58, x59, x60, x61)) none)))))))))) | _, _, _, _, _, _, _, _ => none)) | _ => none
noncomputable def pyxhand_Policy.j8001.J : JDen U := { Y := (List Int × Int × Int × List Sapi_Ent × List Int × List Sapi_Who × List Int × List Sapi_Rule × List Sapi_Ent × List Int × List Sapi_Who × List Int × List Sapi_Rule × Int × Int × Int × Int), re := pyxhand_Policy.j8001.re, fin := pyxhand_Policy.j8001.fin, finK := pyxhand_Policy.j8001.finK, finK_eq := pyxhand_Policy.j8001.finK_eq }
theorem pyxhand_Policy.j8001.fit (o : Out U) (y : (List Int × Int × Int × List Sapi_Ent × List Int × List Sapi_Who × List Int × List Sapi_Rule × List Sapi_Ent × List Int × List Sapi_Who × List Int × List Sapi_Rule × Int × Int × Int × Int)) (h : pyxhand_Policy.j8001.re o = some y) : FitsO o (pyxhand_Policy.j8001.fin y) := by
  unfold pyxhand_Policy.j8001.re at h
  split at h
  · obtain ⟨q0, eq0, h1⟩ := Option.bind_eq_some_iff.1 h
    split at h1
    · obtain ⟨w2_0, ew2_0, h2⟩ := Option.bind_eq_some_iff.1 h1
      obtain ⟨w2_1, ew2_1, h3⟩ := Option.bind_eq_some_iff.1 h2
      obtain ⟨w2_2, ew2_2, h4⟩ := Option.bind_eq_some_iff.1 h3
      obtain ⟨w2_3, ew2_3, h5⟩ := Option.bind_eq_some_iff.1 h4
      obtain ⟨w2_4, ew2_4, h6⟩ := Option.bind_eq_some_iff.1 h5
      obtain ⟨w4_0, ew4_0, h7⟩ := Option.bind_eq_some_iff.1 h6
      obtain ⟨w4_1, ew4_1, h8⟩ := Option.bind_eq_some_iff.1 h7
      obtain ⟨w4_2, ew4_2, h9⟩ := Option.bind_eq_some_iff.1 h8
      obtain ⟨w4_3, ew4_3, h10⟩ := Option.bind_eq_some_iff.1 h9
      obtain ⟨w4_4, ew4_4, h11⟩ := Option.bind_eq_some_iff.1 h10
      obtain ⟨hap, h12⟩ := cond_none h11
      cases h12
      refine fitsO_norm (fits_ren [(102800100200, w2_0.1), (102800100201, w2_1.1), (102800100202, w2_2.1), (102800100203, w2_3.1), (102800100204, w2_4.1), (102800100400, w4_0.1), (102800100401, w4_1.1), (102800100402, w4_2.1), (102800100403, w4_3.1), (102800100404, w4_4.1)] ?_ ?_ (ren_apart hap) rfl)
      · exact List.forall_mem_cons.2 ⟨FV.one (FV.ptr (by assumption)), List.forall_mem_cons.2 ⟨FV.one (FV.ptr (by assumption)), List.forall_mem_cons.2 ⟨FV.one (FV.ptr (by assumption)), List.forall_mem_cons.2 ⟨FV.one (row_i64_fit eq0), List.forall_mem_cons.2 ⟨FV.one (FV.same (by assumption) rfl), List.forall_mem_cons.2 ⟨FV.one (FV.same (by assumption) rfl), fun _ hp => (List.not_mem_nil hp).elim⟩⟩⟩⟩⟩⟩
      · exact List.forall_mem_cons.2 ⟨(FO.cells (show lk (St.o _) 2 = some _ from by assumption) (FCs.cons ((tip_Sapi_Ent_fit ew2_0 rfl).1) (FCs.cons ((tip_u64_fit ew2_1 rfl).1) (FCs.cons ((tip_Sapi_Who_fit ew2_2 rfl).1) (FCs.cons ((tip_i64_fit ew2_3 rfl).1) (FCs.cons ((tip_Sapi_Rule_fit ew2_4 rfl).1) (FCs.nil))))))), List.forall_mem_cons.2 ⟨(tip_Sapi_Ent_fit ew2_0 rfl).2, List.forall_mem_cons.2 ⟨(tip_u64_fit ew2_1 rfl).2, List.forall_mem_cons.2 ⟨(tip_Sapi_Who_fit ew2_2 rfl).2, List.forall_mem_cons.2 ⟨(tip_i64_fit ew2_3 rfl).2, List.forall_mem_cons.2 ⟨(tip_Sapi_Rule_fit ew2_4 rfl).2, List.forall_mem_cons.2 ⟨(FO.cells (show lk (St.o _) 4 = some _ from by assumption) (FCs.cons ((tip_Sapi_Ent_fit ew4_0 rfl).1) (FCs.cons ((tip_u64_fit ew4_1 rfl).1) (FCs.cons ((tip_Sapi_Who_fit ew4_2 rfl).1) (FCs.cons ((tip_i64_fit ew4_3 rfl).1) (FCs.cons ((tip_Sapi_Rule_fit ew4_4 rfl).1) (FCs.nil))))))), List.forall_mem_cons.2 ⟨(tip_Sapi_Ent_fit ew4_0 rfl).2, List.forall_mem_cons.2 ⟨(tip_u64_fit ew4_1 rfl).2, List.forall_mem_cons.2 ⟨(tip_Sapi_Who_fit ew4_2 rfl).2, List.forall_mem_cons.2 ⟨(tip_i64_fit ew4_3 rfl).2, List.forall_mem_cons.2 ⟨(tip_Sapi_Rule_fit ew4_4 rfl).2, List.forall_mem_cons.2 ⟨(FO.same (show lk (St.o _) 6 = some _ from by assumption) rfl), fun _ hp => (List.not_mem_nil hp).elim⟩⟩⟩⟩⟩⟩⟩⟩⟩⟩⟩⟩⟩
    · cases h1
  · cases h
noncomputable def pyxhand_Policy.j6001.fin (y : (List Int × Int × Int × List Sapi_Ent × List Int × List Sapi_Who × List Int × List Sapi_Rule × List Sapi_Ent × List Int × List Sapi_Who × List Int × List Sapi_Rule)) : Out U := match y with | (x63, x69, x75, x64, x65, x66, x67, x68, x70, x71, x72, x73, x74) => .norm ⟨[(2, .ptr 2 0), (4, .ptr 4 0), (0, .row C.i64 x63), (3, .flat (.int .i64 x69)), (5, .flat (.int .i64 x75))], [(2, .lit [.tip 102600100200 C.Sapi_Ent x64, .tip 102600100201 C.u64 x65, .tip 102600100202 C.Sapi_Who x66, .tip 102600100203 C.i64 x67, .tip 102600100204 C.Sapi_Rule x68]), (102600100200, .tip 4), (102600100201, .tip 1), (102600100202, .tip 3), (102600100203, .tip 1), (102600100204, .tip 12), (4, .lit [.tip 102600100400 C.Sapi_Ent x70, .tip 102600100401 C.u64 x71, .tip 102600100402 C.Sapi_Who x72, .tip 102600100403 C.i64 x73, .tip 102600100404 C.Sapi_Rule x74]), (102600100400, .tip 4), (102600100401, .tip 1), (102600100402, .tip 3), (102600100403, .tip 1), (102600100404, .tip 12)]⟩
noncomputable def pyxhand_Policy.j6001.finK {ρ : Type} (y : (List Int × Int × Int × List Sapi_Ent × List Int × List Sapi_Who × List Int × List Sapi_Rule × List Sapi_Ent × List Int × List Sapi_Who × List Int × List Sapi_Rule)) (K : Out U → Option ρ) : Option ρ := match y with | (x63, x69, x75, x64, x65, x66, x67, x68, x70, x71, x72, x73, x74) => K (.norm ⟨[(2, .ptr 2 0), (4, .ptr 4 0), (0, .row C.i64 x63), (3, .flat (.int .i64 x69)), (5, .flat (.int .i64 x75))], [(2, .lit [.tip 102600100200 C.Sapi_Ent x64, .tip 102600100201 C.u64 x65, .tip 102600100202 C.Sapi_Who x66, .tip 102600100203 C.i64 x67, .tip 102600100204 C.Sapi_Rule x68]), (102600100200, .tip 4), (102600100201, .tip 1), (102600100202, .tip 3), (102600100203, .tip 1), (102600100204, .tip 12), (4, .lit [.tip 102600100400 C.Sapi_Ent x70, .tip 102600100401 C.u64 x71, .tip 102600100402 C.Sapi_Who x72, .tip 102600100403 C.i64 x73, .tip 102600100404 C.Sapi_Rule x74]), (102600100400, .tip 4), (102600100401, .tip 1), (102600100402, .tip 3), (102600100403, .tip 1), (102600100404, .tip 12)]⟩)
theorem pyxhand_Policy.j6001.finK_eq {ρ : Type} (y : (List Int × Int × Int × List Sapi_Ent × List Int × List Sapi_Who × List Int × List Sapi_Rule × List Sapi_Ent × List Int × List Sapi_Who × List Int × List Sapi_Rule)) (K : Out U → Option ρ) : pyxhand_Policy.j6001.finK y K = K (pyxhand_Policy.j6001.fin y) := by
  unfold pyxhand_Policy.j6001.finK pyxhand_Policy.j6001.fin
  first | rfl | (split <;> rfl)
noncomputable def pyxhand_Policy.j6001.re : Out U → Option ((List Int × Int × Int × List Sapi_Ent × List Int × List Sapi_Who × List Int × List Sapi_Rule × List Sapi_Ent × List Int × List Sapi_Who × List Int × List Sapi_Rule)) | .norm s => ((row_i64 (s.get 0)).bind fun q0 => (match s.get 2, s.get 4, s.get 3, s.get 5, lk s.o 2, lk s.o 4 with | .ptr 2 0, .ptr 4 0, .flat (.int .i64 x69), .flat (.int .i64 x75), some (.lit [u2_0, u2_1, u2_2, u2_3, u2_4]), some (.lit [u4_0, u4_1, u4_2, u4_3, u4_4]) => (tip_Sapi_Ent s.o 4 u2_0).bind fun w2_0 => ((tip_u64 s.o 1 u2_1).bind fun w2_1 => ((tip_Sapi_Who s.o 3 u2_2).bind fun w2_2 => ((tip_i64 s.o 1 u2_3).bind fun w2_3 => ((tip_Sapi_Rule s.o 12 u2_4).bind fun w2_4 => ((tip_Sapi_Ent s.o 4 u4_0).bind fun w4_0 => ((tip_u64 s.o 1 u4_1).bind fun w4_1 => ((tip_Sapi_Who s.o 3 u4_2).bind fun w4_2 => ((tip_i64 s.o 1 u4_3).bind fun w4_3 => ((tip_Sapi_Rule s.o 12 u4_4).bind fun w4_4 => (cond (apart [w2_0.1, w2_1.1, w2_2.1, w2_3.1, w2_4.1, w4_0.1, w4_1.1, w4_2.1, w4_3.1, w4_4.1]) (some (q0, x69, x75, w2_0.2, w2_1.2, w2_2.2, w2_3.2, w2_4.2, w4_0.2, w4_1.2, w4_2.2, w4_3.2, w4_4.2)) none)))))))))) | _, _, _, _, _, _ => none)) | _ => none
noncomputable def pyxhand_Policy.j6001.J : JDen U := { Y := (List Int × Int × Int × List Sapi_Ent × List Int × List Sapi_Who × List Int × List Sapi_Rule × List Sapi_Ent × List Int × List Sapi_Who × List Int × List Sapi_Rule), re := pyxhand_Policy.j6001.re, fin := pyxhand_Policy.j6001.fin, finK := pyxhand_Policy.j6001.finK, finK_eq := pyxhand_Policy.j6001.finK_eq }
theorem pyxhand_Policy.j6001.fit (o : Out U) (y : (List Int × Int × Int × List Sapi_Ent × List Int × List Sapi_Who × List Int × List Sapi_Rule × List Sapi_Ent × List Int × List Sapi_Who × List Int × List Sapi_Rule)) (h : pyxhand_Policy.j6001.re o = some y) : FitsO o (pyxhand_Policy.j6001.fin y) := by
  unfold pyxhand_Policy.j6001.re at h
  split at h
  · obtain ⟨q0, eq0, h1⟩ := Option.bind_eq_some_iff.1 h
    split at h1
    · obtain ⟨w2_0, ew2_0, h2⟩ := Option.bind_eq_some_iff.1 h1
      obtain ⟨w2_1, ew2_1, h3⟩ := Option.bind_eq_some_iff.1 h2
      obtain ⟨w2_2, ew2_2, h4⟩ := Option.bind_eq_some_iff.1 h3
      obtain ⟨w2_3, ew2_3, h5⟩ := Option.bind_eq_some_iff.1 h4
      obtain ⟨w2_4, ew2_4, h6⟩ := Option.bind_eq_some_iff.1 h5
      obtain ⟨w4_0, ew4_0, h7⟩ := Option.bind_eq_some_iff.1 h6
      obtain ⟨w4_1, ew4_1, h8⟩ := Option.bind_eq_some_iff.1 h7
      obtain ⟨w4_2, ew4_2, h9⟩ := Option.bind_eq_some_iff.1 h8
      obtain ⟨w4_3, ew4_3, h10⟩ := Option.bind_eq_some_iff.1 h9
      obtain ⟨w4_4, ew4_4, h11⟩ := Option.bind_eq_some_iff.1 h10
      obtain ⟨hap, h12⟩ := cond_none h11
      cases h12
      refine fitsO_norm (fits_ren [(102600100200, w2_0.1), (102600100201, w2_1.1), (102600100202, w2_2.1), (102600100203, w2_3.1), (102600100204, w2_4.1), (102600100400, w4_0.1), (102600100401, w4_1.1), (102600100402, w4_2.1), (102600100403, w4_3.1), (102600100404, w4_4.1)] ?_ ?_ (ren_apart hap) rfl)
      · exact List.forall_mem_cons.2 ⟨FV.one (FV.ptr (by assumption)), List.forall_mem_cons.2 ⟨FV.one (FV.ptr (by assumption)), List.forall_mem_cons.2 ⟨FV.one (row_i64_fit eq0), List.forall_mem_cons.2 ⟨FV.one (FV.same (by assumption) rfl), List.forall_mem_cons.2 ⟨FV.one (FV.same (by assumption) rfl), fun _ hp => (List.not_mem_nil hp).elim⟩⟩⟩⟩⟩
      · exact List.forall_mem_cons.2 ⟨(FO.cells (show lk (St.o _) 2 = some _ from by assumption) (FCs.cons ((tip_Sapi_Ent_fit ew2_0 rfl).1) (FCs.cons ((tip_u64_fit ew2_1 rfl).1) (FCs.cons ((tip_Sapi_Who_fit ew2_2 rfl).1) (FCs.cons ((tip_i64_fit ew2_3 rfl).1) (FCs.cons ((tip_Sapi_Rule_fit ew2_4 rfl).1) (FCs.nil))))))), List.forall_mem_cons.2 ⟨(tip_Sapi_Ent_fit ew2_0 rfl).2, List.forall_mem_cons.2 ⟨(tip_u64_fit ew2_1 rfl).2, List.forall_mem_cons.2 ⟨(tip_Sapi_Who_fit ew2_2 rfl).2, List.forall_mem_cons.2 ⟨(tip_i64_fit ew2_3 rfl).2, List.forall_mem_cons.2 ⟨(tip_Sapi_Rule_fit ew2_4 rfl).2, List.forall_mem_cons.2 ⟨(FO.cells (show lk (St.o _) 4 = some _ from by assumption) (FCs.cons ((tip_Sapi_Ent_fit ew4_0 rfl).1) (FCs.cons ((tip_u64_fit ew4_1 rfl).1) (FCs.cons ((tip_Sapi_Who_fit ew4_2 rfl).1) (FCs.cons ((tip_i64_fit ew4_3 rfl).1) (FCs.cons ((tip_Sapi_Rule_fit ew4_4 rfl).1) (FCs.nil))))))), List.forall_mem_cons.2 ⟨(tip_Sapi_Ent_fit ew4_0 rfl).2, List.forall_mem_cons.2 ⟨(tip_u64_fit ew4_1 rfl).2, List.forall_mem_cons.2 ⟨(tip_Sapi_Who_fit ew4_2 rfl).2, List.forall_mem_cons.2 ⟨(tip_i64_fit ew4_3 rfl).2, List.forall_mem_cons.2 ⟨(tip_Sapi_Rule_fit ew4_4 rfl).2, fun _ hp => (List.not_mem_nil hp).elim⟩⟩⟩⟩⟩⟩⟩⟩⟩⟩⟩⟩
    · cases h1
  · cases h
noncomputable def pyxhand_Policy.j16001.fin (y : (List Int × Int × Int × List Sapi_Ent × List Int × List Sapi_Who × List Int × List Sapi_Rule × List Sapi_Ent × List Int × List Sapi_Who × List Int × List Sapi_Rule)) : Out U := match y with | (x107, x113, x119, x108, x109, x110, x111, x112, x114, x115, x116, x117, x118) => .norm ⟨[(2, .ptr 2 0), (4, .ptr 4 0), (0, .row C.i64 x107), (3, .flat (.int .i64 x113)), (8, .flat (.int .i64 x119))], [(2, .lit [.tip 103600100200 C.Sapi_Ent x108, .tip 103600100201 C.u64 x109, .tip 103600100202 C.Sapi_Who x110, .tip 103600100203 C.i64 x111, .tip 103600100204 C.Sapi_Rule x112]), (103600100200, .tip 4), (103600100201, .tip 1), (103600100202, .tip 3), (103600100203, .tip 1), (103600100204, .tip 12), (4, .lit [.tip 103600100400 C.Sapi_Ent x114, .tip 103600100401 C.u64 x115, .tip 103600100402 C.Sapi_Who x116, .tip 103600100403 C.i64 x117, .tip 103600100404 C.Sapi_Rule x118]), (103600100400, .tip 4), (103600100401, .tip 1), (103600100402, .tip 3), (103600100403, .tip 1), (103600100404, .tip 12)]⟩
noncomputable def pyxhand_Policy.j16001.finK {ρ : Type} (y : (List Int × Int × Int × List Sapi_Ent × List Int × List Sapi_Who × List Int × List Sapi_Rule × List Sapi_Ent × List Int × List Sapi_Who × List Int × List Sapi_Rule)) (K : Out U → Option ρ) : Option ρ := match y with | (x107, x113, x119, x108, x109, x110, x111, x112, x114, x115, x116, x117, x118) => K (.norm ⟨[(2, .ptr 2 0), (4, .ptr 4 0), (0, .row C.i64 x107), (3, .flat (.int .i64 x113)), (8, .flat (.int .i64 x119))], [(2, .lit [.tip 103600100200 C.Sapi_Ent x108, .tip 103600100201 C.u64 x109, .tip 103600100202 C.Sapi_Who x110, .tip 103600100203 C.i64 x111, .tip 103600100204 C.Sapi_Rule x112]), (103600100200, .tip 4), (103600100201, .tip 1), (103600100202, .tip 3), (103600100203, .tip 1), (103600100204, .tip 12), (4, .lit [.tip 103600100400 C.Sapi_Ent x114, .tip 103600100401 C.u64 x115, .tip 103600100402 C.Sapi_Who x116, .tip 103600100403 C.i64 x117, .tip 103600100404 C.Sapi_Rule x118]), (103600100400, .tip 4), (103600100401, .tip 1), (103600100402, .tip 3), (103600100403, .tip 1), (103600100404, .tip 12)]⟩)
theorem pyxhand_Policy.j16001.finK_eq {ρ : Type} (y : (List Int × Int × Int × List Sapi_Ent × List Int × List Sapi_Who × List Int × List Sapi_Rule × List Sapi_Ent × List Int × List Sapi_Who × List Int × List Sapi_Rule)) (K : Out U → Option ρ) : pyxhand_Policy.j16001.finK y K = K (pyxhand_Policy.j16001.fin y) := by
  unfold pyxhand_Policy.j16001.finK pyxhand_Policy.j16001.fin
  first | rfl | (split <;> rfl)
noncomputable def pyxhand_Policy.j16001.re : Out U → Option ((List Int × Int × Int × List Sapi_Ent × List Int × List Sapi_Who × List Int × List Sapi_Rule × List Sapi_Ent × List Int × List Sapi_Who × List Int × List Sapi_Rule)) | .norm s => ((row_i64 (s.get 0)).bind fun q0 => (match s.get 2, s.get 4, s.get 3, s.get 8, lk s.o 2, lk s.o 4 with | .ptr 2 0, .ptr 4 0, .flat (.int .i64 x113), .flat (.int .i64 x119), some (.lit [u2_0, u2_1, u2_2, u2_3, u2_4]), some (.lit [u4_0, u4_1, u4_2, u4_3, u4_4]) => (tip_Sapi_Ent s.o 4 u2_0).bind fun w2_0 => ((tip_u64 s.o 1 u2_1).bind fun w2_1 => ((tip_Sapi_Who s.o 3 u2_2).bind fun w2_2 => ((tip_i64 s.o 1 u2_3).bind fun w2_3 => ((tip_Sapi_Rule s.o 12 u2_4).bind fun w2_4 => ((tip_Sapi_Ent s.o 4 u4_0).bind fun w4_0 => ((tip_u64 s.o 1 u4_1).bind fun w4_1 => ((tip_Sapi_Who s.o 3 u4_2).bind fun w4_2 => ((tip_i64 s.o 1 u4_3).bind fun w4_3 => ((tip_Sapi_Rule s.o 12 u4_4).bind fun w4_4 => (cond (apart [w2_0.1, w2_1.1, w2_2.1, w2_3.1, w2_4.1, w4_0.1, w4_1.1, w4_2.1, w4_3.1, w4_4.1]) (some (q0, x113, x119, w2_0.2, w2_1.2, w2_2.2, w2_3.2, w2_4.2, w4_0.2, w4_1.2, w4_2.2, w4_3.2, w4_4.2)) none)))))))))) | _, _, _, _, _, _ => none)) | _ => none
noncomputable def pyxhand_Policy.j16001.J : JDen U := { Y := (List Int × Int × Int × List Sapi_Ent × List Int × List Sapi_Who × List Int × List Sapi_Rule × List Sapi_Ent × List Int × List Sapi_Who × List Int × List Sapi_Rule), re := pyxhand_Policy.j16001.re, fin := pyxhand_Policy.j16001.fin, finK := pyxhand_Policy.j16001.finK, finK_eq := pyxhand_Policy.j16001.finK_eq }
theorem pyxhand_Policy.j16001.fit (o : Out U) (y : (List Int × Int × Int × List Sapi_Ent × List Int × List Sapi_Who × List Int × List Sapi_Rule × List Sapi_Ent × List Int × List Sapi_Who × List Int × List Sapi_Rule)) (h : pyxhand_Policy.j16001.re o = some y) : FitsO o (pyxhand_Policy.j16001.fin y) := by
  unfold pyxhand_Policy.j16001.re at h
  split at h
  · obtain ⟨q0, eq0, h1⟩ := Option.bind_eq_some_iff.1 h
    split at h1
    · obtain ⟨w2_0, ew2_0, h2⟩ := Option.bind_eq_some_iff.1 h1
      obtain ⟨w2_1, ew2_1, h3⟩ := Option.bind_eq_some_iff.1 h2
      obtain ⟨w2_2, ew2_2, h4⟩ := Option.bind_eq_some_iff.1 h3
      obtain ⟨w2_3, ew2_3, h5⟩ := Option.bind_eq_some_iff.1 h4
      obtain ⟨w2_4, ew2_4, h6⟩ := Option.bind_eq_some_iff.1 h5
      obtain ⟨w4_0, ew4_0, h7⟩ := Option.bind_eq_some_iff.1 h6
      obtain ⟨w4_1, ew4_1, h8⟩ := Option.bind_eq_some_iff.1 h7
      obtain ⟨w4_2, ew4_2, h9⟩ := Option.bind_eq_some_iff.1 h8
      obtain ⟨w4_3, ew4_3, h10⟩ := Option.bind_eq_some_iff.1 h9
      obtain ⟨w4_4, ew4_4, h11⟩ := Option.bind_eq_some_iff.1 h10
      obtain ⟨hap, h12⟩ := cond_none h11
      cases h12
      refine fitsO_norm (fits_ren [(103600100200, w2_0.1), (103600100201, w2_1.1), (103600100202, w2_2.1), (103600100203, w2_3.1), (103600100204, w2_4.1), (103600100400, w4_0.1), (103600100401, w4_1.1), (103600100402, w4_2.1), (103600100403, w4_3.1), (103600100404, w4_4.1)] ?_ ?_ (ren_apart hap) rfl)
      · exact List.forall_mem_cons.2 ⟨FV.one (FV.ptr (by assumption)), List.forall_mem_cons.2 ⟨FV.one (FV.ptr (by assumption)), List.forall_mem_cons.2 ⟨FV.one (row_i64_fit eq0), List.forall_mem_cons.2 ⟨FV.one (FV.same (by assumption) rfl), List.forall_mem_cons.2 ⟨FV.one (FV.same (by assumption) rfl), fun _ hp => (List.not_mem_nil hp).elim⟩⟩⟩⟩⟩
      · exact List.forall_mem_cons.2 ⟨(FO.cells (show lk (St.o _) 2 = some _ from by assumption) (FCs.cons ((tip_Sapi_Ent_fit ew2_0 rfl).1) (FCs.cons ((tip_u64_fit ew2_1 rfl).1) (FCs.cons ((tip_Sapi_Who_fit ew2_2 rfl).1) (FCs.cons ((tip_i64_fit ew2_3 rfl).1) (FCs.cons ((tip_Sapi_Rule_fit ew2_4 rfl).1) (FCs.nil))))))), List.forall_mem_cons.2 ⟨(tip_Sapi_Ent_fit ew2_0 rfl).2, List.forall_mem_cons.2 ⟨(tip_u64_fit ew2_1 rfl).2, List.forall_mem_cons.2 ⟨(tip_Sapi_Who_fit ew2_2 rfl).2, List.forall_mem_cons.2 ⟨(tip_i64_fit ew2_3 rfl).2, List.forall_mem_cons.2 ⟨(tip_Sapi_Rule_fit ew2_4 rfl).2, List.forall_mem_cons.2 ⟨(FO.cells (show lk (St.o _) 4 = some _ from by assumption) (FCs.cons ((tip_Sapi_Ent_fit ew4_0 rfl).1) (FCs.cons ((tip_u64_fit ew4_1 rfl).1) (FCs.cons ((tip_Sapi_Who_fit ew4_2 rfl).1) (FCs.cons ((tip_i64_fit ew4_3 rfl).1) (FCs.cons ((tip_Sapi_Rule_fit ew4_4 rfl).1) (FCs.nil))))))), List.forall_mem_cons.2 ⟨(tip_Sapi_Ent_fit ew4_0 rfl).2, List.forall_mem_cons.2 ⟨(tip_u64_fit ew4_1 rfl).2, List.forall_mem_cons.2 ⟨(tip_Sapi_Who_fit ew4_2 rfl).2, List.forall_mem_cons.2 ⟨(tip_i64_fit ew4_3 rfl).2, List.forall_mem_cons.2 ⟨(tip_Sapi_Rule_fit ew4_4 rfl).2, fun _ hp => (List.not_mem_nil hp).elim⟩⟩⟩⟩⟩⟩⟩⟩⟩⟩⟩⟩
    · cases h1
  · cases h
noncomputable def pyxhand_Policy.j39001.fin (y : (List Int × Int × Int × List Sapi_Ent × List Int × List Sapi_Who × List Int × List Sapi_Rule × List Sapi_Ent × List Int × List Sapi_Who × List Int × List Sapi_Rule × Int × Int)) : Out U := match y with | (x257, x263, x269, x258, x259, x260, x261, x262, x264, x265, x266, x267, x268, x270, x271) => .norm ⟨[(2, .ptr 2 0), (4, .ptr 4 0), (15, .ptr 15 0), (0, .row C.i64 x257), (3, .flat (.int .i64 x263)), (14, .flat (.int .i64 x269))], [(2, .lit [.tip 105900100200 C.Sapi_Ent x258, .tip 105900100201 C.u64 x259, .tip 105900100202 C.Sapi_Who x260, .tip 105900100203 C.i64 x261, .tip 105900100204 C.Sapi_Rule x262]), (105900100200, .tip 4), (105900100201, .tip 1), (105900100202, .tip 3), (105900100203, .tip 1), (105900100204, .tip 12), (4, .lit [.tip 105900100400 C.Sapi_Ent x264, .tip 105900100401 C.u64 x265, .tip 105900100402 C.Sapi_Who x266, .tip 105900100403 C.i64 x267, .tip 105900100404 C.Sapi_Rule x268]), (105900100400, .tip 4), (105900100401, .tip 1), (105900100402, .tip 3), (105900100403, .tip 1), (105900100404, .tip 12), (15, .lit [.flat (.int .u64 x270), .flat (.int .i64 x271)])]⟩
noncomputable def pyxhand_Policy.j39001.finK {ρ : Type} (y : (List Int × Int × Int × List Sapi_Ent × List Int × List Sapi_Who × List Int × List Sapi_Rule × List Sapi_Ent × List Int × List Sapi_Who × List Int × List Sapi_Rule × Int × Int)) (K : Out U → Option ρ) : Option ρ := match y with | (x257, x263, x269, x258, x259, x260, x261, x262, x264, x265, x266, x267, x268, x270, x271) => K (.norm ⟨[(2, .ptr 2 0), (4, .ptr 4 0), (15, .ptr 15 0), (0, .row C.i64 x257), (3, .flat (.int .i64 x263)), (14, .flat (.int .i64 x269))], [(2, .lit [.tip 105900100200 C.Sapi_Ent x258, .tip 105900100201 C.u64 x259, .tip 105900100202 C.Sapi_Who x260, .tip 105900100203 C.i64 x261, .tip 105900100204 C.Sapi_Rule x262]), (105900100200, .tip 4), (105900100201, .tip 1), (105900100202, .tip 3), (105900100203, .tip 1), (105900100204, .tip 12), (4, .lit [.tip 105900100400 C.Sapi_Ent x264, .tip 105900100401 C.u64 x265, .tip 105900100402 C.Sapi_Who x266, .tip 105900100403 C.i64 x267, .tip 105900100404 C.Sapi_Rule x268]), (105900100400, .tip 4), (105900100401, .tip 1), (105900100402, .tip 3), (105900100403, .tip 1), (105900100404, .tip 12), (15, .lit [.flat (.int .u64 x270), .flat (.int .i64 x271)])]⟩)
theorem pyxhand_Policy.j39001.finK_eq {ρ : Type} (y : (List Int × Int × Int × List Sapi_Ent × List Int × List Sapi_Who × List Int × List Sapi_Rule × List Sapi_Ent × List Int × List Sapi_Who × List Int × List Sapi_Rule × Int × Int)) (K : Out U → Option ρ) : pyxhand_Policy.j39001.finK y K = K (pyxhand_Policy.j39001.fin y) := by
  unfold pyxhand_Policy.j39001.finK pyxhand_Policy.j39001.fin
  first | rfl | (split <;> rfl)
noncomputable def pyxhand_Policy.j39001.re : Out U → Option ((List Int × Int × Int × List Sapi_Ent × List Int × List Sapi_Who × List Int × List Sapi_Rule × List Sapi_Ent × List Int × List Sapi_Who × List Int × List Sapi_Rule × Int × Int)) | .norm s => ((row_i64 (s.get 0)).bind fun q0 => (match s.get 2, s.get 4, s.get 15, s.get 3, s.get 14, lk s.o 2, lk s.o 4, lk s.o 15 with | .ptr 2 0, .ptr 4 0, .ptr 15 0, .flat (.int .i64 x263), .flat (.int .i64 x269), some (.lit [u2_0, u2_1, u2_2, u2_3, u2_4]), some (.lit [u4_0, u4_1, u4_2, u4_3, u4_4]), some (.lit [.flat (.int .u64 x270), .flat (.int .i64 x271)]) => (tip_Sapi_Ent s.o 4 u2_0).bind fun w2_0 => ((tip_u64 s.o 1 u2_1).bind fun w2_1 => ((tip_Sapi_Who s.o 3 u2_2).bind fun w2_2 => ((tip_i64 s.o 1 u2_3).bind fun w2_3 => ((tip_Sapi_Rule s.o 12 u2_4).bind fun w2_4 => ((tip_Sapi_Ent s.o 4 u4_0).bind fun w4_0 => ((tip_u64 s.o 1 u4_1).bind fun w4_1 => ((tip_Sapi_Who s.o 3 u4_2).bind fun w4_2 => ((tip_i64 s.o 1 u4_3).bind fun w4_3 => ((tip_Sapi_Rule s.o 12 u4_4).bind fun w4_4 => (cond (apart [w2_0.1, w2_1.1, w2_2.1, w2_3.1, w2_4.1, w4_0.1, w4_1.1, w4_2.1, w4_3.1, w4_4.1]) (some (q0, x263, x269, w2_0.2, w2_1.2, w2_2.2, w2_3.2, w2_4.2, w4_0.2, w4_1.2, w4_2.2, w4_3.2, w4_4.2, x270, x271)) none)))))))))) | _, _, _, _, _, _, _, _ => none)) | _ => none
noncomputable def pyxhand_Policy.j39001.J : JDen U := { Y := (List Int × Int × Int × List Sapi_Ent × List Int × List Sapi_Who × List Int × List Sapi_Rule × List Sapi_Ent × List Int × List Sapi_Who × List Int × List Sapi_Rule × Int × Int), re := pyxhand_Policy.j39001.re, fin := pyxhand_Policy.j39001.fin, finK := pyxhand_Policy.j39001.finK, finK_eq := pyxhand_Policy.j39001.finK_eq }
theorem pyxhand_Policy.j39001.fit (o : Out U) (y : (List Int × Int × Int × List Sapi_Ent × List Int × List Sapi_Who × List Int × List Sapi_Rule × List Sapi_Ent × List Int × List Sapi_Who × List Int × List Sapi_Rule × Int × Int)) (h : pyxhand_Policy.j39001.re o = some y) : FitsO o (pyxhand_Policy.j39001.fin y) := by
  unfold pyxhand_Policy.j39001.re at h
  split at h
  · obtain ⟨q0, eq0, h1⟩ := Option.bind_eq_some_iff.1 h
    split at h1
    · obtain ⟨w2_0, ew2_0, h2⟩ := Option.bind_eq_some_iff.1 h1
      obtain ⟨w2_1, ew2_1, h3⟩ := Option.bind_eq_some_iff.1 h2
      obtain ⟨w2_2, ew2_2, h4⟩ := Option.bind_eq_some_iff.1 h3
      obtain ⟨w2_3, ew2_3, h5⟩ := Option.bind_eq_some_iff.1 h4
      obtain ⟨w2_4, ew2_4, h6⟩ := Option.bind_eq_some_iff.1 h5
      obtain ⟨w4_0, ew4_0, h7⟩ := Option.bind_eq_some_iff.1 h6
      obtain ⟨w4_1, ew4_1, h8⟩ := Option.bind_eq_some_iff.1 h7
      obtain ⟨w4_2, ew4_2, h9⟩ := Option.bind_eq_some_iff.1 h8
      obtain ⟨w4_3, ew4_3, h10⟩ := Option.bind_eq_some_iff.1 h9
      obtain ⟨w4_4, ew4_4, h11⟩ := Option.bind_eq_some_iff.1 h10
      obtain ⟨hap, h12⟩ := cond_none h11
      cases h12
      refine fitsO_norm (fits_ren [(105900100200, w2_0.1), (105900100201, w2_1.1), (105900100202, w2_2.1), (105900100203, w2_3.1), (105900100204, w2_4.1), (105900100400, w4_0.1), (105900100401, w4_1.1), (105900100402, w4_2.1), (105900100403, w4_3.1), (105900100404, w4_4.1)] ?_ ?_ (ren_apart hap) rfl)
      · exact List.forall_mem_cons.2 ⟨FV.one (FV.ptr (by assumption)), List.forall_mem_cons.2 ⟨FV.one (FV.ptr (by assumption)), List.forall_mem_cons.2 ⟨FV.one (FV.ptr (by assumption)), List.forall_mem_cons.2 ⟨FV.one (row_i64_fit eq0), List.forall_mem_cons.2 ⟨FV.one (FV.same (by assumption) rfl), List.forall_mem_cons.2 ⟨FV.one (FV.same (by assumption) rfl), fun _ hp => (List.not_mem_nil hp).elim⟩⟩⟩⟩⟩⟩
      · exact List.forall_mem_cons.2 ⟨(FO.cells (show lk (St.o _) 2 = some _ from by assumption) (FCs.cons ((tip_Sapi_Ent_fit ew2_0 rfl).1) (FCs.cons ((tip_u64_fit ew2_1 rfl).1) (FCs.cons ((tip_Sapi_Who_fit ew2_2 rfl).1) (FCs.cons ((tip_i64_fit ew2_3 rfl).1) (FCs.cons ((tip_Sapi_Rule_fit ew2_4 rfl).1) (FCs.nil))))))), List.forall_mem_cons.2 ⟨(tip_Sapi_Ent_fit ew2_0 rfl).2, List.forall_mem_cons.2 ⟨(tip_u64_fit ew2_1 rfl).2, List.forall_mem_cons.2 ⟨(tip_Sapi_Who_fit ew2_2 rfl).2, List.forall_mem_cons.2 ⟨(tip_i64_fit ew2_3 rfl).2, List.forall_mem_cons.2 ⟨(tip_Sapi_Rule_fit ew2_4 rfl).2, List.forall_mem_cons.2 ⟨(FO.cells (show lk (St.o _) 4 = some _ from by assumption) (FCs.cons ((tip_Sapi_Ent_fit ew4_0 rfl).1) (FCs.cons ((tip_u64_fit ew4_1 rfl).1) (FCs.cons ((tip_Sapi_Who_fit ew4_2 rfl).1) (FCs.cons ((tip_i64_fit ew4_3 rfl).1) (FCs.cons ((tip_Sapi_Rule_fit ew4_4 rfl).1) (FCs.nil))))))), List.forall_mem_cons.2 ⟨(tip_Sapi_Ent_fit ew4_0 rfl).2, List.forall_mem_cons.2 ⟨(tip_u64_fit ew4_1 rfl).2, List.forall_mem_cons.2 ⟨(tip_Sapi_Who_fit ew4_2 rfl).2, List.forall_mem_cons.2 ⟨(tip_i64_fit ew4_3 rfl).2, List.forall_mem_cons.2 ⟨(tip_Sapi_Rule_fit ew4_4 rfl).2, List.forall_mem_cons.2 ⟨(FO.same (show lk (St.o _) 15 = some _ from by assumption) rfl), fun _ hp => (List.not_mem_nil hp).elim⟩⟩⟩⟩⟩⟩⟩⟩⟩⟩⟩⟩⟩
    · cases h1
  · cases h
noncomputable def pyxhand_Policy.j37001.fin (y : (List Int × Int × Int × List Sapi_Ent × List Int × List Sapi_Who × List Int × List Sapi_Rule × List Sapi_Ent × List Int × List Sapi_Who × List Int × List Sapi_Rule)) : Out U := match y with | (x285, x291, x297, x286, x287, x288, x289, x290, x292, x293, x294, x295, x296) => .norm ⟨[(2, .ptr 2 0), (4, .ptr 4 0), (0, .row C.i64 x285), (3, .flat (.int .i64 x291)), (14, .flat (.int .i64 x297))], [(2, .lit [.tip 105700100200 C.Sapi_Ent x286, .tip 105700100201 C.u64 x287, .tip 105700100202 C.Sapi_Who x288, .tip 105700100203 C.i64 x289, .tip 105700100204 C.Sapi_Rule x290]), (105700100200, .tip 4), (105700100201, .tip 1), (105700100202, .tip 3), (105700100203, .tip 1), (105700100204, .tip 12), (4, .lit [.tip 105700100400 C.Sapi_Ent x292, .tip 105700100401 C.u64 x293, .tip 105700100402 C.Sapi_Who x294, .tip 105700100403 C.i64 x295, .tip 105700100404 C.Sapi_Rule x296]), (105700100400, .tip 4), (105700100401, .tip 1), (105700100402, .tip 3), (105700100403, .tip 1), (105700100404, .tip 12)]⟩
noncomputable def pyxhand_Policy.j37001.finK {ρ : Type} (y : (List Int × Int × Int × List Sapi_Ent × List Int × List Sapi_Who × List Int × List Sapi_Rule × List Sapi_Ent × List Int × List Sapi_Who × List Int × List Sapi_Rule)) (K : Out U → Option ρ) : Option ρ := match y with | (x285, x291, x297, x286, x287, x288, x289, x290, x292, x293, x294, x295, x296) => K (.norm ⟨[(2, .ptr 2 0), (4, .ptr 4 0), (0, .row C.i64 x285), (3, .flat (.int .i64 x291)), (14, .flat (.int .i64 x297))], [(2, .lit [.tip 105700100200 C.Sapi_Ent x286, .tip 105700100201 C.u64 x287, .tip 105700100202 C.Sapi_Who x288, .tip 105700100203 C.i64 x289, .tip 105700100204 C.Sapi_Rule x290]), (105700100200, .tip 4), (105700100201, .tip 1), (105700100202, .tip 3), (105700100203, .tip 1), (105700100204, .tip 12), (4, .lit [.tip 105700100400 C.Sapi_Ent x292, .tip 105700100401 C.u64 x293, .tip 105700100402 C.Sapi_Who x294, .tip 105700100403 C.i64 x295, .tip 105700100404 C.Sapi_Rule x296]), (105700100400, .tip 4), (105700100401, .tip 1), (105700100402, .tip 3), (105700100403, .tip 1), (105700100404, .tip 12)]⟩)
theorem pyxhand_Policy.j37001.finK_eq {ρ : Type} (y : (List Int × Int × Int × List Sapi_Ent × List Int × List Sapi_Who × List Int × List Sapi_Rule × List Sapi_Ent × List Int × List Sapi_Who × List Int × List Sapi_Rule)) (K : Out U → Option ρ) : pyxhand_Policy.j37001.finK y K = K (pyxhand_Policy.j37001.fin y) := by
  unfold pyxhand_Policy.j37001.finK pyxhand_Policy.j37001.fin
  first | rfl | (split <;> rfl)
noncomputable def pyxhand_Policy.j37001.re : Out U → Option ((List Int × Int × Int × List Sapi_Ent × List Int × List Sapi_Who × List Int × List Sapi_Rule × List Sapi_Ent × List Int × List Sapi_Who × List Int × List Sapi_Rule)) | .norm s => ((row_i64 (s.get 0)).bind fun q0 => (match s.get 2, s.get 4, s.get 3, s.get 14, lk s.o 2, lk s.o 4 with | .ptr 2 0, .ptr 4 0, .flat (.int .i64 x291), .flat (.int .i64 x297), some (.lit [u2_0, u2_1, u2_2, u2_3, u2_4]), some (.lit [u4_0, u4_1, u4_2, u4_3, u4_4]) => (tip_Sapi_Ent s.o 4 u2_0).bind fun w2_0 => ((tip_u64 s.o 1 u2_1).bind fun w2_1 => ((tip_Sapi_Who s.o 3 u2_2).bind fun w2_2 => ((tip_i64 s.o 1 u2_3).bind fun w2_3 => ((tip_Sapi_Rule s.o 12 u2_4).bind fun w2_4 => ((tip_Sapi_Ent s.o 4 u4_0).bind fun w4_0 => ((tip_u64 s.o 1 u4_1).bind fun w4_1 => ((tip_Sapi_Who s.o 3 u4_2).bind fun w4_2 => ((tip_i64 s.o 1 u4_3).bind fun w4_3 => ((tip_Sapi_Rule s.o 12 u4_4).bind fun w4_4 => (cond (apart [w2_0.1, w2_1.1, w2_2.1, w2_3.1, w2_4.1, w4_0.1, w4_1.1, w4_2.1, w4_3.1, w4_4.1]) (some (q0, x291, x297, w2_0.2, w2_1.2, w2_2.2, w2_3.2, w2_4.2, w4_0.2, w4_1.2, w4_2.2, w4_3.2, w4_4.2)) none)))))))))) | _, _, _, _, _, _ => none)) | _ => none
noncomputable def pyxhand_Policy.j37001.J : JDen U := { Y := (List Int × Int × Int × List Sapi_Ent × List Int × List Sapi_Who × List Int × List Sapi_Rule × List Sapi_Ent × List Int × List Sapi_Who × List Int × List Sapi_Rule), re := pyxhand_Policy.j37001.re, fin := pyxhand_Policy.j37001.fin, finK := pyxhand_Policy.j37001.finK, finK_eq := pyxhand_Policy.j37001.finK_eq }
theorem pyxhand_Policy.j37001.fit (o : Out U) (y : (List Int × Int × Int × List Sapi_Ent × List Int × List Sapi_Who × List Int × List Sapi_Rule × List Sapi_Ent × List Int × List Sapi_Who × List Int × List Sapi_Rule)) (h : pyxhand_Policy.j37001.re o = some y) : FitsO o (pyxhand_Policy.j37001.fin y) := by
  unfold pyxhand_Policy.j37001.re at h
  split at h
  · obtain ⟨q0, eq0, h1⟩ := Option.bind_eq_some_iff.1 h
    split at h1
    · obtain ⟨w2_0, ew2_0, h2⟩ := Option.bind_eq_some_iff.1 h1
      obtain ⟨w2_1, ew2_1, h3⟩ := Option.bind_eq_some_iff.1 h2
      obtain ⟨w2_2, ew2_2, h4⟩ := Option.bind_eq_some_iff.1 h3
      obtain ⟨w2_3, ew2_3, h5⟩ := Option.bind_eq_some_iff.1 h4
      obtain ⟨w2_4, ew2_4, h6⟩ := Option.bind_eq_some_iff.1 h5
      obtain ⟨w4_0, ew4_0, h7⟩ := Option.bind_eq_some_iff.1 h6
      obtain ⟨w4_1, ew4_1, h8⟩ := Option.bind_eq_some_iff.1 h7
      obtain ⟨w4_2, ew4_2, h9⟩ := Option.bind_eq_some_iff.1 h8
      obtain ⟨w4_3, ew4_3, h10⟩ := Option.bind_eq_some_iff.1 h9
      obtain ⟨w4_4, ew4_4, h11⟩ := Option.bind_eq_some_iff.1 h10
      obtain ⟨hap, h12⟩ := cond_none h11
      cases h12
      refine fitsO_norm (fits_ren [(105700100200, w2_0.1), (105700100201, w2_1.1), (105700100202, w2_2.1), (105700100203, w2_3.1), (105700100204, w2_4.1), (105700100400, w4_0.1), (105700100401, w4_1.1), (105700100402, w4_2.1), (105700100403, w4_3.1), (105700100404, w4_4.1)] ?_ ?_ (ren_apart hap) rfl)
      · exact List.forall_mem_cons.2 ⟨FV.one (FV.ptr (by assumption)), List.forall_mem_cons.2 ⟨FV.one (FV.ptr (by assumption)), List.forall_mem_cons.2 ⟨FV.one (row_i64_fit eq0), List.forall_mem_cons.2 ⟨FV.one (FV.same (by assumption) rfl), List.forall_mem_cons.2 ⟨FV.one (FV.same (by assumption) rfl), fun _ hp => (List.not_mem_nil hp).elim⟩⟩⟩⟩⟩
      · exact List.forall_mem_cons.2 ⟨(FO.cells (show lk (St.o _) 2 = some _ from by assumption) (FCs.cons ((tip_Sapi_Ent_fit ew2_0 rfl).1) (FCs.cons ((tip_u64_fit ew2_1 rfl).1) (FCs.cons ((tip_Sapi_Who_fit ew2_2 rfl).1) (FCs.cons ((tip_i64_fit ew2_3 rfl).1) (FCs.cons ((tip_Sapi_Rule_fit ew2_4 rfl).1) (FCs.nil))))))), List.forall_mem_cons.2 ⟨(tip_Sapi_Ent_fit ew2_0 rfl).2, List.forall_mem_cons.2 ⟨(tip_u64_fit ew2_1 rfl).2, List.forall_mem_cons.2 ⟨(tip_Sapi_Who_fit ew2_2 rfl).2, List.forall_mem_cons.2 ⟨(tip_i64_fit ew2_3 rfl).2, List.forall_mem_cons.2 ⟨(tip_Sapi_Rule_fit ew2_4 rfl).2, List.forall_mem_cons.2 ⟨(FO.cells (show lk (St.o _) 4 = some _ from by assumption) (FCs.cons ((tip_Sapi_Ent_fit ew4_0 rfl).1) (FCs.cons ((tip_u64_fit ew4_1 rfl).1) (FCs.cons ((tip_Sapi_Who_fit ew4_2 rfl).1) (FCs.cons ((tip_i64_fit ew4_3 rfl).1) (FCs.cons ((tip_Sapi_Rule_fit ew4_4 rfl).1) (FCs.nil))))))), List.forall_mem_cons.2 ⟨(tip_Sapi_Ent_fit ew4_0 rfl).2, List.forall_mem_cons.2 ⟨(tip_u64_fit ew4_1 rfl).2, List.forall_mem_cons.2 ⟨(tip_Sapi_Who_fit ew4_2 rfl).2, List.forall_mem_cons.2 ⟨(tip_i64_fit ew4_3 rfl).2, List.forall_mem_cons.2 ⟨(tip_Sapi_Rule_fit ew4_4 rfl).2, fun _ hp => (List.not_mem_nil hp).elim⟩⟩⟩⟩⟩⟩⟩⟩⟩⟩⟩⟩
    · cases h1
  · cases h
noncomputable def pyxhand_Policy.jl : List (Nat × JDen U) := [(7000, pyxhand_Policy.j7000.J), (8001, pyxhand_Policy.j8001.J), (6001, pyxhand_Policy.j6001.J), (16001, pyxhand_Policy.j16001.J), (39001, pyxhand_Policy.j39001.J), (37001, pyxhand_Policy.j37001.J)]
noncomputable def pyxhand_Policy.fl (k : Nat) : List (Nat × FDen U) := [(75, pyxhand_at.D k), (21, pyxhand_Pick.D k), (52, pyxref1_Of.D k)]
noncomputable def pyxhand_Policy.ll (k : Nat) : List (Nat × LDen U) := [(4, pyxhand_Policy.l4.L k), (14, pyxhand_Policy.l14.L k), (22, pyxhand_Policy.l22.L k), (26, pyxhand_Policy.l26.L k), (30, pyxhand_Policy.l30.L k), (35, pyxhand_Policy.l35.L k)]
noncomputable def pyxhand_Policy.E (k : Nat) : Env U := { P := Try.prog, D := DD, fd := lk (pyxhand_Policy.fl k), ld := lk (pyxhand_Policy.ll k), jd := lk pyxhand_Policy.jl, mode := lk [(105, (4, C.i64)), (106, (4, C.Sapi_Dec))], elc := lk ec, mpc := lk mc, rts := Try.f42.resultTypes.toList, dyn := fun t => false, vecs := fun d => false, results := Try.f42.results.toList, gh := [], own := false, io := fun g i => false }
theorem pyxhand_Policy.ok (k : Nat) : EnvOk (pyxhand_Policy.E k) := envOk lawful (pyxhand_Policy.fl k) (pyxhand_Policy.ll k) pyxhand_Policy.jl _ _ _ _ _ _ _ _ _ _ (by
  intro p hp
  simp only [pyxhand_Policy.fl, List.mem_cons, List.not_mem_nil, or_false] at hp
  rcases hp with rfl | rfl | rfl
  · exact ⟨pyxhand_at.sound k, enter_of Try.func75 (by kernel_rfl) (by kernel_rfl)⟩
  · exact ⟨pyxhand_Pick.sound k, enter_of Try.func21 (by kernel_rfl) (by kernel_rfl)⟩
  · exact ⟨pyxref1_Of.sound k, enter_of Try.func52 (by kernel_rfl) (by kernel_rfl)⟩) (by
  intro p hp
  simp only [pyxhand_Policy.jl, List.mem_cons, List.not_mem_nil, or_false] at hp
  rcases hp with rfl | rfl | rfl | rfl | rfl | rfl
  · exact pyxhand_Policy.j7000.fit
  · exact pyxhand_Policy.j8001.fit
  · exact pyxhand_Policy.j6001.fit
  · exact pyxhand_Policy.j16001.fit
  · exact pyxhand_Policy.j39001.fit
  · exact pyxhand_Policy.j37001.fit)
theorem pyxhand_Policy.l4.eq (k : Nat) (x : (List Int × Int × Int × List Sapi_Ent × List Int × List Sapi_Who × List Int × List Sapi_Rule × List Sapi_Ent × List Int × List Sapi_Who × List Int × List Sapi_Rule)) : evC (pyxhand_Policy.E k) (loopAt Try.f42 4) (pyxhand_Policy.l4.mk x) (headK pyxhand_Policy.l4.un pyxhand_Policy.l4.re) = pyxhand_Policy.l4.once k x := by kernel_rfl
theorem pyxhand_Policy.l4.fit (s : St U) (x : (List Int × Int × Int × List Sapi_Ent × List Int × List Sapi_Who × List Int × List Sapi_Rule × List Sapi_Ent × List Int × List Sapi_Who × List Int × List Sapi_Rule)) (h : pyxhand_Policy.l4.un s = some x) : Fits s (pyxhand_Policy.l4.mk x) := by
  unfold pyxhand_Policy.l4.un at h
  obtain ⟨q0, eq0, h1⟩ := Option.bind_eq_some_iff.1 h
  split at h1
  · obtain ⟨w2_0, ew2_0, h2⟩ := Option.bind_eq_some_iff.1 h1
    obtain ⟨w2_1, ew2_1, h3⟩ := Option.bind_eq_some_iff.1 h2
    obtain ⟨w2_2, ew2_2, h4⟩ := Option.bind_eq_some_iff.1 h3
    obtain ⟨w2_3, ew2_3, h5⟩ := Option.bind_eq_some_iff.1 h4
    obtain ⟨w2_4, ew2_4, h6⟩ := Option.bind_eq_some_iff.1 h5
    obtain ⟨w4_0, ew4_0, h7⟩ := Option.bind_eq_some_iff.1 h6
    obtain ⟨w4_1, ew4_1, h8⟩ := Option.bind_eq_some_iff.1 h7
    obtain ⟨w4_2, ew4_2, h9⟩ := Option.bind_eq_some_iff.1 h8
    obtain ⟨w4_3, ew4_3, h10⟩ := Option.bind_eq_some_iff.1 h9
    obtain ⟨w4_4, ew4_4, h11⟩ := Option.bind_eq_some_iff.1 h10
    obtain ⟨hap, h12⟩ := cond_none h11
    cases h12
    refine fits_ren [(2000400200, w2_0.1), (2000400201, w2_1.1), (2000400202, w2_2.1), (2000400203, w2_3.1), (2000400204, w2_4.1), (2000400400, w4_0.1), (2000400401, w4_1.1), (2000400402, w4_2.1), (2000400403, w4_3.1), (2000400404, w4_4.1)] ?_ ?_ (ren_apart hap) rfl
    · exact List.forall_mem_cons.2 ⟨FV.one (FV.ptr (by assumption)), List.forall_mem_cons.2 ⟨FV.one (FV.ptr (by assumption)), List.forall_mem_cons.2 ⟨FV.one (row_i64_fit eq0), List.forall_mem_cons.2 ⟨FV.one (FV.same (by assumption) rfl), List.forall_mem_cons.2 ⟨FV.one (FV.same (by assumption) rfl), fun _ hp => (List.not_mem_nil hp).elim⟩⟩⟩⟩⟩
    · exact List.forall_mem_cons.2 ⟨(FO.cells (show lk (St.o _) 2 = some _ from by assumption) (FCs.cons ((tip_Sapi_Ent_fit ew2_0 rfl).1) (FCs.cons ((tip_u64_fit ew2_1 rfl).1) (FCs.cons ((tip_Sapi_Who_fit ew2_2 rfl).1) (FCs.cons ((tip_i64_fit ew2_3 rfl).1) (FCs.cons ((tip_Sapi_Rule_fit ew2_4 rfl).1) (FCs.nil))))))), List.forall_mem_cons.2 ⟨(tip_Sapi_Ent_fit ew2_0 rfl).2, List.forall_mem_cons.2 ⟨(tip_u64_fit ew2_1 rfl).2, List.forall_mem_cons.2 ⟨(tip_Sapi_Who_fit ew2_2 rfl).2, List.forall_mem_cons.2 ⟨(tip_i64_fit ew2_3 rfl).2, List.forall_mem_cons.2 ⟨(tip_Sapi_Rule_fit ew2_4 rfl).2, List.forall_mem_cons.2 ⟨(FO.cells (show lk (St.o _) 4 = some _ from by assumption) (FCs.cons ((tip_Sapi_Ent_fit ew4_0 rfl).1) (FCs.cons ((tip_u64_fit ew4_1 rfl).1) (FCs.cons ((tip_Sapi_Who_fit ew4_2 rfl).1) (FCs.cons ((tip_i64_fit ew4_3 rfl).1) (FCs.cons ((tip_Sapi_Rule_fit ew4_4 rfl).1) (FCs.nil))))))), List.forall_mem_cons.2 ⟨(tip_Sapi_Ent_fit ew4_0 rfl).2, List.forall_mem_cons.2 ⟨(tip_u64_fit ew4_1 rfl).2, List.forall_mem_cons.2 ⟨(tip_Sapi_Who_fit ew4_2 rfl).2, List.forall_mem_cons.2 ⟨(tip_i64_fit ew4_3 rfl).2, List.forall_mem_cons.2 ⟨(tip_Sapi_Rule_fit ew4_4 rfl).2, fun _ hp => (List.not_mem_nil hp).elim⟩⟩⟩⟩⟩⟩⟩⟩⟩⟩⟩⟩
  · cases h1
theorem pyxhand_Policy.l4.fitO (o : Out U) (y : (List Int × Int × List Sapi_Ent × List Int × List Sapi_Who × List Int × List Sapi_Rule × List Sapi_Ent × List Int × List Sapi_Who × List Int × List Sapi_Rule)) (h : pyxhand_Policy.l4.re o = some y) : FitsO o (pyxhand_Policy.l4.fin y) := by
  unfold pyxhand_Policy.l4.re at h
  split at h
  · obtain ⟨q0, eq0, h1⟩ := Option.bind_eq_some_iff.1 h
    split at h1
    · obtain ⟨w2_0, ew2_0, h2⟩ := Option.bind_eq_some_iff.1 h1
      obtain ⟨w2_1, ew2_1, h3⟩ := Option.bind_eq_some_iff.1 h2
      obtain ⟨w2_2, ew2_2, h4⟩ := Option.bind_eq_some_iff.1 h3
      obtain ⟨w2_3, ew2_3, h5⟩ := Option.bind_eq_some_iff.1 h4
      obtain ⟨w2_4, ew2_4, h6⟩ := Option.bind_eq_some_iff.1 h5
      obtain ⟨w4_0, ew4_0, h7⟩ := Option.bind_eq_some_iff.1 h6
      obtain ⟨w4_1, ew4_1, h8⟩ := Option.bind_eq_some_iff.1 h7
      obtain ⟨w4_2, ew4_2, h9⟩ := Option.bind_eq_some_iff.1 h8
      obtain ⟨w4_3, ew4_3, h10⟩ := Option.bind_eq_some_iff.1 h9
      obtain ⟨w4_4, ew4_4, h11⟩ := Option.bind_eq_some_iff.1 h10
      obtain ⟨hap, h12⟩ := cond_none h11
      cases h12
      refine fitsO_exit (fits_ren [(2000400200, w2_0.1), (2000400201, w2_1.1), (2000400202, w2_2.1), (2000400203, w2_3.1), (2000400204, w2_4.1), (2000400400, w4_0.1), (2000400401, w4_1.1), (2000400402, w4_2.1), (2000400403, w4_3.1), (2000400404, w4_4.1)] ?_ ?_ (ren_apart hap) rfl)
      · exact List.forall_mem_cons.2 ⟨FV.one (FV.ptr (by assumption)), List.forall_mem_cons.2 ⟨FV.one (FV.ptr (by assumption)), List.forall_mem_cons.2 ⟨FV.one (row_i64_fit eq0), List.forall_mem_cons.2 ⟨FV.one (FV.same (by assumption) rfl), fun _ hp => (List.not_mem_nil hp).elim⟩⟩⟩⟩
      · exact List.forall_mem_cons.2 ⟨(FO.cells (show lk (St.o _) 2 = some _ from by assumption) (FCs.cons ((tip_Sapi_Ent_fit ew2_0 rfl).1) (FCs.cons ((tip_u64_fit ew2_1 rfl).1) (FCs.cons ((tip_Sapi_Who_fit ew2_2 rfl).1) (FCs.cons ((tip_i64_fit ew2_3 rfl).1) (FCs.cons ((tip_Sapi_Rule_fit ew2_4 rfl).1) (FCs.nil))))))), List.forall_mem_cons.2 ⟨(tip_Sapi_Ent_fit ew2_0 rfl).2, List.forall_mem_cons.2 ⟨(tip_u64_fit ew2_1 rfl).2, List.forall_mem_cons.2 ⟨(tip_Sapi_Who_fit ew2_2 rfl).2, List.forall_mem_cons.2 ⟨(tip_i64_fit ew2_3 rfl).2, List.forall_mem_cons.2 ⟨(tip_Sapi_Rule_fit ew2_4 rfl).2, List.forall_mem_cons.2 ⟨(FO.cells (show lk (St.o _) 4 = some _ from by assumption) (FCs.cons ((tip_Sapi_Ent_fit ew4_0 rfl).1) (FCs.cons ((tip_u64_fit ew4_1 rfl).1) (FCs.cons ((tip_Sapi_Who_fit ew4_2 rfl).1) (FCs.cons ((tip_i64_fit ew4_3 rfl).1) (FCs.cons ((tip_Sapi_Rule_fit ew4_4 rfl).1) (FCs.nil))))))), List.forall_mem_cons.2 ⟨(tip_Sapi_Ent_fit ew4_0 rfl).2, List.forall_mem_cons.2 ⟨(tip_u64_fit ew4_1 rfl).2, List.forall_mem_cons.2 ⟨(tip_Sapi_Who_fit ew4_2 rfl).2, List.forall_mem_cons.2 ⟨(tip_i64_fit ew4_3 rfl).2, List.forall_mem_cons.2 ⟨(tip_Sapi_Rule_fit ew4_4 rfl).2, fun _ hp => (List.not_mem_nil hp).elim⟩⟩⟩⟩⟩⟩⟩⟩⟩⟩⟩⟩
    · cases h1
  · cases h
theorem pyxhand_Policy.l4.sound (k : Nat) : LSound (pyxhand_Policy.E k) Try.f42.ntmps Try.f42 (loopAt Try.f42 4) (pyxhand_Policy.l4.L k) :=
  loop_sound (pyxhand_Policy.ok k) mixed rfl (by kernel_rfl) (allL_of (l := []) (by kernel_rfl) allL_nil) pyxhand_Policy.l4.un pyxhand_Policy.l4.mk pyxhand_Policy.l4.fin pyxhand_Policy.l4.re (pyxhand_Policy.l4.once k) k pyxhand_Policy.l4.fit pyxhand_Policy.l4.fitO (pyxhand_Policy.l4.eq k) pyxhand_Policy.l4.finK pyxhand_Policy.l4.finK_eq
theorem pyxhand_Policy.l14.eq (k : Nat) (x : (List Int × Int × Int × List Sapi_Ent × List Int × List Sapi_Who × List Int × List Sapi_Rule × List Sapi_Ent × List Int × List Sapi_Who × List Int × List Sapi_Rule)) : evC (pyxhand_Policy.E k) (loopAt Try.f42 14) (pyxhand_Policy.l14.mk x) (headK pyxhand_Policy.l14.un pyxhand_Policy.l14.re) = pyxhand_Policy.l14.once k x := by kernel_rfl
theorem pyxhand_Policy.l14.fit (s : St U) (x : (List Int × Int × Int × List Sapi_Ent × List Int × List Sapi_Who × List Int × List Sapi_Rule × List Sapi_Ent × List Int × List Sapi_Who × List Int × List Sapi_Rule)) (h : pyxhand_Policy.l14.un s = some x) : Fits s (pyxhand_Policy.l14.mk x) := by
  unfold pyxhand_Policy.l14.un at h
  obtain ⟨q0, eq0, h1⟩ := Option.bind_eq_some_iff.1 h
  split at h1
  · obtain ⟨w2_0, ew2_0, h2⟩ := Option.bind_eq_some_iff.1 h1
    obtain ⟨w2_1, ew2_1, h3⟩ := Option.bind_eq_some_iff.1 h2
    obtain ⟨w2_2, ew2_2, h4⟩ := Option.bind_eq_some_iff.1 h3
    obtain ⟨w2_3, ew2_3, h5⟩ := Option.bind_eq_some_iff.1 h4
    obtain ⟨w2_4, ew2_4, h6⟩ := Option.bind_eq_some_iff.1 h5
    obtain ⟨w4_0, ew4_0, h7⟩ := Option.bind_eq_some_iff.1 h6
    obtain ⟨w4_1, ew4_1, h8⟩ := Option.bind_eq_some_iff.1 h7
    obtain ⟨w4_2, ew4_2, h9⟩ := Option.bind_eq_some_iff.1 h8
    obtain ⟨w4_3, ew4_3, h10⟩ := Option.bind_eq_some_iff.1 h9
    obtain ⟨w4_4, ew4_4, h11⟩ := Option.bind_eq_some_iff.1 h10
    obtain ⟨hap, h12⟩ := cond_none h11
    cases h12
    refine fits_ren [(2001400200, w2_0.1), (2001400201, w2_1.1), (2001400202, w2_2.1), (2001400203, w2_3.1), (2001400204, w2_4.1), (2001400400, w4_0.1), (2001400401, w4_1.1), (2001400402, w4_2.1), (2001400403, w4_3.1), (2001400404, w4_4.1)] ?_ ?_ (ren_apart hap) rfl
    · exact List.forall_mem_cons.2 ⟨FV.one (FV.ptr (by assumption)), List.forall_mem_cons.2 ⟨FV.one (FV.ptr (by assumption)), List.forall_mem_cons.2 ⟨FV.one (row_i64_fit eq0), List.forall_mem_cons.2 ⟨FV.one (FV.same (by assumption) rfl), List.forall_mem_cons.2 ⟨FV.one (FV.same (by assumption) rfl), fun _ hp => (List.not_mem_nil hp).elim⟩⟩⟩⟩⟩
    · exact List.forall_mem_cons.2 ⟨(FO.cells (show lk (St.o _) 2 = some _ from by assumption) (FCs.cons ((tip_Sapi_Ent_fit ew2_0 rfl).1) (FCs.cons ((tip_u64_fit ew2_1 rfl).1) (FCs.cons ((tip_Sapi_Who_fit ew2_2 rfl).1) (FCs.cons ((tip_i64_fit ew2_3 rfl).1) (FCs.cons ((tip_Sapi_Rule_fit ew2_4 rfl).1) (FCs.nil))))))), List.forall_mem_cons.2 ⟨(tip_Sapi_Ent_fit ew2_0 rfl).2, List.forall_mem_cons.2 ⟨(tip_u64_fit ew2_1 rfl).2, List.forall_mem_cons.2 ⟨(tip_Sapi_Who_fit ew2_2 rfl).2, List.forall_mem_cons.2 ⟨(tip_i64_fit ew2_3 rfl).2, List.forall_mem_cons.2 ⟨(tip_Sapi_Rule_fit ew2_4 rfl).2, List.forall_mem_cons.2 ⟨(FO.cells (show lk (St.o _) 4 = some _ from by assumption) (FCs.cons ((tip_Sapi_Ent_fit ew4_0 rfl).1) (FCs.cons ((tip_u64_fit ew4_1 rfl).1) (FCs.cons ((tip_Sapi_Who_fit ew4_2 rfl).1) (FCs.cons ((tip_i64_fit ew4_3 rfl).1) (FCs.cons ((tip_Sapi_Rule_fit ew4_4 rfl).1) (FCs.nil))))))), List.forall_mem_cons.2 ⟨(tip_Sapi_Ent_fit ew4_0 rfl).2, List.forall_mem_cons.2 ⟨(tip_u64_fit ew4_1 rfl).2, List.forall_mem_cons.2 ⟨(tip_Sapi_Who_fit ew4_2 rfl).2, List.forall_mem_cons.2 ⟨(tip_i64_fit ew4_3 rfl).2, List.forall_mem_cons.2 ⟨(tip_Sapi_Rule_fit ew4_4 rfl).2, fun _ hp => (List.not_mem_nil hp).elim⟩⟩⟩⟩⟩⟩⟩⟩⟩⟩⟩⟩
  · cases h1
theorem pyxhand_Policy.l14.fitO (o : Out U) (y : (List Int × Int × List Sapi_Ent × List Int × List Sapi_Who × List Int × List Sapi_Rule × List Sapi_Ent × List Int × List Sapi_Who × List Int × List Sapi_Rule)) (h : pyxhand_Policy.l14.re o = some y) : FitsO o (pyxhand_Policy.l14.fin y) := by
  unfold pyxhand_Policy.l14.re at h
  split at h
  · obtain ⟨q0, eq0, h1⟩ := Option.bind_eq_some_iff.1 h
    split at h1
    · obtain ⟨w2_0, ew2_0, h2⟩ := Option.bind_eq_some_iff.1 h1
      obtain ⟨w2_1, ew2_1, h3⟩ := Option.bind_eq_some_iff.1 h2
      obtain ⟨w2_2, ew2_2, h4⟩ := Option.bind_eq_some_iff.1 h3
      obtain ⟨w2_3, ew2_3, h5⟩ := Option.bind_eq_some_iff.1 h4
      obtain ⟨w2_4, ew2_4, h6⟩ := Option.bind_eq_some_iff.1 h5
      obtain ⟨w4_0, ew4_0, h7⟩ := Option.bind_eq_some_iff.1 h6
      obtain ⟨w4_1, ew4_1, h8⟩ := Option.bind_eq_some_iff.1 h7
      obtain ⟨w4_2, ew4_2, h9⟩ := Option.bind_eq_some_iff.1 h8
      obtain ⟨w4_3, ew4_3, h10⟩ := Option.bind_eq_some_iff.1 h9
      obtain ⟨w4_4, ew4_4, h11⟩ := Option.bind_eq_some_iff.1 h10
      obtain ⟨hap, h12⟩ := cond_none h11
      cases h12
      refine fitsO_exit (fits_ren [(2001400200, w2_0.1), (2001400201, w2_1.1), (2001400202, w2_2.1), (2001400203, w2_3.1), (2001400204, w2_4.1), (2001400400, w4_0.1), (2001400401, w4_1.1), (2001400402, w4_2.1), (2001400403, w4_3.1), (2001400404, w4_4.1)] ?_ ?_ (ren_apart hap) rfl)
      · exact List.forall_mem_cons.2 ⟨FV.one (FV.ptr (by assumption)), List.forall_mem_cons.2 ⟨FV.one (FV.ptr (by assumption)), List.forall_mem_cons.2 ⟨FV.one (row_i64_fit eq0), List.forall_mem_cons.2 ⟨FV.one (FV.same (by assumption) rfl), fun _ hp => (List.not_mem_nil hp).elim⟩⟩⟩⟩
      · exact List.forall_mem_cons.2 ⟨(FO.cells (show lk (St.o _) 2 = some _ from by assumption) (FCs.cons ((tip_Sapi_Ent_fit ew2_0 rfl).1) (FCs.cons ((tip_u64_fit ew2_1 rfl).1) (FCs.cons ((tip_Sapi_Who_fit ew2_2 rfl).1) (FCs.cons ((tip_i64_fit ew2_3 rfl).1) (FCs.cons ((tip_Sapi_Rule_fit ew2_4 rfl).1) (FCs.nil))))))), List.forall_mem_cons.2 ⟨(tip_Sapi_Ent_fit ew2_0 rfl).2, List.forall_mem_cons.2 ⟨(tip_u64_fit ew2_1 rfl).2, List.forall_mem_cons.2 ⟨(tip_Sapi_Who_fit ew2_2 rfl).2, List.forall_mem_cons.2 ⟨(tip_i64_fit ew2_3 rfl).2, List.forall_mem_cons.2 ⟨(tip_Sapi_Rule_fit ew2_4 rfl).2, List.forall_mem_cons.2 ⟨(FO.cells (show lk (St.o _) 4 = some _ from by assumption) (FCs.cons ((tip_Sapi_Ent_fit ew4_0 rfl).1) (FCs.cons ((tip_u64_fit ew4_1 rfl).1) (FCs.cons ((tip_Sapi_Who_fit ew4_2 rfl).1) (FCs.cons ((tip_i64_fit ew4_3 rfl).1) (FCs.cons ((tip_Sapi_Rule_fit ew4_4 rfl).1) (FCs.nil))))))), List.forall_mem_cons.2 ⟨(tip_Sapi_Ent_fit ew4_0 rfl).2, List.forall_mem_cons.2 ⟨(tip_u64_fit ew4_1 rfl).2, List.forall_mem_cons.2 ⟨(tip_Sapi_Who_fit ew4_2 rfl).2, List.forall_mem_cons.2 ⟨(tip_i64_fit ew4_3 rfl).2, List.forall_mem_cons.2 ⟨(tip_Sapi_Rule_fit ew4_4 rfl).2, fun _ hp => (List.not_mem_nil hp).elim⟩⟩⟩⟩⟩⟩⟩⟩⟩⟩⟩⟩
    · cases h1
  · cases h
theorem pyxhand_Policy.l14.sound (k : Nat) : LSound (pyxhand_Policy.E k) Try.f42.ntmps Try.f42 (loopAt Try.f42 14) (pyxhand_Policy.l14.L k) :=
  loop_sound (pyxhand_Policy.ok k) mixed rfl (by kernel_rfl) (allL_of (l := []) (by kernel_rfl) allL_nil) pyxhand_Policy.l14.un pyxhand_Policy.l14.mk pyxhand_Policy.l14.fin pyxhand_Policy.l14.re (pyxhand_Policy.l14.once k) k pyxhand_Policy.l14.fit pyxhand_Policy.l14.fitO (pyxhand_Policy.l14.eq k) pyxhand_Policy.l14.finK pyxhand_Policy.l14.finK_eq
theorem pyxhand_Policy.l22.eq (k : Nat) (x : (List Int × Int × Int × List Sapi_Ent × List Int × List Sapi_Who × List Int × List Sapi_Rule × List Sapi_Ent × List Int × List Sapi_Who × List Int × List Sapi_Rule)) : evC (pyxhand_Policy.E k) (loopAt Try.f42 22) (pyxhand_Policy.l22.mk x) (headK pyxhand_Policy.l22.un pyxhand_Policy.l22.re) = pyxhand_Policy.l22.once k x := by kernel_rfl
theorem pyxhand_Policy.l22.fit (s : St U) (x : (List Int × Int × Int × List Sapi_Ent × List Int × List Sapi_Who × List Int × List Sapi_Rule × List Sapi_Ent × List Int × List Sapi_Who × List Int × List Sapi_Rule)) (h : pyxhand_Policy.l22.un s = some x) : Fits s (pyxhand_Policy.l22.mk x) := by
  unfold pyxhand_Policy.l22.un at h
  obtain ⟨q0, eq0, h1⟩ := Option.bind_eq_some_iff.1 h
  split at h1
  · obtain ⟨w2_0, ew2_0, h2⟩ := Option.bind_eq_some_iff.1 h1
    obtain ⟨w2_1, ew2_1, h3⟩ := Option.bind_eq_some_iff.1 h2
    obtain ⟨w2_2, ew2_2, h4⟩ := Option.bind_eq_some_iff.1 h3
    obtain ⟨w2_3, ew2_3, h5⟩ := Option.bind_eq_some_iff.1 h4
    obtain ⟨w2_4, ew2_4, h6⟩ := Option.bind_eq_some_iff.1 h5
    obtain ⟨w4_0, ew4_0, h7⟩ := Option.bind_eq_some_iff.1 h6
    obtain ⟨w4_1, ew4_1, h8⟩ := Option.bind_eq_some_iff.1 h7
    obtain ⟨w4_2, ew4_2, h9⟩ := Option.bind_eq_some_iff.1 h8
    obtain ⟨w4_3, ew4_3, h10⟩ := Option.bind_eq_some_iff.1 h9
    obtain ⟨w4_4, ew4_4, h11⟩ := Option.bind_eq_some_iff.1 h10
    obtain ⟨hap, h12⟩ := cond_none h11
    cases h12
    refine fits_ren [(2002200200, w2_0.1), (2002200201, w2_1.1), (2002200202, w2_2.1), (2002200203, w2_3.1), (2002200204, w2_4.1), (2002200400, w4_0.1), (2002200401, w4_1.1), (2002200402, w4_2.1), (2002200403, w4_3.1), (2002200404, w4_4.1)] ?_ ?_ (ren_apart hap) rfl
    · exact List.forall_mem_cons.2 ⟨FV.one (FV.ptr (by assumption)), List.forall_mem_cons.2 ⟨FV.one (FV.ptr (by assumption)), List.forall_mem_cons.2 ⟨FV.one (row_i64_fit eq0), List.forall_mem_cons.2 ⟨FV.one (FV.same (by assumption) rfl), List.forall_mem_cons.2 ⟨FV.one (FV.same (by assumption) rfl), fun _ hp => (List.not_mem_nil hp).elim⟩⟩⟩⟩⟩
    · exact List.forall_mem_cons.2 ⟨(FO.cells (show lk (St.o _) 2 = some _ from by assumption) (FCs.cons ((tip_Sapi_Ent_fit ew2_0 rfl).1) (FCs.cons ((tip_u64_fit ew2_1 rfl).1) (FCs.cons ((tip_Sapi_Who_fit ew2_2 rfl).1) (FCs.cons ((tip_i64_fit ew2_3 rfl).1) (FCs.cons ((tip_Sapi_Rule_fit ew2_4 rfl).1) (FCs.nil))))))), List.forall_mem_cons.2 ⟨(tip_Sapi_Ent_fit ew2_0 rfl).2, List.forall_mem_cons.2 ⟨(tip_u64_fit ew2_1 rfl).2, List.forall_mem_cons.2 ⟨(tip_Sapi_Who_fit ew2_2 rfl).2, List.forall_mem_cons.2 ⟨(tip_i64_fit ew2_3 rfl).2, List.forall_mem_cons.2 ⟨(tip_Sapi_Rule_fit ew2_4 rfl).2, List.forall_mem_cons.2 ⟨(FO.cells (show lk (St.o _) 4 = some _ from by assumption) (FCs.cons ((tip_Sapi_Ent_fit ew4_0 rfl).1) (FCs.cons ((tip_u64_fit ew4_1 rfl).1) (FCs.cons ((tip_Sapi_Who_fit ew4_2 rfl).1) (FCs.cons ((tip_i64_fit ew4_3 rfl).1) (FCs.cons ((tip_Sapi_Rule_fit ew4_4 rfl).1) (FCs.nil))))))), List.forall_mem_cons.2 ⟨(tip_Sapi_Ent_fit ew4_0 rfl).2, List.forall_mem_cons.2 ⟨(tip_u64_fit ew4_1 rfl).2, List.forall_mem_cons.2 ⟨(tip_Sapi_Who_fit ew4_2 rfl).2, List.forall_mem_cons.2 ⟨(tip_i64_fit ew4_3 rfl).2, List.forall_mem_cons.2 ⟨(tip_Sapi_Rule_fit ew4_4 rfl).2, fun _ hp => (List.not_mem_nil hp).elim⟩⟩⟩⟩⟩⟩⟩⟩⟩⟩⟩⟩
  · cases h1
theorem pyxhand_Policy.l22.fitO (o : Out U) (y : (List Int × Int × List Sapi_Ent × List Int × List Sapi_Who × List Int × List Sapi_Rule × List Sapi_Ent × List Int × List Sapi_Who × List Int × List Sapi_Rule)) (h : pyxhand_Policy.l22.re o = some y) : FitsO o (pyxhand_Policy.l22.fin y) := by
  unfold pyxhand_Policy.l22.re at h
  split at h
  · obtain ⟨q0, eq0, h1⟩ := Option.bind_eq_some_iff.1 h
    split at h1
    · obtain ⟨w2_0, ew2_0, h2⟩ := Option.bind_eq_some_iff.1 h1
      obtain ⟨w2_1, ew2_1, h3⟩ := Option.bind_eq_some_iff.1 h2
      obtain ⟨w2_2, ew2_2, h4⟩ := Option.bind_eq_some_iff.1 h3
      obtain ⟨w2_3, ew2_3, h5⟩ := Option.bind_eq_some_iff.1 h4
      obtain ⟨w2_4, ew2_4, h6⟩ := Option.bind_eq_some_iff.1 h5
      obtain ⟨w4_0, ew4_0, h7⟩ := Option.bind_eq_some_iff.1 h6
      obtain ⟨w4_1, ew4_1, h8⟩ := Option.bind_eq_some_iff.1 h7
      obtain ⟨w4_2, ew4_2, h9⟩ := Option.bind_eq_some_iff.1 h8
      obtain ⟨w4_3, ew4_3, h10⟩ := Option.bind_eq_some_iff.1 h9
      obtain ⟨w4_4, ew4_4, h11⟩ := Option.bind_eq_some_iff.1 h10
      obtain ⟨hap, h12⟩ := cond_none h11
      cases h12
      refine fitsO_exit (fits_ren [(2002200200, w2_0.1), (2002200201, w2_1.1), (2002200202, w2_2.1), (2002200203, w2_3.1), (2002200204, w2_4.1), (2002200400, w4_0.1), (2002200401, w4_1.1), (2002200402, w4_2.1), (2002200403, w4_3.1), (2002200404, w4_4.1)] ?_ ?_ (ren_apart hap) rfl)
      · exact List.forall_mem_cons.2 ⟨FV.one (FV.ptr (by assumption)), List.forall_mem_cons.2 ⟨FV.one (FV.ptr (by assumption)), List.forall_mem_cons.2 ⟨FV.one (row_i64_fit eq0), List.forall_mem_cons.2 ⟨FV.one (FV.same (by assumption) rfl), fun _ hp => (List.not_mem_nil hp).elim⟩⟩⟩⟩
      · exact List.forall_mem_cons.2 ⟨(FO.cells (show lk (St.o _) 2 = some _ from by assumption) (FCs.cons ((tip_Sapi_Ent_fit ew2_0 rfl).1) (FCs.cons ((tip_u64_fit ew2_1 rfl).1) (FCs.cons ((tip_Sapi_Who_fit ew2_2 rfl).1) (FCs.cons ((tip_i64_fit ew2_3 rfl).1) (FCs.cons ((tip_Sapi_Rule_fit ew2_4 rfl).1) (FCs.nil))))))), List.forall_mem_cons.2 ⟨(tip_Sapi_Ent_fit ew2_0 rfl).2, List.forall_mem_cons.2 ⟨(tip_u64_fit ew2_1 rfl).2, List.forall_mem_cons.2 ⟨(tip_Sapi_Who_fit ew2_2 rfl).2, List.forall_mem_cons.2 ⟨(tip_i64_fit ew2_3 rfl).2, List.forall_mem_cons.2 ⟨(tip_Sapi_Rule_fit ew2_4 rfl).2, List.forall_mem_cons.2 ⟨(FO.cells (show lk (St.o _) 4 = some _ from by assumption) (FCs.cons ((tip_Sapi_Ent_fit ew4_0 rfl).1) (FCs.cons ((tip_u64_fit ew4_1 rfl).1) (FCs.cons ((tip_Sapi_Who_fit ew4_2 rfl).1) (FCs.cons ((tip_i64_fit ew4_3 rfl).1) (FCs.cons ((tip_Sapi_Rule_fit ew4_4 rfl).1) (FCs.nil))))))), List.forall_mem_cons.2 ⟨(tip_Sapi_Ent_fit ew4_0 rfl).2, List.forall_mem_cons.2 ⟨(tip_u64_fit ew4_1 rfl).2, List.forall_mem_cons.2 ⟨(tip_Sapi_Who_fit ew4_2 rfl).2, List.forall_mem_cons.2 ⟨(tip_i64_fit ew4_3 rfl).2, List.forall_mem_cons.2 ⟨(tip_Sapi_Rule_fit ew4_4 rfl).2, fun _ hp => (List.not_mem_nil hp).elim⟩⟩⟩⟩⟩⟩⟩⟩⟩⟩⟩⟩
    · cases h1
  · cases h
theorem pyxhand_Policy.l22.sound (k : Nat) : LSound (pyxhand_Policy.E k) Try.f42.ntmps Try.f42 (loopAt Try.f42 22) (pyxhand_Policy.l22.L k) :=
  loop_sound (pyxhand_Policy.ok k) mixed rfl (by kernel_rfl) (allL_of (l := []) (by kernel_rfl) allL_nil) pyxhand_Policy.l22.un pyxhand_Policy.l22.mk pyxhand_Policy.l22.fin pyxhand_Policy.l22.re (pyxhand_Policy.l22.once k) k pyxhand_Policy.l22.fit pyxhand_Policy.l22.fitO (pyxhand_Policy.l22.eq k) pyxhand_Policy.l22.finK pyxhand_Policy.l22.finK_eq
theorem pyxhand_Policy.l26.eq (k : Nat) (x : (List Int × Int × Int × List Sapi_Ent × List Int × List Sapi_Who × List Int × List Sapi_Rule × List Sapi_Ent × List Int × List Sapi_Who × List Int × List Sapi_Rule)) : evC (pyxhand_Policy.E k) (loopAt Try.f42 26) (pyxhand_Policy.l26.mk x) (headK pyxhand_Policy.l26.un pyxhand_Policy.l26.re) = pyxhand_Policy.l26.once k x := by kernel_rfl
theorem pyxhand_Policy.l26.fit (s : St U) (x : (List Int × Int × Int × List Sapi_Ent × List Int × List Sapi_Who × List Int × List Sapi_Rule × List Sapi_Ent × List Int × List Sapi_Who × List Int × List Sapi_Rule)) (h : pyxhand_Policy.l26.un s = some x) : Fits s (pyxhand_Policy.l26.mk x) := by
  unfold pyxhand_Policy.l26.un at h
  obtain ⟨q0, eq0, h1⟩ := Option.bind_eq_some_iff.1 h
  split at h1
  · obtain ⟨w2_0, ew2_0, h2⟩ := Option.bind_eq_some_iff.1 h1
    obtain ⟨w2_1, ew2_1, h3⟩ := Option.bind_eq_some_iff.1 h2
    obtain ⟨w2_2, ew2_2, h4⟩ := Option.bind_eq_some_iff.1 h3
    obtain ⟨w2_3, ew2_3, h5⟩ := Option.bind_eq_some_iff.1 h4
    obtain ⟨w2_4, ew2_4, h6⟩ := Option.bind_eq_some_iff.1 h5
    obtain ⟨w4_0, ew4_0, h7⟩ := Option.bind_eq_some_iff.1 h6
    obtain ⟨w4_1, ew4_1, h8⟩ := Option.bind_eq_some_iff.1 h7
    obtain ⟨w4_2, ew4_2, h9⟩ := Option.bind_eq_some_iff.1 h8
    obtain ⟨w4_3, ew4_3, h10⟩ := Option.bind_eq_some_iff.1 h9
    obtain ⟨w4_4, ew4_4, h11⟩ := Option.bind_eq_some_iff.1 h10
    obtain ⟨hap, h12⟩ := cond_none h11
    cases h12
    refine fits_ren [(2002600200, w2_0.1), (2002600201, w2_1.1), (2002600202, w2_2.1), (2002600203, w2_3.1), (2002600204, w2_4.1), (2002600400, w4_0.1), (2002600401, w4_1.1), (2002600402, w4_2.1), (2002600403, w4_3.1), (2002600404, w4_4.1)] ?_ ?_ (ren_apart hap) rfl
    · exact List.forall_mem_cons.2 ⟨FV.one (FV.ptr (by assumption)), List.forall_mem_cons.2 ⟨FV.one (FV.ptr (by assumption)), List.forall_mem_cons.2 ⟨FV.one (row_i64_fit eq0), List.forall_mem_cons.2 ⟨FV.one (FV.same (by assumption) rfl), List.forall_mem_cons.2 ⟨FV.one (FV.same (by assumption) rfl), fun _ hp => (List.not_mem_nil hp).elim⟩⟩⟩⟩⟩
    · exact List.forall_mem_cons.2 ⟨(FO.cells (show lk (St.o _) 2 = some _ from by assumption) (FCs.cons ((tip_Sapi_Ent_fit ew2_0 rfl).1) (FCs.cons ((tip_u64_fit ew2_1 rfl).1) (FCs.cons ((tip_Sapi_Who_fit ew2_2 rfl).1) (FCs.cons ((tip_i64_fit ew2_3 rfl).1) (FCs.cons ((tip_Sapi_Rule_fit ew2_4 rfl).1) (FCs.nil))))))), List.forall_mem_cons.2 ⟨(tip_Sapi_Ent_fit ew2_0 rfl).2, List.forall_mem_cons.2 ⟨(tip_u64_fit ew2_1 rfl).2, List.forall_mem_cons.2 ⟨(tip_Sapi_Who_fit ew2_2 rfl).2, List.forall_mem_cons.2 ⟨(tip_i64_fit ew2_3 rfl).2, List.forall_mem_cons.2 ⟨(tip_Sapi_Rule_fit ew2_4 rfl).2, List.forall_mem_cons.2 ⟨(FO.cells (show lk (St.o _) 4 = some _ from by assumption) (FCs.cons ((tip_Sapi_Ent_fit ew4_0 rfl).1) (FCs.cons ((tip_u64_fit ew4_1 rfl).1) (FCs.cons ((tip_Sapi_Who_fit ew4_2 rfl).1) (FCs.cons ((tip_i64_fit ew4_3 rfl).1) (FCs.cons ((tip_Sapi_Rule_fit ew4_4 rfl).1) (FCs.nil))))))), List.forall_mem_cons.2 ⟨(tip_Sapi_Ent_fit ew4_0 rfl).2, List.forall_mem_cons.2 ⟨(tip_u64_fit ew4_1 rfl).2, List.forall_mem_cons.2 ⟨(tip_Sapi_Who_fit ew4_2 rfl).2, List.forall_mem_cons.2 ⟨(tip_i64_fit ew4_3 rfl).2, List.forall_mem_cons.2 ⟨(tip_Sapi_Rule_fit ew4_4 rfl).2, fun _ hp => (List.not_mem_nil hp).elim⟩⟩⟩⟩⟩⟩⟩⟩⟩⟩⟩⟩
  · cases h1
theorem pyxhand_Policy.l26.fitO (o : Out U) (y : (List Int × Int × List Sapi_Ent × List Int × List Sapi_Who × List Int × List Sapi_Rule × List Sapi_Ent × List Int × List Sapi_Who × List Int × List Sapi_Rule)) (h : pyxhand_Policy.l26.re o = some y) : FitsO o (pyxhand_Policy.l26.fin y) := by
  unfold pyxhand_Policy.l26.re at h
  split at h
  · obtain ⟨q0, eq0, h1⟩ := Option.bind_eq_some_iff.1 h
    split at h1
    · obtain ⟨w2_0, ew2_0, h2⟩ := Option.bind_eq_some_iff.1 h1
      obtain ⟨w2_1, ew2_1, h3⟩ := Option.bind_eq_some_iff.1 h2
      obtain ⟨w2_2, ew2_2, h4⟩ := Option.bind_eq_some_iff.1 h3
      obtain ⟨w2_3, ew2_3, h5⟩ := Option.bind_eq_some_iff.1 h4
      obtain ⟨w2_4, ew2_4, h6⟩ := Option.bind_eq_some_iff.1 h5
      obtain ⟨w4_0, ew4_0, h7⟩ := Option.bind_eq_some_iff.1 h6
      obtain ⟨w4_1, ew4_1, h8⟩ := Option.bind_eq_some_iff.1 h7
      obtain ⟨w4_2, ew4_2, h9⟩ := Option.bind_eq_some_iff.1 h8
      obtain ⟨w4_3, ew4_3, h10⟩ := Option.bind_eq_some_iff.1 h9
      obtain ⟨w4_4, ew4_4, h11⟩ := Option.bind_eq_some_iff.1 h10
      obtain ⟨hap, h12⟩ := cond_none h11
      cases h12
      refine fitsO_exit (fits_ren [(2002600200, w2_0.1), (2002600201, w2_1.1), (2002600202, w2_2.1), (2002600203, w2_3.1), (2002600204, w2_4.1), (2002600400, w4_0.1), (2002600401, w4_1.1), (2002600402, w4_2.1), (2002600403, w4_3.1), (2002600404, w4_4.1)] ?_ ?_ (ren_apart hap) rfl)
      · exact List.forall_mem_cons.2 ⟨FV.one (FV.ptr (by assumption)), List.forall_mem_cons.2 ⟨FV.one (FV.ptr (by assumption)), List.forall_mem_cons.2 ⟨FV.one (row_i64_fit eq0), List.forall_mem_cons.2 ⟨FV.one (FV.same (by assumption) rfl), fun _ hp => (List.not_mem_nil hp).elim⟩⟩⟩⟩
      · exact List.forall_mem_cons.2 ⟨(FO.cells (show lk (St.o _) 2 = some _ from by assumption) (FCs.cons ((tip_Sapi_Ent_fit ew2_0 rfl).1) (FCs.cons ((tip_u64_fit ew2_1 rfl).1) (FCs.cons ((tip_Sapi_Who_fit ew2_2 rfl).1) (FCs.cons ((tip_i64_fit ew2_3 rfl).1) (FCs.cons ((tip_Sapi_Rule_fit ew2_4 rfl).1) (FCs.nil))))))), List.forall_mem_cons.2 ⟨(tip_Sapi_Ent_fit ew2_0 rfl).2, List.forall_mem_cons.2 ⟨(tip_u64_fit ew2_1 rfl).2, List.forall_mem_cons.2 ⟨(tip_Sapi_Who_fit ew2_2 rfl).2, List.forall_mem_cons.2 ⟨(tip_i64_fit ew2_3 rfl).2, List.forall_mem_cons.2 ⟨(tip_Sapi_Rule_fit ew2_4 rfl).2, List.forall_mem_cons.2 ⟨(FO.cells (show lk (St.o _) 4 = some _ from by assumption) (FCs.cons ((tip_Sapi_Ent_fit ew4_0 rfl).1) (FCs.cons ((tip_u64_fit ew4_1 rfl).1) (FCs.cons ((tip_Sapi_Who_fit ew4_2 rfl).1) (FCs.cons ((tip_i64_fit ew4_3 rfl).1) (FCs.cons ((tip_Sapi_Rule_fit ew4_4 rfl).1) (FCs.nil))))))), List.forall_mem_cons.2 ⟨(tip_Sapi_Ent_fit ew4_0 rfl).2, List.forall_mem_cons.2 ⟨(tip_u64_fit ew4_1 rfl).2, List.forall_mem_cons.2 ⟨(tip_Sapi_Who_fit ew4_2 rfl).2, List.forall_mem_cons.2 ⟨(tip_i64_fit ew4_3 rfl).2, List.forall_mem_cons.2 ⟨(tip_Sapi_Rule_fit ew4_4 rfl).2, fun _ hp => (List.not_mem_nil hp).elim⟩⟩⟩⟩⟩⟩⟩⟩⟩⟩⟩⟩
    · cases h1
  · cases h
theorem pyxhand_Policy.l26.sound (k : Nat) : LSound (pyxhand_Policy.E k) Try.f42.ntmps Try.f42 (loopAt Try.f42 26) (pyxhand_Policy.l26.L k) :=
  loop_sound (pyxhand_Policy.ok k) mixed rfl (by kernel_rfl) (allL_of (l := []) (by kernel_rfl) allL_nil) pyxhand_Policy.l26.un pyxhand_Policy.l26.mk pyxhand_Policy.l26.fin pyxhand_Policy.l26.re (pyxhand_Policy.l26.once k) k pyxhand_Policy.l26.fit pyxhand_Policy.l26.fitO (pyxhand_Policy.l26.eq k) pyxhand_Policy.l26.finK pyxhand_Policy.l26.finK_eq
theorem pyxhand_Policy.l30.eq (k : Nat) (x : (List Int × Int × Int × List Sapi_Ent × List Int × List Sapi_Who × List Int × List Sapi_Rule × List Sapi_Ent × List Int × List Sapi_Who × List Int × List Sapi_Rule)) : evC (pyxhand_Policy.E k) (loopAt Try.f42 30) (pyxhand_Policy.l30.mk x) (headK pyxhand_Policy.l30.un pyxhand_Policy.l30.re) = pyxhand_Policy.l30.once k x := by kernel_rfl
theorem pyxhand_Policy.l30.fit (s : St U) (x : (List Int × Int × Int × List Sapi_Ent × List Int × List Sapi_Who × List Int × List Sapi_Rule × List Sapi_Ent × List Int × List Sapi_Who × List Int × List Sapi_Rule)) (h : pyxhand_Policy.l30.un s = some x) : Fits s (pyxhand_Policy.l30.mk x) := by
  unfold pyxhand_Policy.l30.un at h
  obtain ⟨q0, eq0, h1⟩ := Option.bind_eq_some_iff.1 h
  split at h1
  · obtain ⟨w2_0, ew2_0, h2⟩ := Option.bind_eq_some_iff.1 h1
    obtain ⟨w2_1, ew2_1, h3⟩ := Option.bind_eq_some_iff.1 h2
    obtain ⟨w2_2, ew2_2, h4⟩ := Option.bind_eq_some_iff.1 h3
    obtain ⟨w2_3, ew2_3, h5⟩ := Option.bind_eq_some_iff.1 h4
    obtain ⟨w2_4, ew2_4, h6⟩ := Option.bind_eq_some_iff.1 h5
    obtain ⟨w4_0, ew4_0, h7⟩ := Option.bind_eq_some_iff.1 h6
    obtain ⟨w4_1, ew4_1, h8⟩ := Option.bind_eq_some_iff.1 h7
    obtain ⟨w4_2, ew4_2, h9⟩ := Option.bind_eq_some_iff.1 h8
    obtain ⟨w4_3, ew4_3, h10⟩ := Option.bind_eq_some_iff.1 h9
    obtain ⟨w4_4, ew4_4, h11⟩ := Option.bind_eq_some_iff.1 h10
    obtain ⟨hap, h12⟩ := cond_none h11
    cases h12
    refine fits_ren [(2003000200, w2_0.1), (2003000201, w2_1.1), (2003000202, w2_2.1), (2003000203, w2_3.1), (2003000204, w2_4.1), (2003000400, w4_0.1), (2003000401, w4_1.1), (2003000402, w4_2.1), (2003000403, w4_3.1), (2003000404, w4_4.1)] ?_ ?_ (ren_apart hap) rfl
    · exact List.forall_mem_cons.2 ⟨FV.one (FV.ptr (by assumption)), List.forall_mem_cons.2 ⟨FV.one (FV.ptr (by assumption)), List.forall_mem_cons.2 ⟨FV.one (row_i64_fit eq0), List.forall_mem_cons.2 ⟨FV.one (FV.same (by assumption) rfl), List.forall_mem_cons.2 ⟨FV.one (FV.same (by assumption) rfl), fun _ hp => (List.not_mem_nil hp).elim⟩⟩⟩⟩⟩
    · exact List.forall_mem_cons.2 ⟨(FO.cells (show lk (St.o _) 2 = some _ from by assumption) (FCs.cons ((tip_Sapi_Ent_fit ew2_0 rfl).1) (FCs.cons ((tip_u64_fit ew2_1 rfl).1) (FCs.cons ((tip_Sapi_Who_fit ew2_2 rfl).1) (FCs.cons ((tip_i64_fit ew2_3 rfl).1) (FCs.cons ((tip_Sapi_Rule_fit ew2_4 rfl).1) (FCs.nil))))))), List.forall_mem_cons.2 ⟨(tip_Sapi_Ent_fit ew2_0 rfl).2, List.forall_mem_cons.2 ⟨(tip_u64_fit ew2_1 rfl).2, List.forall_mem_cons.2 ⟨(tip_Sapi_Who_fit ew2_2 rfl).2, List.forall_mem_cons.2 ⟨(tip_i64_fit ew2_3 rfl).2, List.forall_mem_cons.2 ⟨(tip_Sapi_Rule_fit ew2_4 rfl).2, List.forall_mem_cons.2 ⟨(FO.cells (show lk (St.o _) 4 = some _ from by assumption) (FCs.cons ((tip_Sapi_Ent_fit ew4_0 rfl).1) (FCs.cons ((tip_u64_fit ew4_1 rfl).1) (FCs.cons ((tip_Sapi_Who_fit ew4_2 rfl).1) (FCs.cons ((tip_i64_fit ew4_3 rfl).1) (FCs.cons ((tip_Sapi_Rule_fit ew4_4 rfl).1) (FCs.nil))))))), List.forall_mem_cons.2 ⟨(tip_Sapi_Ent_fit ew4_0 rfl).2, List.forall_mem_cons.2 ⟨(tip_u64_fit ew4_1 rfl).2, List.forall_mem_cons.2 ⟨(tip_Sapi_Who_fit ew4_2 rfl).2, List.forall_mem_cons.2 ⟨(tip_i64_fit ew4_3 rfl).2, List.forall_mem_cons.2 ⟨(tip_Sapi_Rule_fit ew4_4 rfl).2, fun _ hp => (List.not_mem_nil hp).elim⟩⟩⟩⟩⟩⟩⟩⟩⟩⟩⟩⟩
  · cases h1
theorem pyxhand_Policy.l30.fitO (o : Out U) (y : (List Int × Int × List Sapi_Ent × List Int × List Sapi_Who × List Int × List Sapi_Rule × List Sapi_Ent × List Int × List Sapi_Who × List Int × List Sapi_Rule)) (h : pyxhand_Policy.l30.re o = some y) : FitsO o (pyxhand_Policy.l30.fin y) := by
  unfold pyxhand_Policy.l30.re at h
  split at h
  · obtain ⟨q0, eq0, h1⟩ := Option.bind_eq_some_iff.1 h
    split at h1
    · obtain ⟨w2_0, ew2_0, h2⟩ := Option.bind_eq_some_iff.1 h1
      obtain ⟨w2_1, ew2_1, h3⟩ := Option.bind_eq_some_iff.1 h2
      obtain ⟨w2_2, ew2_2, h4⟩ := Option.bind_eq_some_iff.1 h3
      obtain ⟨w2_3, ew2_3, h5⟩ := Option.bind_eq_some_iff.1 h4
      obtain ⟨w2_4, ew2_4, h6⟩ := Option.bind_eq_some_iff.1 h5
      obtain ⟨w4_0, ew4_0, h7⟩ := Option.bind_eq_some_iff.1 h6
      obtain ⟨w4_1, ew4_1, h8⟩ := Option.bind_eq_some_iff.1 h7
      obtain ⟨w4_2, ew4_2, h9⟩ := Option.bind_eq_some_iff.1 h8
      obtain ⟨w4_3, ew4_3, h10⟩ := Option.bind_eq_some_iff.1 h9
      obtain ⟨w4_4, ew4_4, h11⟩ := Option.bind_eq_some_iff.1 h10
      obtain ⟨hap, h12⟩ := cond_none h11
      cases h12
      refine fitsO_exit (fits_ren [(2003000200, w2_0.1), (2003000201, w2_1.1), (2003000202, w2_2.1), (2003000203, w2_3.1), (2003000204, w2_4.1), (2003000400, w4_0.1), (2003000401, w4_1.1), (2003000402, w4_2.1), (2003000403, w4_3.1), (2003000404, w4_4.1)] ?_ ?_ (ren_apart hap) rfl)
      · exact List.forall_mem_cons.2 ⟨FV.one (FV.ptr (by assumption)), List.forall_mem_cons.2 ⟨FV.one (FV.ptr (by assumption)), List.forall_mem_cons.2 ⟨FV.one (row_i64_fit eq0), List.forall_mem_cons.2 ⟨FV.one (FV.same (by assumption) rfl), fun _ hp => (List.not_mem_nil hp).elim⟩⟩⟩⟩
      · exact List.forall_mem_cons.2 ⟨(FO.cells (show lk (St.o _) 2 = some _ from by assumption) (FCs.cons ((tip_Sapi_Ent_fit ew2_0 rfl).1) (FCs.cons ((tip_u64_fit ew2_1 rfl).1) (FCs.cons ((tip_Sapi_Who_fit ew2_2 rfl).1) (FCs.cons ((tip_i64_fit ew2_3 rfl).1) (FCs.cons ((tip_Sapi_Rule_fit ew2_4 rfl).1) (FCs.nil))))))), List.forall_mem_cons.2 ⟨(tip_Sapi_Ent_fit ew2_0 rfl).2, List.forall_mem_cons.2 ⟨(tip_u64_fit ew2_1 rfl).2, List.forall_mem_cons.2 ⟨(tip_Sapi_Who_fit ew2_2 rfl).2, List.forall_mem_cons.2 ⟨(tip_i64_fit ew2_3 rfl).2, List.forall_mem_cons.2 ⟨(tip_Sapi_Rule_fit ew2_4 rfl).2, List.forall_mem_cons.2 ⟨(FO.cells (show lk (St.o _) 4 = some _ from by assumption) (FCs.cons ((tip_Sapi_Ent_fit ew4_0 rfl).1) (FCs.cons ((tip_u64_fit ew4_1 rfl).1) (FCs.cons ((tip_Sapi_Who_fit ew4_2 rfl).1) (FCs.cons ((tip_i64_fit ew4_3 rfl).1) (FCs.cons ((tip_Sapi_Rule_fit ew4_4 rfl).1) (FCs.nil))))))), List.forall_mem_cons.2 ⟨(tip_Sapi_Ent_fit ew4_0 rfl).2, List.forall_mem_cons.2 ⟨(tip_u64_fit ew4_1 rfl).2, List.forall_mem_cons.2 ⟨(tip_Sapi_Who_fit ew4_2 rfl).2, List.forall_mem_cons.2 ⟨(tip_i64_fit ew4_3 rfl).2, List.forall_mem_cons.2 ⟨(tip_Sapi_Rule_fit ew4_4 rfl).2, fun _ hp => (List.not_mem_nil hp).elim⟩⟩⟩⟩⟩⟩⟩⟩⟩⟩⟩⟩
    · cases h1
  · cases h
theorem pyxhand_Policy.l30.sound (k : Nat) : LSound (pyxhand_Policy.E k) Try.f42.ntmps Try.f42 (loopAt Try.f42 30) (pyxhand_Policy.l30.L k) :=
  loop_sound (pyxhand_Policy.ok k) mixed rfl (by kernel_rfl) (allL_of (l := []) (by kernel_rfl) allL_nil) pyxhand_Policy.l30.un pyxhand_Policy.l30.mk pyxhand_Policy.l30.fin pyxhand_Policy.l30.re (pyxhand_Policy.l30.once k) k pyxhand_Policy.l30.fit pyxhand_Policy.l30.fitO (pyxhand_Policy.l30.eq k) pyxhand_Policy.l30.finK pyxhand_Policy.l30.finK_eq
theorem pyxhand_Policy.l35.eq (k : Nat) (x : (List Int × Int × Int × List Sapi_Ent × List Int × List Sapi_Who × List Int × List Sapi_Rule × List Sapi_Ent × List Int × List Sapi_Who × List Int × List Sapi_Rule)) : evC (pyxhand_Policy.E k) (loopAt Try.f42 35) (pyxhand_Policy.l35.mk x) (headK pyxhand_Policy.l35.un pyxhand_Policy.l35.re) = pyxhand_Policy.l35.once k x := by kernel_rfl
theorem pyxhand_Policy.l35.fit (s : St U) (x : (List Int × Int × Int × List Sapi_Ent × List Int × List Sapi_Who × List Int × List Sapi_Rule × List Sapi_Ent × List Int × List Sapi_Who × List Int × List Sapi_Rule)) (h : pyxhand_Policy.l35.un s = some x) : Fits s (pyxhand_Policy.l35.mk x) := by
  unfold pyxhand_Policy.l35.un at h
  obtain ⟨q0, eq0, h1⟩ := Option.bind_eq_some_iff.1 h
  split at h1
  · obtain ⟨w2_0, ew2_0, h2⟩ := Option.bind_eq_some_iff.1 h1
    obtain ⟨w2_1, ew2_1, h3⟩ := Option.bind_eq_some_iff.1 h2
    obtain ⟨w2_2, ew2_2, h4⟩ := Option.bind_eq_some_iff.1 h3
    obtain ⟨w2_3, ew2_3, h5⟩ := Option.bind_eq_some_iff.1 h4
    obtain ⟨w2_4, ew2_4, h6⟩ := Option.bind_eq_some_iff.1 h5
    obtain ⟨w4_0, ew4_0, h7⟩ := Option.bind_eq_some_iff.1 h6
    obtain ⟨w4_1, ew4_1, h8⟩ := Option.bind_eq_some_iff.1 h7
    obtain ⟨w4_2, ew4_2, h9⟩ := Option.bind_eq_some_iff.1 h8
    obtain ⟨w4_3, ew4_3, h10⟩ := Option.bind_eq_some_iff.1 h9
    obtain ⟨w4_4, ew4_4, h11⟩ := Option.bind_eq_some_iff.1 h10
    obtain ⟨hap, h12⟩ := cond_none h11
    cases h12
    refine fits_ren [(2003500200, w2_0.1), (2003500201, w2_1.1), (2003500202, w2_2.1), (2003500203, w2_3.1), (2003500204, w2_4.1), (2003500400, w4_0.1), (2003500401, w4_1.1), (2003500402, w4_2.1), (2003500403, w4_3.1), (2003500404, w4_4.1)] ?_ ?_ (ren_apart hap) rfl
    · exact List.forall_mem_cons.2 ⟨FV.one (FV.ptr (by assumption)), List.forall_mem_cons.2 ⟨FV.one (FV.ptr (by assumption)), List.forall_mem_cons.2 ⟨FV.one (row_i64_fit eq0), List.forall_mem_cons.2 ⟨FV.one (FV.same (by assumption) rfl), List.forall_mem_cons.2 ⟨FV.one (FV.same (by assumption) rfl), fun _ hp => (List.not_mem_nil hp).elim⟩⟩⟩⟩⟩
    · exact List.forall_mem_cons.2 ⟨(FO.cells (show lk (St.o _) 2 = some _ from by assumption) (FCs.cons ((tip_Sapi_Ent_fit ew2_0 rfl).1) (FCs.cons ((tip_u64_fit ew2_1 rfl).1) (FCs.cons ((tip_Sapi_Who_fit ew2_2 rfl).1) (FCs.cons ((tip_i64_fit ew2_3 rfl).1) (FCs.cons ((tip_Sapi_Rule_fit ew2_4 rfl).1) (FCs.nil))))))), List.forall_mem_cons.2 ⟨(tip_Sapi_Ent_fit ew2_0 rfl).2, List.forall_mem_cons.2 ⟨(tip_u64_fit ew2_1 rfl).2, List.forall_mem_cons.2 ⟨(tip_Sapi_Who_fit ew2_2 rfl).2, List.forall_mem_cons.2 ⟨(tip_i64_fit ew2_3 rfl).2, List.forall_mem_cons.2 ⟨(tip_Sapi_Rule_fit ew2_4 rfl).2, List.forall_mem_cons.2 ⟨(FO.cells (show lk (St.o _) 4 = some _ from by assumption) (FCs.cons ((tip_Sapi_Ent_fit ew4_0 rfl).1) (FCs.cons ((tip_u64_fit ew4_1 rfl).1) (FCs.cons ((tip_Sapi_Who_fit ew4_2 rfl).1) (FCs.cons ((tip_i64_fit ew4_3 rfl).1) (FCs.cons ((tip_Sapi_Rule_fit ew4_4 rfl).1) (FCs.nil))))))), List.forall_mem_cons.2 ⟨(tip_Sapi_Ent_fit ew4_0 rfl).2, List.forall_mem_cons.2 ⟨(tip_u64_fit ew4_1 rfl).2, List.forall_mem_cons.2 ⟨(tip_Sapi_Who_fit ew4_2 rfl).2, List.forall_mem_cons.2 ⟨(tip_i64_fit ew4_3 rfl).2, List.forall_mem_cons.2 ⟨(tip_Sapi_Rule_fit ew4_4 rfl).2, fun _ hp => (List.not_mem_nil hp).elim⟩⟩⟩⟩⟩⟩⟩⟩⟩⟩⟩⟩
  · cases h1
theorem pyxhand_Policy.l35.fitO (o : Out U) (y : (List Sapi_Ent × List Int × List Sapi_Who × List Int × List Sapi_Rule × List Sapi_Ent × List Int × List Sapi_Who × List Int × List Sapi_Rule)) (h : pyxhand_Policy.l35.re o = some y) : FitsO o (pyxhand_Policy.l35.fin y) := by
  unfold pyxhand_Policy.l35.re at h
  split at h
  · split at h
    · obtain ⟨w2_0, ew2_0, h1⟩ := Option.bind_eq_some_iff.1 h
      obtain ⟨w2_1, ew2_1, h2⟩ := Option.bind_eq_some_iff.1 h1
      obtain ⟨w2_2, ew2_2, h3⟩ := Option.bind_eq_some_iff.1 h2
      obtain ⟨w2_3, ew2_3, h4⟩ := Option.bind_eq_some_iff.1 h3
      obtain ⟨w2_4, ew2_4, h5⟩ := Option.bind_eq_some_iff.1 h4
      obtain ⟨w4_0, ew4_0, h6⟩ := Option.bind_eq_some_iff.1 h5
      obtain ⟨w4_1, ew4_1, h7⟩ := Option.bind_eq_some_iff.1 h6
      obtain ⟨w4_2, ew4_2, h8⟩ := Option.bind_eq_some_iff.1 h7
      obtain ⟨w4_3, ew4_3, h9⟩ := Option.bind_eq_some_iff.1 h8
      obtain ⟨w4_4, ew4_4, h10⟩ := Option.bind_eq_some_iff.1 h9
      obtain ⟨hap, h11⟩ := cond_none h10
      cases h11
      refine fitsO_exit (fits_ren [(2003500200, w2_0.1), (2003500201, w2_1.1), (2003500202, w2_2.1), (2003500203, w2_3.1), (2003500204, w2_4.1), (2003500400, w4_0.1), (2003500401, w4_1.1), (2003500402, w4_2.1), (2003500403, w4_3.1), (2003500404, w4_4.1)] ?_ ?_ (ren_apart hap) rfl)
      · exact List.forall_mem_cons.2 ⟨FV.one (FV.ptr (by assumption)), List.forall_mem_cons.2 ⟨FV.one (FV.ptr (by assumption)), fun _ hp => (List.not_mem_nil hp).elim⟩⟩
      · exact List.forall_mem_cons.2 ⟨(FO.cells (show lk (St.o _) 2 = some _ from by assumption) (FCs.cons ((tip_Sapi_Ent_fit ew2_0 rfl).1) (FCs.cons ((tip_u64_fit ew2_1 rfl).1) (FCs.cons ((tip_Sapi_Who_fit ew2_2 rfl).1) (FCs.cons ((tip_i64_fit ew2_3 rfl).1) (FCs.cons ((tip_Sapi_Rule_fit ew2_4 rfl).1) (FCs.nil))))))), List.forall_mem_cons.2 ⟨(tip_Sapi_Ent_fit ew2_0 rfl).2, List.forall_mem_cons.2 ⟨(tip_u64_fit ew2_1 rfl).2, List.forall_mem_cons.2 ⟨(tip_Sapi_Who_fit ew2_2 rfl).2, List.forall_mem_cons.2 ⟨(tip_i64_fit ew2_3 rfl).2, List.forall_mem_cons.2 ⟨(tip_Sapi_Rule_fit ew2_4 rfl).2, List.forall_mem_cons.2 ⟨(FO.cells (show lk (St.o _) 4 = some _ from by assumption) (FCs.cons ((tip_Sapi_Ent_fit ew4_0 rfl).1) (FCs.cons ((tip_u64_fit ew4_1 rfl).1) (FCs.cons ((tip_Sapi_Who_fit ew4_2 rfl).1) (FCs.cons ((tip_i64_fit ew4_3 rfl).1) (FCs.cons ((tip_Sapi_Rule_fit ew4_4 rfl).1) (FCs.nil))))))), List.forall_mem_cons.2 ⟨(tip_Sapi_Ent_fit ew4_0 rfl).2, List.forall_mem_cons.2 ⟨(tip_u64_fit ew4_1 rfl).2, List.forall_mem_cons.2 ⟨(tip_Sapi_Who_fit ew4_2 rfl).2, List.forall_mem_cons.2 ⟨(tip_i64_fit ew4_3 rfl).2, List.forall_mem_cons.2 ⟨(tip_Sapi_Rule_fit ew4_4 rfl).2, fun _ hp => (List.not_mem_nil hp).elim⟩⟩⟩⟩⟩⟩⟩⟩⟩⟩⟩⟩
    · cases h
  · cases h
theorem pyxhand_Policy.l35.sound (k : Nat) : LSound (pyxhand_Policy.E k) Try.f42.ntmps Try.f42 (loopAt Try.f42 35) (pyxhand_Policy.l35.L k) :=
  loop_sound (pyxhand_Policy.ok k) mixed rfl (by kernel_rfl) (allL_of (l := []) (by kernel_rfl) allL_nil) pyxhand_Policy.l35.un pyxhand_Policy.l35.mk pyxhand_Policy.l35.fin pyxhand_Policy.l35.re (pyxhand_Policy.l35.once k) k pyxhand_Policy.l35.fit pyxhand_Policy.l35.fitO (pyxhand_Policy.l35.eq k) pyxhand_Policy.l35.finK pyxhand_Policy.l35.finK_eq
theorem pyxhand_Policy.eq (k : Nat) (x : List Int) : runF (pyxhand_Policy.E k) (codeOf Try.f42) (pyxhand_Policy.mk x) pyxhand_Policy.re = (pyxhand_Policy.D k).f x := by kernel_rfl
theorem pyxhand_Policy.fit (s : St U) (x : List Int) (h : pyxhand_Policy.un s = some x) : Fits s (pyxhand_Policy.mk x) := by
  unfold pyxhand_Policy.un at h
  split at h
  · cases h
    refine fits_ren [] ?_ ?_ ren_nil rfl
    · exact List.forall_mem_cons.2 ⟨FV.one (FV.same (by assumption) rfl), fun _ hp => (List.not_mem_nil hp).elim⟩
    · exact fun _ hp => (List.not_mem_nil hp).elim
  · cases h
theorem pyxhand_Policy.fitR (s : St U) (y : Sapi_Policy) (h : pyxhand_Policy.re s = some y) : Fits s (pyxhand_Policy.fin y) := by
  unfold pyxhand_Policy.re at h
  split at h
  · cases h
    refine fits_ren [] ?_ ?_ ren_nil rfl
    · exact List.forall_mem_cons.2 ⟨FV.one (FV.same (by assumption) rfl), fun _ hp => (List.not_mem_nil hp).elim⟩
    · exact fun _ hp => (List.not_mem_nil hp).elim
  · cases h
theorem pyxhand_Policy.sound (k : Nat) : Sound Try.prog DD 42 (pyxhand_Policy.D k) :=
  fun_sound (E := pyxhand_Policy.E k) (fn := Try.f42) (c := codeOf Try.f42) (pyxhand_Policy.ok k) mixed rfl Try.func42 (by kernel_rfl) (by kernel_rfl) (allL_of (l := [loopAt Try.f42 4, loopAt Try.f42 14, loopAt Try.f42 22, loopAt Try.f42 26, loopAt Try.f42 30, loopAt Try.f42 35]) (by kernel_rfl) (allL_cons (key := 4) (by kernel_rfl) rfl (pyxhand_Policy.l4.sound k) (allL_cons (key := 14) (by kernel_rfl) rfl (pyxhand_Policy.l14.sound k) (allL_cons (key := 22) (by kernel_rfl) rfl (pyxhand_Policy.l22.sound k) (allL_cons (key := 26) (by kernel_rfl) rfl (pyxhand_Policy.l26.sound k) (allL_cons (key := 30) (by kernel_rfl) rfl (pyxhand_Policy.l30.sound k) (allL_cons (key := 35) (by kernel_rfl) rfl (pyxhand_Policy.l35.sound k) allL_nil))))))) (pyxhand_Policy.D k) pyxhand_Policy.mk pyxhand_Policy.re (by kernel_rfl) (by kernel_rfl) pyxhand_Policy.fit pyxhand_Policy.fitR (pyxhand_Policy.eq k)
/-! ### pyx/rule.within: function 76 -/
noncomputable def rule_within.f (k : Nat) (a0 : Int) (a1 : Int) (a2 : Int) : Option Bool := cond (decide (a0 ≥ a1)) (some (decide (a0 ≤ a2))) (some false)
noncomputable def rule_within.un (s : St U) : Option (Int × Int × Int) := match s.get 0, s.get 1, s.get 2 with | .flat (.int .i64 x1), .flat (.int .i64 x2), .flat (.int .i64 x3) => some (x1, x2, x3) | _, _, _ => none
noncomputable def rule_within.mk (x : (Int × Int × Int)) : St U := ⟨[(0, .flat (.int .i64 x.1)), (1, .flat (.int .i64 x.2.1)), (2, .flat (.int .i64 x.2.2))], []⟩
noncomputable def rule_within.fin (y : Bool) : St U := ⟨[(0, .flat (.bool y))], []⟩
noncomputable def rule_within.D (k : Nat) : FDen U := { X := (Int × Int × Int), Y := Bool, nt := 15, gh := [], un := rule_within.un, f := fun x => rule_within.f k (x.1) (x.2.1) (x.2.2), fin := rule_within.fin, cl := true, clo := fun _ _ => rfl }
noncomputable def rule_within.re (s : St U) : Option Bool := match s.get 0 with | .flat (.bool x1) => some x1 | _ => none
noncomputable def rule_within.jl : List (Nat × JDen U) := []
noncomputable def rule_within.fl (k : Nat) : List (Nat × FDen U) := []
noncomputable def rule_within.ll (k : Nat) : List (Nat × LDen U) := []
noncomputable def rule_within.E (k : Nat) : Env U := { P := Try.prog, D := DD, fd := lk (rule_within.fl k), ld := lk (rule_within.ll k), jd := lk rule_within.jl, mode := lk [], elc := lk ec, mpc := lk mc, rts := Try.f76.resultTypes.toList, dyn := fun t => false, vecs := fun d => false, results := Try.f76.results.toList, gh := [], own := false, io := fun g i => false }
theorem rule_within.ok (k : Nat) : EnvOk (rule_within.E k) := envOk lawful (rule_within.fl k) (rule_within.ll k) rule_within.jl _ _ _ _ _ _ _ _ _ _ (by
  intro p hp
  simp [rule_within.fl] at hp) (by
  intro p hp
  simp [rule_within.jl] at hp)
theorem rule_within.eq (k : Nat) (x : (Int × Int × Int)) : runF (rule_within.E k) (codeOf Try.f76) (rule_within.mk x) rule_within.re = (rule_within.D k).f x := by kernel_rfl
theorem rule_within.fit (s : St U) (x : (Int × Int × Int)) (h : rule_within.un s = some x) : Fits s (rule_within.mk x) := by
  unfold rule_within.un at h
  split at h
  · cases h
    refine fits_ren [] ?_ ?_ ren_nil rfl
    · exact List.forall_mem_cons.2 ⟨FV.one (FV.same (by assumption) rfl), List.forall_mem_cons.2 ⟨FV.one (FV.same (by assumption) rfl), List.forall_mem_cons.2 ⟨FV.one (FV.same (by assumption) rfl), fun _ hp => (List.not_mem_nil hp).elim⟩⟩⟩
    · exact fun _ hp => (List.not_mem_nil hp).elim
  · cases h
theorem rule_within.fitR (s : St U) (y : Bool) (h : rule_within.re s = some y) : Fits s (rule_within.fin y) := by
  unfold rule_within.re at h
  split at h
  · cases h
    refine fits_ren [] ?_ ?_ ren_nil rfl
    · exact List.forall_mem_cons.2 ⟨FV.one (FV.same (by assumption) rfl), fun _ hp => (List.not_mem_nil hp).elim⟩
    · exact fun _ hp => (List.not_mem_nil hp).elim
  · cases h
theorem rule_within.sound (k : Nat) : Sound Try.prog DD 76 (rule_within.D k) :=
  fun_sound (E := rule_within.E k) (fn := Try.f76) (c := codeOf Try.f76) (rule_within.ok k) mixed rfl Try.func76 (by kernel_rfl) (by kernel_rfl) (allL_of (l := []) (by kernel_rfl) allL_nil) (rule_within.D k) rule_within.mk rule_within.re (by kernel_rfl) (by kernel_rfl) rule_within.fit rule_within.fitR (rule_within.eq k)
/-! ### pyx/role.Right: function 84 -/
noncomputable def role_Right.l2.once (k : Nat) (x : (List Int × List Int × Int × Int)) : Option ((List Int × List Int × Int × Int) ⊕ ((List Int) ⊕ Bool)) := match x with | (x1, x2, x3, x4) => cond (decide (x4 < x3)) (cond (inb x4 (List.length x2)) (((cond (decide ((List.getD x2 (Int.toNat x4) 0) < (-1))) (some (x1, x2, x3, x4, true)) (some (x1, x2, x3, x4, decide ((List.getD x2 (Int.toNat x4) 0) ≥ x4)))) : Option (List Int × List Int × Int × Int × Bool)).bind fun y10 => (cond (y10.2.2.2.2) (some (.inr (.inr false))) (some (.inl (y10.1, y10.2.1, y10.2.2.1, IntKind.wrap .i64 (y10.2.2.2.1 + 1)))))) none) (some (.inr (.inl x1)))
noncomputable def role_Right.f (k : Nat) (a0 : List Int) : Option Bool := (iter (role_Right.l2.once k) k (a0, a0, (List.length a0 : Int), 0)).bind fun | .inl y13 => (some (decide ((List.length y13 : Int) ≤ 8))) | .inr y14 => (some y14)
noncomputable def role_Right.un (s : St U) : Option (List Int) := match s.get 0 with | .row C.i64 x1 => some x1 | _ => none
noncomputable def role_Right.mk (x : List Int) : St U := ⟨[(0, .row C.i64 x)], []⟩
noncomputable def role_Right.fin (y : Bool) : St U := ⟨[(0, .flat (.bool y))], []⟩
noncomputable def role_Right.D (k : Nat) : FDen U := { X := List Int, Y := Bool, nt := 23, gh := [], un := role_Right.un, f := fun x => role_Right.f k (x), fin := role_Right.fin, cl := true, clo := fun _ _ => rfl }
noncomputable def role_Right.re (s : St U) : Option Bool := match s.get 0 with | .flat (.bool x1) => some x1 | _ => none
noncomputable def role_Right.l2.mk (x : (List Int × List Int × Int × Int)) : St U := match x with | (x1, x2, x3, x4) => ⟨[(0, .row C.i64 x1), (5, .row C.i64 x2), (6, .flat (.int .i64 x3)), (7, .flat (.int .i64 x4))], []⟩
noncomputable def role_Right.l2.un (s : St U) : Option (List Int × List Int × Int × Int) := (row_i64 (s.get 0)).bind fun q0 => ((row_i64 (s.get 5)).bind fun q1 => (match s.get 6, s.get 7 with | .flat (.int .i64 x3), .flat (.int .i64 x4) => some (q0, q1, x3, x4) | _, _ => none))
noncomputable def role_Right.l2.fin (y : (List Int) ⊕ Bool) : Out U := match y with | .inl x11 => .exit 0 ⟨[(0, .row C.i64 x11)], []⟩ | .inr z => .ret (⟨[(0, .flat (.bool z))], []⟩)
noncomputable def role_Right.l2.finK {ρ : Type} (y : (List Int) ⊕ Bool) (K : Out U → Option ρ) : Option ρ := match y with | .inl x11 => K (.exit 0 ⟨[(0, .row C.i64 x11)], []⟩) | .inr z => K (.ret (⟨[(0, .flat (.bool z))], []⟩))
theorem role_Right.l2.finK_eq {ρ : Type} (y : (List Int) ⊕ Bool) (K : Out U → Option ρ) : role_Right.l2.finK y K = K (role_Right.l2.fin y) := by
  unfold role_Right.l2.finK role_Right.l2.fin
  first | rfl | (split <;> rfl)
noncomputable def role_Right.l2.re : Out U → Option ((List Int) ⊕ Bool) | .exit 0 s => ((row_i64 (s.get 0)).bind fun q0 => (some (.inl q0))) | .ret s => (match s.get 0 with | .flat (.bool x1) => some (.inr x1) | _ => none) | _ => none
noncomputable def role_Right.l2.L (k : Nat) : LDen U := { X := (List Int × List Int × Int × Int), Y := (List Int) ⊕ Bool, un := role_Right.l2.un, f := iter (role_Right.l2.once k) k, fin := role_Right.l2.fin, finK := role_Right.l2.finK, finK_eq := role_Right.l2.finK_eq }
noncomputable def role_Right.j4000.fin (y : (List Int × List Int × Int × Int × Bool)) : Out U := match y with | (x5, x6, x7, x8, x9) => .norm ⟨[(0, .row C.i64 x5), (5, .row C.i64 x6), (6, .flat (.int .i64 x7)), (7, .flat (.int .i64 x8)), (18, .flat (.bool x9))], []⟩
noncomputable def role_Right.j4000.finK {ρ : Type} (y : (List Int × List Int × Int × Int × Bool)) (K : Out U → Option ρ) : Option ρ := match y with | (x5, x6, x7, x8, x9) => K (.norm ⟨[(0, .row C.i64 x5), (5, .row C.i64 x6), (6, .flat (.int .i64 x7)), (7, .flat (.int .i64 x8)), (18, .flat (.bool x9))], []⟩)
theorem role_Right.j4000.finK_eq {ρ : Type} (y : (List Int × List Int × Int × Int × Bool)) (K : Out U → Option ρ) : role_Right.j4000.finK y K = K (role_Right.j4000.fin y) := by
  unfold role_Right.j4000.finK role_Right.j4000.fin
  first | rfl | (split <;> rfl)
noncomputable def role_Right.j4000.re : Out U → Option ((List Int × List Int × Int × Int × Bool)) | .norm s => ((row_i64 (s.get 0)).bind fun q0 => ((row_i64 (s.get 5)).bind fun q1 => (match s.get 6, s.get 7, s.get 18 with | .flat (.int .i64 x7), .flat (.int .i64 x8), .flat (.bool x9) => some (q0, q1, x7, x8, x9) | _, _, _ => none))) | _ => none
noncomputable def role_Right.j4000.J : JDen U := { Y := (List Int × List Int × Int × Int × Bool), re := role_Right.j4000.re, fin := role_Right.j4000.fin, finK := role_Right.j4000.finK, finK_eq := role_Right.j4000.finK_eq }
theorem role_Right.j4000.fit (o : Out U) (y : (List Int × List Int × Int × Int × Bool)) (h : role_Right.j4000.re o = some y) : FitsO o (role_Right.j4000.fin y) := by
  unfold role_Right.j4000.re at h
  split at h
  · obtain ⟨q0, eq0, h1⟩ := Option.bind_eq_some_iff.1 h
    obtain ⟨q1, eq1, h2⟩ := Option.bind_eq_some_iff.1 h1
    split at h2
    · cases h2
      refine fitsO_norm (fits_ren [] ?_ ?_ ren_nil rfl)
      · exact List.forall_mem_cons.2 ⟨FV.one (row_i64_fit eq0), List.forall_mem_cons.2 ⟨FV.one (row_i64_fit eq1), List.forall_mem_cons.2 ⟨FV.one (FV.same (by assumption) rfl), List.forall_mem_cons.2 ⟨FV.one (FV.same (by assumption) rfl), List.forall_mem_cons.2 ⟨FV.one (FV.same (by assumption) rfl), fun _ hp => (List.not_mem_nil hp).elim⟩⟩⟩⟩⟩
      · exact fun _ hp => (List.not_mem_nil hp).elim
    · cases h2
  · cases h
noncomputable def role_Right.jl : List (Nat × JDen U) := [(4000, role_Right.j4000.J)]
noncomputable def role_Right.fl (k : Nat) : List (Nat × FDen U) := []
noncomputable def role_Right.ll (k : Nat) : List (Nat × LDen U) := [(2, role_Right.l2.L k)]
noncomputable def role_Right.E (k : Nat) : Env U := { P := Try.prog, D := DD, fd := lk (role_Right.fl k), ld := lk (role_Right.ll k), jd := lk role_Right.jl, mode := lk [], elc := lk ec, mpc := lk mc, rts := Try.f84.resultTypes.toList, dyn := fun t => false, vecs := fun d => false, results := Try.f84.results.toList, gh := [], own := false, io := fun g i => false }
theorem role_Right.ok (k : Nat) : EnvOk (role_Right.E k) := envOk lawful (role_Right.fl k) (role_Right.ll k) role_Right.jl _ _ _ _ _ _ _ _ _ _ (by
  intro p hp
  simp [role_Right.fl] at hp) (by
  intro p hp
  simp only [role_Right.jl, List.mem_cons, List.not_mem_nil, or_false] at hp
  rcases hp with rfl
  · exact role_Right.j4000.fit)
theorem role_Right.l2.eq (k : Nat) (x : (List Int × List Int × Int × Int)) : evC (role_Right.E k) (loopAt Try.f84 2) (role_Right.l2.mk x) (headK role_Right.l2.un role_Right.l2.re) = role_Right.l2.once k x := by kernel_rfl
theorem role_Right.l2.fit (s : St U) (x : (List Int × List Int × Int × Int)) (h : role_Right.l2.un s = some x) : Fits s (role_Right.l2.mk x) := by
  unfold role_Right.l2.un at h
  obtain ⟨q0, eq0, h1⟩ := Option.bind_eq_some_iff.1 h
  obtain ⟨q1, eq1, h2⟩ := Option.bind_eq_some_iff.1 h1
  split at h2
  · cases h2
    refine fits_ren [] ?_ ?_ ren_nil rfl
    · exact List.forall_mem_cons.2 ⟨FV.one (row_i64_fit eq0), List.forall_mem_cons.2 ⟨FV.one (row_i64_fit eq1), List.forall_mem_cons.2 ⟨FV.one (FV.same (by assumption) rfl), List.forall_mem_cons.2 ⟨FV.one (FV.same (by assumption) rfl), fun _ hp => (List.not_mem_nil hp).elim⟩⟩⟩⟩
    · exact fun _ hp => (List.not_mem_nil hp).elim
  · cases h2
theorem role_Right.l2.fitO (o : Out U) (y : (List Int) ⊕ Bool) (h : role_Right.l2.re o = some y) : FitsO o (role_Right.l2.fin y) := by
  unfold role_Right.l2.re at h
  split at h
  · obtain ⟨q0, eq0, h1⟩ := Option.bind_eq_some_iff.1 h
    cases h1
    refine fitsO_exit (fits_ren [] ?_ ?_ ren_nil rfl)
    · exact List.forall_mem_cons.2 ⟨FV.one (row_i64_fit eq0), fun _ hp => (List.not_mem_nil hp).elim⟩
    · exact fun _ hp => (List.not_mem_nil hp).elim
  · split at h
    · cases h
      refine fitsO_ret (fits_ren [] ?_ ?_ ren_nil rfl)
      · exact List.forall_mem_cons.2 ⟨FV.one (FV.same (by assumption) rfl), fun _ hp => (List.not_mem_nil hp).elim⟩
      · exact fun _ hp => (List.not_mem_nil hp).elim
    · cases h
  · cases h
theorem role_Right.l2.sound (k : Nat) : LSound (role_Right.E k) Try.f84.ntmps Try.f84 (loopAt Try.f84 2) (role_Right.l2.L k) :=
  loop_sound (role_Right.ok k) mixed rfl (by kernel_rfl) (allL_of (l := []) (by kernel_rfl) allL_nil) role_Right.l2.un role_Right.l2.mk role_Right.l2.fin role_Right.l2.re (role_Right.l2.once k) k role_Right.l2.fit role_Right.l2.fitO (role_Right.l2.eq k) role_Right.l2.finK role_Right.l2.finK_eq
theorem role_Right.eq (k : Nat) (x : List Int) : runF (role_Right.E k) (codeOf Try.f84) (role_Right.mk x) role_Right.re = (role_Right.D k).f x := by kernel_rfl
theorem role_Right.fit (s : St U) (x : List Int) (h : role_Right.un s = some x) : Fits s (role_Right.mk x) := by
  unfold role_Right.un at h
  split at h
  · cases h
    refine fits_ren [] ?_ ?_ ren_nil rfl
    · exact List.forall_mem_cons.2 ⟨FV.one (FV.same (by assumption) rfl), fun _ hp => (List.not_mem_nil hp).elim⟩
    · exact fun _ hp => (List.not_mem_nil hp).elim
  · cases h
theorem role_Right.fitR (s : St U) (y : Bool) (h : role_Right.re s = some y) : Fits s (role_Right.fin y) := by
  unfold role_Right.re at h
  split at h
  · cases h
    refine fits_ren [] ?_ ?_ ren_nil rfl
    · exact List.forall_mem_cons.2 ⟨FV.one (FV.same (by assumption) rfl), fun _ hp => (List.not_mem_nil hp).elim⟩
    · exact fun _ hp => (List.not_mem_nil hp).elim
  · cases h
theorem role_Right.sound (k : Nat) : Sound Try.prog DD 84 (role_Right.D k) :=
  fun_sound (E := role_Right.E k) (fn := Try.f84) (c := codeOf Try.f84) (role_Right.ok k) mixed rfl Try.func84 (by kernel_rfl) (by kernel_rfl) (allL_of (l := [loopAt Try.f84 2]) (by kernel_rfl) (allL_cons (key := 2) (by kernel_rfl) rfl (role_Right.l2.sound k) allL_nil)) (role_Right.D k) role_Right.mk role_Right.re (by kernel_rfl) (by kernel_rfl) role_Right.fit role_Right.fitR (role_Right.eq k)
/-! ### pyx/rule.rightEnt: function 85 -/
noncomputable def rule_rightEnt.f (k : Nat) (a0 : Sapi_Ent) (a1 : Int) : Option Bool := (rule_within.f k a0.f_Level 0 3).bind fun t1 => (cond (t1) ((rule_within.f k a0.f_Scale 0 4).bind fun t2 => (cond (t2) ((rule_within.f k a0.f_Parent (-1) (IntKind.wrap .i64 (a1 - 1))).bind fun t3 => (cond (t3) ((rule_within.f k a0.f_Share 1 10000).bind fun t4 => (cond (t4) (cond (!(a0.f_Parent == (-1))) (some true) (some (a0.f_Share == 10000))) (some false))) (some false))) (some false))) (some false))
noncomputable def rule_rightEnt.un (s : St U) : Option (Sapi_Ent × Int) := match s.get 0, s.get 1 with | .agg [.flat (.int .i64 x1), .flat (.int .i64 x2), .flat (.int .i64 x3), .flat (.int .i64 x4)], .flat (.int .i64 x5) => some ((⟨x1, x2, x3, x4⟩ : Sapi_Ent), x5) | _, _ => none
noncomputable def rule_rightEnt.mk (x : (Sapi_Ent × Int)) : St U := ⟨[(0, .agg [.flat (.int .i64 x.1.f_Level), .flat (.int .i64 x.1.f_Scale), .flat (.int .i64 x.1.f_Parent), .flat (.int .i64 x.1.f_Share)]), (1, .flat (.int .i64 x.2))], []⟩
noncomputable def rule_rightEnt.fin (y : Bool) : St U := ⟨[(0, .flat (.bool y))], []⟩
noncomputable def rule_rightEnt.D (k : Nat) : FDen U := { X := (Sapi_Ent × Int), Y := Bool, nt := 38, gh := [], un := rule_rightEnt.un, f := fun x => rule_rightEnt.f k (x.1) (x.2), fin := rule_rightEnt.fin, cl := true, clo := fun _ _ => rfl }
noncomputable def rule_rightEnt.re (s : St U) : Option Bool := match s.get 0 with | .flat (.bool x1) => some x1 | _ => none
noncomputable def rule_rightEnt.jl : List (Nat × JDen U) := []
noncomputable def rule_rightEnt.fl (k : Nat) : List (Nat × FDen U) := [(76, rule_within.D k)]
noncomputable def rule_rightEnt.ll (k : Nat) : List (Nat × LDen U) := []
noncomputable def rule_rightEnt.E (k : Nat) : Env U := { P := Try.prog, D := DD, fd := lk (rule_rightEnt.fl k), ld := lk (rule_rightEnt.ll k), jd := lk rule_rightEnt.jl, mode := lk [], elc := lk ec, mpc := lk mc, rts := Try.f85.resultTypes.toList, dyn := fun t => false, vecs := fun d => false, results := Try.f85.results.toList, gh := [], own := false, io := fun g i => false }
theorem rule_rightEnt.ok (k : Nat) : EnvOk (rule_rightEnt.E k) := envOk lawful (rule_rightEnt.fl k) (rule_rightEnt.ll k) rule_rightEnt.jl _ _ _ _ _ _ _ _ _ _ (by
  intro p hp
  simp only [rule_rightEnt.fl, List.mem_cons, List.not_mem_nil, or_false] at hp
  rcases hp with rfl
  · exact ⟨rule_within.sound k, enter_of Try.func76 (by kernel_rfl) (by kernel_rfl)⟩) (by
  intro p hp
  simp [rule_rightEnt.jl] at hp)
theorem rule_rightEnt.eq (k : Nat) (x : (Sapi_Ent × Int)) : runF (rule_rightEnt.E k) (codeOf Try.f85) (rule_rightEnt.mk x) rule_rightEnt.re = (rule_rightEnt.D k).f x := by kernel_rfl
theorem rule_rightEnt.fit (s : St U) (x : (Sapi_Ent × Int)) (h : rule_rightEnt.un s = some x) : Fits s (rule_rightEnt.mk x) := by
  unfold rule_rightEnt.un at h
  split at h
  · cases h
    refine fits_ren [] ?_ ?_ ren_nil rfl
    · exact List.forall_mem_cons.2 ⟨FV.one (FV.same (by assumption) rfl), List.forall_mem_cons.2 ⟨FV.one (FV.same (by assumption) rfl), fun _ hp => (List.not_mem_nil hp).elim⟩⟩
    · exact fun _ hp => (List.not_mem_nil hp).elim
  · cases h
theorem rule_rightEnt.fitR (s : St U) (y : Bool) (h : rule_rightEnt.re s = some y) : Fits s (rule_rightEnt.fin y) := by
  unfold rule_rightEnt.re at h
  split at h
  · cases h
    refine fits_ren [] ?_ ?_ ren_nil rfl
    · exact List.forall_mem_cons.2 ⟨FV.one (FV.same (by assumption) rfl), fun _ hp => (List.not_mem_nil hp).elim⟩
    · exact fun _ hp => (List.not_mem_nil hp).elim
  · cases h
theorem rule_rightEnt.sound (k : Nat) : Sound Try.prog DD 85 (rule_rightEnt.D k) :=
  fun_sound (E := rule_rightEnt.E k) (fn := Try.f85) (c := codeOf Try.f85) (rule_rightEnt.ok k) mixed rfl Try.func85 (by kernel_rfl) (by kernel_rfl) (allL_of (l := []) (by kernel_rfl) allL_nil) (rule_rightEnt.D k) rule_rightEnt.mk rule_rightEnt.re (by kernel_rfl) (by kernel_rfl) rule_rightEnt.fit rule_rightEnt.fitR (rule_rightEnt.eq k)
/-! ### pyx/rule.Right$1: function 87 -/
noncomputable def rule_Right_1.f (k : Nat) (a0 : Int) (a1 : Sapi_Policy) : Option Bool := cond (a0 == 0) (some true) (cond (decide (IntKind.wrap .u64 ((List.length a1.f_Ents : Int)) < 0)) none (some (decide (a0 ≥ (IntKind.wrap .u64 (1 * 2 ^ (min (Int.toNat (IntKind.wrap .u64 ((List.length a1.f_Ents : Int)))) 64)))))))
noncomputable def rule_Right_1.un (s : St U) : Option (Int × Sapi_Policy) := match s.get 0, s.get 1 with | .flat (.int .u64 x1), .rp [.row C.Sapi_Ent x2, .row C.u64 x3, .row C.Sapi_Who x4, .row C.i64 x5, .row C.Sapi_Rule x6] 0 => some (x1, (⟨x2, x3, x4, x5, x6⟩ : Sapi_Policy)) | _, _ => none
noncomputable def rule_Right_1.mk (x : (Int × Sapi_Policy)) : St U := ⟨[(0, .flat (.int .u64 x.1)), (1, .rp [.row C.Sapi_Ent x.2.f_Ents, .row C.u64 x.2.f_Groups, .row C.Sapi_Who x.2.f_Who, .row C.i64 x.2.f_Up, .row C.Sapi_Rule x.2.f_Rules] 0)], []⟩
noncomputable def rule_Right_1.fin (y : Bool) : St U := ⟨[(0, .flat (.bool y))], []⟩
noncomputable def rule_Right_1.D (k : Nat) : FDen U := { X := (Int × Sapi_Policy), Y := Bool, nt := 15, gh := [], un := rule_Right_1.un, f := fun x => rule_Right_1.f k (x.1) (x.2), fin := rule_Right_1.fin, cl := true, clo := fun _ _ => rfl }
noncomputable def rule_Right_1.re (s : St U) : Option Bool := match s.get 0 with | .flat (.bool x1) => some x1 | _ => none
noncomputable def rule_Right_1.jl : List (Nat × JDen U) := []
noncomputable def rule_Right_1.fl (k : Nat) : List (Nat × FDen U) := []
noncomputable def rule_Right_1.ll (k : Nat) : List (Nat × LDen U) := []
noncomputable def rule_Right_1.E (k : Nat) : Env U := { P := Try.prog, D := DD, fd := lk (rule_Right_1.fl k), ld := lk (rule_Right_1.ll k), jd := lk rule_Right_1.jl, mode := lk [], elc := lk ec, mpc := lk mc, rts := Try.f87.resultTypes.toList, dyn := fun t => false, vecs := fun d => false, results := Try.f87.results.toList, gh := [], own := false, io := fun g i => false }
theorem rule_Right_1.ok (k : Nat) : EnvOk (rule_Right_1.E k) := envOk lawful (rule_Right_1.fl k) (rule_Right_1.ll k) rule_Right_1.jl _ _ _ _ _ _ _ _ _ _ (by
  intro p hp
  simp [rule_Right_1.fl] at hp) (by
  intro p hp
  simp [rule_Right_1.jl] at hp)
theorem rule_Right_1.eq (k : Nat) (x : (Int × Sapi_Policy)) : runF (rule_Right_1.E k) (codeOf Try.f87) (rule_Right_1.mk x) rule_Right_1.re = (rule_Right_1.D k).f x := by kernel_rfl
theorem rule_Right_1.fit (s : St U) (x : (Int × Sapi_Policy)) (h : rule_Right_1.un s = some x) : Fits s (rule_Right_1.mk x) := by
  unfold rule_Right_1.un at h
  split at h
  · cases h
    refine fits_ren [] ?_ ?_ ren_nil rfl
    · exact List.forall_mem_cons.2 ⟨FV.one (FV.same (by assumption) rfl), List.forall_mem_cons.2 ⟨FV.one (FV.same (by assumption) rfl), fun _ hp => (List.not_mem_nil hp).elim⟩⟩
    · exact fun _ hp => (List.not_mem_nil hp).elim
  · cases h
theorem rule_Right_1.fitR (s : St U) (y : Bool) (h : rule_Right_1.re s = some y) : Fits s (rule_Right_1.fin y) := by
  unfold rule_Right_1.re at h
  split at h
  · cases h
    refine fits_ren [] ?_ ?_ ren_nil rfl
    · exact List.forall_mem_cons.2 ⟨FV.one (FV.same (by assumption) rfl), fun _ hp => (List.not_mem_nil hp).elim⟩
    · exact fun _ hp => (List.not_mem_nil hp).elim
  · cases h
theorem rule_Right_1.sound (k : Nat) : Sound Try.prog DD 87 (rule_Right_1.D k) :=
  fun_sound (E := rule_Right_1.E k) (fn := Try.f87) (c := codeOf Try.f87) (rule_Right_1.ok k) mixed rfl Try.func87 (by kernel_rfl) (by kernel_rfl) (allL_of (l := []) (by kernel_rfl) allL_nil) (rule_Right_1.D k) rule_Right_1.mk rule_Right_1.re (by kernel_rfl) (by kernel_rfl) rule_Right_1.fit rule_Right_1.fitR (rule_Right_1.eq k)
/-! ### slices.IndexFunc[[]uint64,uint64]: function 106 -/
noncomputable def slices_IndexFunc__uint64_uint64_c87.l2.once (k : Nat) (x : (List Int × List Sapi_Ent × List Int × List Sapi_Who × List Int × List Sapi_Rule × Int × Int)) : Option ((List Int × List Sapi_Ent × List Int × List Sapi_Who × List Int × List Sapi_Rule × Int × Int) ⊕ (Unit ⊕ Int)) := match x with | (x1, x2, x3, x4, x5, x6, x7, x8) => cond (decide (x8 < x7)) (cond (inb x8 (List.length x1)) ((rule_Right_1.f k (List.getD x1 (Int.toNat x8) 0) (⟨x2, x3, x4, x5, x6⟩ : Sapi_Policy)).bind fun t9 => (cond (t9) (some (.inr (.inr x8))) (some (.inl (x1, x2, x3, x4, x5, x6, x7, IntKind.wrap .i64 (x8 + 1)))))) none) (some (.inr (.inl ())))
noncomputable def slices_IndexFunc__uint64_uint64_c87.f (k : Nat) (a0 : List Int) (a1 : Sapi_Policy) : Option Int := (iter (slices_IndexFunc__uint64_uint64_c87.l2.once k) k (a0, a1.f_Ents, a1.f_Groups, a1.f_Who, a1.f_Up, a1.f_Rules, (List.length a0 : Int), 0)).bind fun | .inl y11 => (some (-1)) | .inr y12 => (some y12)
noncomputable def slices_IndexFunc__uint64_uint64_c87.un (s : St U) : Option (List Int × Sapi_Policy) := match s.get 0, s.get 1 with | .row C.u64 x1, .fn 87 [.rp [.row C.Sapi_Ent x2, .row C.u64 x3, .row C.Sapi_Who x4, .row C.i64 x5, .row C.Sapi_Rule x6] 0] => some (x1, (⟨x2, x3, x4, x5, x6⟩ : Sapi_Policy)) | _, _ => none
noncomputable def slices_IndexFunc__uint64_uint64_c87.mk (x : (List Int × Sapi_Policy)) : St U := ⟨[(0, .row C.u64 x.1), (1, .fn 87 [.rp [.row C.Sapi_Ent x.2.f_Ents, .row C.u64 x.2.f_Groups, .row C.Sapi_Who x.2.f_Who, .row C.i64 x.2.f_Up, .row C.Sapi_Rule x.2.f_Rules] 0])], []⟩
noncomputable def slices_IndexFunc__uint64_uint64_c87.fin (y : Int) : St U := ⟨[(0, .flat (.int .i64 y))], []⟩
noncomputable def slices_IndexFunc__uint64_uint64_c87.D (k : Nat) : FDen U := { X := (List Int × Sapi_Policy), Y := Int, nt := 19, gh := [], un := slices_IndexFunc__uint64_uint64_c87.un, f := fun x => slices_IndexFunc__uint64_uint64_c87.f k (x.1) (x.2), fin := slices_IndexFunc__uint64_uint64_c87.fin, cl := true, clo := fun _ _ => rfl }
noncomputable def slices_IndexFunc__uint64_uint64_c87.re (s : St U) : Option Int := match s.get 0 with | .flat (.int .i64 x1) => some x1 | _ => none
noncomputable def slices_IndexFunc__uint64_uint64_c87.l2.mk (x : (List Int × List Sapi_Ent × List Int × List Sapi_Who × List Int × List Sapi_Rule × Int × Int)) : St U := match x with | (x1, x2, x3, x4, x5, x6, x7, x8) => ⟨[(0, .row C.u64 x1), (1, .fn 87 [.rp [.row C.Sapi_Ent x2, .row C.u64 x3, .row C.Sapi_Who x4, .row C.i64 x5, .row C.Sapi_Rule x6] 0]), (7, .flat (.int .i64 x7)), (8, .flat (.int .i64 x8))], []⟩
noncomputable def slices_IndexFunc__uint64_uint64_c87.l2.un (s : St U) : Option (List Int × List Sapi_Ent × List Int × List Sapi_Who × List Int × List Sapi_Rule × Int × Int) := (row_u64 (s.get 0)).bind fun q0 => (match s.get 1, s.get 7, s.get 8 with | .fn 87 [.rp [.row C.Sapi_Ent x2, .row C.u64 x3, .row C.Sapi_Who x4, .row C.i64 x5, .row C.Sapi_Rule x6] 0], .flat (.int .i64 x7), .flat (.int .i64 x8) => some (q0, x2, x3, x4, x5, x6, x7, x8) | _, _, _ => none)
noncomputable def slices_IndexFunc__uint64_uint64_c87.l2.fin (y : Unit ⊕ Int) : Out U := match y with | .inl () => .exit 0 ⟨[], []⟩ | .inr z => .ret (⟨[(0, .flat (.int .i64 z))], []⟩)
noncomputable def slices_IndexFunc__uint64_uint64_c87.l2.finK {ρ : Type} (y : Unit ⊕ Int) (K : Out U → Option ρ) : Option ρ := match y with | .inl () => K (.exit 0 ⟨[], []⟩) | .inr z => K (.ret (⟨[(0, .flat (.int .i64 z))], []⟩))
theorem slices_IndexFunc__uint64_uint64_c87.l2.finK_eq {ρ : Type} (y : Unit ⊕ Int) (K : Out U → Option ρ) : slices_IndexFunc__uint64_uint64_c87.l2.finK y K = K (slices_IndexFunc__uint64_uint64_c87.l2.fin y) := by
  unfold slices_IndexFunc__uint64_uint64_c87.l2.finK slices_IndexFunc__uint64_uint64_c87.l2.fin
  first | rfl | (split <;> rfl)
noncomputable def slices_IndexFunc__uint64_uint64_c87.l2.re : Out U → Option (Unit ⊕ Int) | .exit 0 s => (some (.inl ())) | .ret s => (match s.get 0 with | .flat (.int .i64 x1) => some (.inr x1) | _ => none) | _ => none
noncomputable def slices_IndexFunc__uint64_uint64_c87.l2.L (k : Nat) : LDen U := { X := (List Int × List Sapi_Ent × List Int × List Sapi_Who × List Int × List Sapi_Rule × Int × Int), Y := Unit ⊕ Int, un := slices_IndexFunc__uint64_uint64_c87.l2.un, f := iter (slices_IndexFunc__uint64_uint64_c87.l2.once k) k, fin := slices_IndexFunc__uint64_uint64_c87.l2.fin, finK := slices_IndexFunc__uint64_uint64_c87.l2.finK, finK_eq := slices_IndexFunc__uint64_uint64_c87.l2.finK_eq }
noncomputable def slices_IndexFunc__uint64_uint64_c87.jl : List (Nat × JDen U) := []
noncomputable def slices_IndexFunc__uint64_uint64_c87.fl (k : Nat) : List (Nat × FDen U) := [(87, rule_Right_1.D k)]
noncomputable def slices_IndexFunc__uint64_uint64_c87.ll (k : Nat) : List (Nat × LDen U) := [(2, slices_IndexFunc__uint64_uint64_c87.l2.L k)]
noncomputable def slices_IndexFunc__uint64_uint64_c87.E (k : Nat) : Env U := { P := Try.prog, D := DD, fd := lk (slices_IndexFunc__uint64_uint64_c87.fl k), ld := lk (slices_IndexFunc__uint64_uint64_c87.ll k), jd := lk slices_IndexFunc__uint64_uint64_c87.jl, mode := lk [], elc := lk ec, mpc := lk mc, rts := Try.f106.resultTypes.toList, dyn := fun t => false, vecs := fun d => false, results := Try.f106.results.toList, gh := [], own := false, io := fun g i => false }
theorem slices_IndexFunc__uint64_uint64_c87.ok (k : Nat) : EnvOk (slices_IndexFunc__uint64_uint64_c87.E k) := envOk lawful (slices_IndexFunc__uint64_uint64_c87.fl k) (slices_IndexFunc__uint64_uint64_c87.ll k) slices_IndexFunc__uint64_uint64_c87.jl _ _ _ _ _ _ _ _ _ _ (by
  intro p hp
  simp only [slices_IndexFunc__uint64_uint64_c87.fl, List.mem_cons, List.not_mem_nil, or_false] at hp
  rcases hp with rfl
  · exact ⟨rule_Right_1.sound k, enter_of Try.func87 (by kernel_rfl) (by kernel_rfl)⟩) (by
  intro p hp
  simp [slices_IndexFunc__uint64_uint64_c87.jl] at hp)
theorem slices_IndexFunc__uint64_uint64_c87.l2.eq (k : Nat) (x : (List Int × List Sapi_Ent × List Int × List Sapi_Who × List Int × List Sapi_Rule × Int × Int)) : evC (slices_IndexFunc__uint64_uint64_c87.E k) (loopAt Try.f106 2) (slices_IndexFunc__uint64_uint64_c87.l2.mk x) (headK slices_IndexFunc__uint64_uint64_c87.l2.un slices_IndexFunc__uint64_uint64_c87.l2.re) = slices_IndexFunc__uint64_uint64_c87.l2.once k x := by kernel_rfl
theorem slices_IndexFunc__uint64_uint64_c87.l2.fit (s : St U) (x : (List Int × List Sapi_Ent × List Int × List Sapi_Who × List Int × List Sapi_Rule × Int × Int)) (h : slices_IndexFunc__uint64_uint64_c87.l2.un s = some x) : Fits s (slices_IndexFunc__uint64_uint64_c87.l2.mk x) := by
  unfold slices_IndexFunc__uint64_uint64_c87.l2.un at h
  obtain ⟨q0, eq0, h1⟩ := Option.bind_eq_some_iff.1 h
  split at h1
  · cases h1
    refine fits_ren [] ?_ ?_ ren_nil rfl
    · exact List.forall_mem_cons.2 ⟨FV.one (row_u64_fit eq0), List.forall_mem_cons.2 ⟨FV.one (FV.same (by assumption) rfl), List.forall_mem_cons.2 ⟨FV.one (FV.same (by assumption) rfl), List.forall_mem_cons.2 ⟨FV.one (FV.same (by assumption) rfl), fun _ hp => (List.not_mem_nil hp).elim⟩⟩⟩⟩
    · exact fun _ hp => (List.not_mem_nil hp).elim
  · cases h1
theorem slices_IndexFunc__uint64_uint64_c87.l2.fitO (o : Out U) (y : Unit ⊕ Int) (h : slices_IndexFunc__uint64_uint64_c87.l2.re o = some y) : FitsO o (slices_IndexFunc__uint64_uint64_c87.l2.fin y) := by
  unfold slices_IndexFunc__uint64_uint64_c87.l2.re at h
  split at h
  · cases h
    refine fitsO_exit (fits_ren [] ?_ ?_ ren_nil rfl)
    · exact fun _ hp => (List.not_mem_nil hp).elim
    · exact fun _ hp => (List.not_mem_nil hp).elim
  · split at h
    · cases h
      refine fitsO_ret (fits_ren [] ?_ ?_ ren_nil rfl)
      · exact List.forall_mem_cons.2 ⟨FV.one (FV.same (by assumption) rfl), fun _ hp => (List.not_mem_nil hp).elim⟩
      · exact fun _ hp => (List.not_mem_nil hp).elim
    · cases h
  · cases h
theorem slices_IndexFunc__uint64_uint64_c87.l2.sound (k : Nat) : LSound (slices_IndexFunc__uint64_uint64_c87.E k) Try.f106.ntmps Try.f106 (loopAt Try.f106 2) (slices_IndexFunc__uint64_uint64_c87.l2.L k) :=
  loop_sound (slices_IndexFunc__uint64_uint64_c87.ok k) mixed rfl (by kernel_rfl) (allL_of (l := []) (by kernel_rfl) allL_nil) slices_IndexFunc__uint64_uint64_c87.l2.un slices_IndexFunc__uint64_uint64_c87.l2.mk slices_IndexFunc__uint64_uint64_c87.l2.fin slices_IndexFunc__uint64_uint64_c87.l2.re (slices_IndexFunc__uint64_uint64_c87.l2.once k) k slices_IndexFunc__uint64_uint64_c87.l2.fit slices_IndexFunc__uint64_uint64_c87.l2.fitO (slices_IndexFunc__uint64_uint64_c87.l2.eq k) slices_IndexFunc__uint64_uint64_c87.l2.finK slices_IndexFunc__uint64_uint64_c87.l2.finK_eq
theorem slices_IndexFunc__uint64_uint64_c87.eq (k : Nat) (x : (List Int × Sapi_Policy)) : runF (slices_IndexFunc__uint64_uint64_c87.E k) (codeOf Try.f106) (slices_IndexFunc__uint64_uint64_c87.mk x) slices_IndexFunc__uint64_uint64_c87.re = (slices_IndexFunc__uint64_uint64_c87.D k).f x := by kernel_rfl
theorem slices_IndexFunc__uint64_uint64_c87.fit (s : St U) (x : (List Int × Sapi_Policy)) (h : slices_IndexFunc__uint64_uint64_c87.un s = some x) : Fits s (slices_IndexFunc__uint64_uint64_c87.mk x) := by
  unfold slices_IndexFunc__uint64_uint64_c87.un at h
  split at h
  · cases h
    refine fits_ren [] ?_ ?_ ren_nil rfl
    · exact List.forall_mem_cons.2 ⟨FV.one (FV.same (by assumption) rfl), List.forall_mem_cons.2 ⟨FV.one (FV.same (by assumption) rfl), fun _ hp => (List.not_mem_nil hp).elim⟩⟩
    · exact fun _ hp => (List.not_mem_nil hp).elim
  · cases h
theorem slices_IndexFunc__uint64_uint64_c87.fitR (s : St U) (y : Int) (h : slices_IndexFunc__uint64_uint64_c87.re s = some y) : Fits s (slices_IndexFunc__uint64_uint64_c87.fin y) := by
  unfold slices_IndexFunc__uint64_uint64_c87.re at h
  split at h
  · cases h
    refine fits_ren [] ?_ ?_ ren_nil rfl
    · exact List.forall_mem_cons.2 ⟨FV.one (FV.same (by assumption) rfl), fun _ hp => (List.not_mem_nil hp).elim⟩
    · exact fun _ hp => (List.not_mem_nil hp).elim
  · cases h
theorem slices_IndexFunc__uint64_uint64_c87.sound (k : Nat) : Sound Try.prog DD 106 (slices_IndexFunc__uint64_uint64_c87.D k) :=
  fun_sound (E := slices_IndexFunc__uint64_uint64_c87.E k) (fn := Try.f106) (c := codeOf Try.f106) (slices_IndexFunc__uint64_uint64_c87.ok k) mixed rfl Try.func106 (by kernel_rfl) (by kernel_rfl) (allL_of (l := [loopAt Try.f106 2]) (by kernel_rfl) (allL_cons (key := 2) (by kernel_rfl) rfl (slices_IndexFunc__uint64_uint64_c87.l2.sound k) allL_nil)) (slices_IndexFunc__uint64_uint64_c87.D k) slices_IndexFunc__uint64_uint64_c87.mk slices_IndexFunc__uint64_uint64_c87.re (by kernel_rfl) (by kernel_rfl) slices_IndexFunc__uint64_uint64_c87.fit slices_IndexFunc__uint64_uint64_c87.fitR (slices_IndexFunc__uint64_uint64_c87.eq k)
/-! ### slices.ContainsFunc[[]uint64,uint64]: function 86 -/
noncomputable def slices_ContainsFunc__uint64_uint64_c87.f (k : Nat) (a0 : List Int) (a1 : Sapi_Policy) : Option Bool := (slices_IndexFunc__uint64_uint64_c87.f k a0 (⟨a1.f_Ents, a1.f_Groups, a1.f_Who, a1.f_Up, a1.f_Rules⟩ : Sapi_Policy)).bind fun t1 => (some (decide (t1 ≥ 0)))
noncomputable def slices_ContainsFunc__uint64_uint64_c87.un (s : St U) : Option (List Int × Sapi_Policy) := match s.get 0, s.get 1 with | .row C.u64 x1, .fn 87 [.rp [.row C.Sapi_Ent x2, .row C.u64 x3, .row C.Sapi_Who x4, .row C.i64 x5, .row C.Sapi_Rule x6] 0] => some (x1, (⟨x2, x3, x4, x5, x6⟩ : Sapi_Policy)) | _, _ => none
noncomputable def slices_ContainsFunc__uint64_uint64_c87.mk (x : (List Int × Sapi_Policy)) : St U := ⟨[(0, .row C.u64 x.1), (1, .fn 87 [.rp [.row C.Sapi_Ent x.2.f_Ents, .row C.u64 x.2.f_Groups, .row C.Sapi_Who x.2.f_Who, .row C.i64 x.2.f_Up, .row C.Sapi_Rule x.2.f_Rules] 0])], []⟩
noncomputable def slices_ContainsFunc__uint64_uint64_c87.fin (y : Bool) : St U := ⟨[(0, .flat (.bool y))], []⟩
noncomputable def slices_ContainsFunc__uint64_uint64_c87.D (k : Nat) : FDen U := { X := (List Int × Sapi_Policy), Y := Bool, nt := 9, gh := [], un := slices_ContainsFunc__uint64_uint64_c87.un, f := fun x => slices_ContainsFunc__uint64_uint64_c87.f k (x.1) (x.2), fin := slices_ContainsFunc__uint64_uint64_c87.fin, cl := true, clo := fun _ _ => rfl }
noncomputable def slices_ContainsFunc__uint64_uint64_c87.re (s : St U) : Option Bool := match s.get 0 with | .flat (.bool x1) => some x1 | _ => none
noncomputable def slices_ContainsFunc__uint64_uint64_c87.jl : List (Nat × JDen U) := []
noncomputable def slices_ContainsFunc__uint64_uint64_c87.fl (k : Nat) : List (Nat × FDen U) := [(106, slices_IndexFunc__uint64_uint64_c87.D k)]
noncomputable def slices_ContainsFunc__uint64_uint64_c87.ll (k : Nat) : List (Nat × LDen U) := []
noncomputable def slices_ContainsFunc__uint64_uint64_c87.E (k : Nat) : Env U := { P := Try.prog, D := DD, fd := lk (slices_ContainsFunc__uint64_uint64_c87.fl k), ld := lk (slices_ContainsFunc__uint64_uint64_c87.ll k), jd := lk slices_ContainsFunc__uint64_uint64_c87.jl, mode := lk [], elc := lk ec, mpc := lk mc, rts := Try.f86.resultTypes.toList, dyn := fun t => false, vecs := fun d => false, results := Try.f86.results.toList, gh := [], own := false, io := fun g i => false }
theorem slices_ContainsFunc__uint64_uint64_c87.ok (k : Nat) : EnvOk (slices_ContainsFunc__uint64_uint64_c87.E k) := envOk lawful (slices_ContainsFunc__uint64_uint64_c87.fl k) (slices_ContainsFunc__uint64_uint64_c87.ll k) slices_ContainsFunc__uint64_uint64_c87.jl _ _ _ _ _ _ _ _ _ _ (by
  intro p hp
  simp only [slices_ContainsFunc__uint64_uint64_c87.fl, List.mem_cons, List.not_mem_nil, or_false] at hp
  rcases hp with rfl
  · exact ⟨slices_IndexFunc__uint64_uint64_c87.sound k, enter_of Try.func106 (by kernel_rfl) (by kernel_rfl)⟩) (by
  intro p hp
  simp [slices_ContainsFunc__uint64_uint64_c87.jl] at hp)
theorem slices_ContainsFunc__uint64_uint64_c87.eq (k : Nat) (x : (List Int × Sapi_Policy)) : runF (slices_ContainsFunc__uint64_uint64_c87.E k) (codeOf Try.f86) (slices_ContainsFunc__uint64_uint64_c87.mk x) slices_ContainsFunc__uint64_uint64_c87.re = (slices_ContainsFunc__uint64_uint64_c87.D k).f x := by kernel_rfl
theorem slices_ContainsFunc__uint64_uint64_c87.fit (s : St U) (x : (List Int × Sapi_Policy)) (h : slices_ContainsFunc__uint64_uint64_c87.un s = some x) : Fits s (slices_ContainsFunc__uint64_uint64_c87.mk x) := by
  unfold slices_ContainsFunc__uint64_uint64_c87.un at h
  split at h
  · cases h
    refine fits_ren [] ?_ ?_ ren_nil rfl
    · exact List.forall_mem_cons.2 ⟨FV.one (FV.same (by assumption) rfl), List.forall_mem_cons.2 ⟨FV.one (FV.same (by assumption) rfl), fun _ hp => (List.not_mem_nil hp).elim⟩⟩
    · exact fun _ hp => (List.not_mem_nil hp).elim
  · cases h
theorem slices_ContainsFunc__uint64_uint64_c87.fitR (s : St U) (y : Bool) (h : slices_ContainsFunc__uint64_uint64_c87.re s = some y) : Fits s (slices_ContainsFunc__uint64_uint64_c87.fin y) := by
  unfold slices_ContainsFunc__uint64_uint64_c87.re at h
  split at h
  · cases h
    refine fits_ren [] ?_ ?_ ren_nil rfl
    · exact List.forall_mem_cons.2 ⟨FV.one (FV.same (by assumption) rfl), fun _ hp => (List.not_mem_nil hp).elim⟩
    · exact fun _ hp => (List.not_mem_nil hp).elim
  · cases h
theorem slices_ContainsFunc__uint64_uint64_c87.sound (k : Nat) : Sound Try.prog DD 86 (slices_ContainsFunc__uint64_uint64_c87.D k) :=
  fun_sound (E := slices_ContainsFunc__uint64_uint64_c87.E k) (fn := Try.f86) (c := codeOf Try.f86) (slices_ContainsFunc__uint64_uint64_c87.ok k) mixed rfl Try.func86 (by kernel_rfl) (by kernel_rfl) (allL_of (l := []) (by kernel_rfl) allL_nil) (slices_ContainsFunc__uint64_uint64_c87.D k) slices_ContainsFunc__uint64_uint64_c87.mk slices_ContainsFunc__uint64_uint64_c87.re (by kernel_rfl) (by kernel_rfl) slices_ContainsFunc__uint64_uint64_c87.fit slices_ContainsFunc__uint64_uint64_c87.fitR (slices_ContainsFunc__uint64_uint64_c87.eq k)
/-! ### pyx/label.bit: function 80 -/
noncomputable def label_bit.f (k : Nat) (a0 : Int) : Option Int := cond (decide (IntKind.wrap .u64 (a0) < 0)) none (some (IntKind.wrap .u64 (1 * 2 ^ (min (Int.toNat (IntKind.wrap .u64 (a0))) 64))))
noncomputable def label_bit.un (s : St U) : Option Int := match s.get 0 with | .flat (.int .i64 x1) => some x1 | _ => none
noncomputable def label_bit.mk (x : Int) : St U := ⟨[(0, .flat (.int .i64 x))], []⟩
noncomputable def label_bit.fin (y : Int) : St U := ⟨[(0, .flat (.int .u64 y))], []⟩
noncomputable def label_bit.D (k : Nat) : FDen U := { X := Int, Y := Int, nt := 6, gh := [], un := label_bit.un, f := fun x => label_bit.f k (x), fin := label_bit.fin, cl := true, clo := fun _ _ => rfl }
noncomputable def label_bit.re (s : St U) : Option Int := match s.get 0 with | .flat (.int .u64 x1) => some x1 | _ => none
noncomputable def label_bit.jl : List (Nat × JDen U) := []
noncomputable def label_bit.fl (k : Nat) : List (Nat × FDen U) := []
noncomputable def label_bit.ll (k : Nat) : List (Nat × LDen U) := []
noncomputable def label_bit.E (k : Nat) : Env U := { P := Try.prog, D := DD, fd := lk (label_bit.fl k), ld := lk (label_bit.ll k), jd := lk label_bit.jl, mode := lk [], elc := lk ec, mpc := lk mc, rts := Try.f80.resultTypes.toList, dyn := fun t => false, vecs := fun d => false, results := Try.f80.results.toList, gh := [], own := false, io := fun g i => false }
theorem label_bit.ok (k : Nat) : EnvOk (label_bit.E k) := envOk lawful (label_bit.fl k) (label_bit.ll k) label_bit.jl _ _ _ _ _ _ _ _ _ _ (by
  intro p hp
  simp [label_bit.fl] at hp) (by
  intro p hp
  simp [label_bit.jl] at hp)
theorem label_bit.eq (k : Nat) (x : Int) : runF (label_bit.E k) (codeOf Try.f80) (label_bit.mk x) label_bit.re = (label_bit.D k).f x := by kernel_rfl
theorem label_bit.fit (s : St U) (x : Int) (h : label_bit.un s = some x) : Fits s (label_bit.mk x) := by
  unfold label_bit.un at h
  split at h
  · cases h
    refine fits_ren [] ?_ ?_ ren_nil rfl
    · exact List.forall_mem_cons.2 ⟨FV.one (FV.same (by assumption) rfl), fun _ hp => (List.not_mem_nil hp).elim⟩
    · exact fun _ hp => (List.not_mem_nil hp).elim
  · cases h
theorem label_bit.fitR (s : St U) (y : Int) (h : label_bit.re s = some y) : Fits s (label_bit.fin y) := by
  unfold label_bit.re at h
  split at h
  · cases h
    refine fits_ren [] ?_ ?_ ren_nil rfl
    · exact List.forall_mem_cons.2 ⟨FV.one (FV.same (by assumption) rfl), fun _ hp => (List.not_mem_nil hp).elim⟩
    · exact fun _ hp => (List.not_mem_nil hp).elim
  · cases h
theorem label_bit.sound (k : Nat) : Sound Try.prog DD 80 (label_bit.D k) :=
  fun_sound (E := label_bit.E k) (fn := Try.f80) (c := codeOf Try.f80) (label_bit.ok k) mixed rfl Try.func80 (by kernel_rfl) (by kernel_rfl) (allL_of (l := []) (by kernel_rfl) allL_nil) (label_bit.D k) label_bit.mk label_bit.re (by kernel_rfl) (by kernel_rfl) label_bit.fit label_bit.fitR (label_bit.eq k)
/-! ### pyx/label.Right: function 90 -/
noncomputable def label_Right.f (k : Nat) (a0 : Sapi_Label) : Option Bool := (label_bit.f k 8).bind fun t1 => (cond (decide (a0.f_Set < t1)) (cond (decide (a0.f_Level ≥ 0)) (some (decide (a0.f_Level ≤ 3))) (some false)) (some false))
noncomputable def label_Right.un (s : St U) : Option Sapi_Label := match s.get 0 with | .agg [.flat (.int .u64 x1), .flat (.int .i64 x2)] => some (⟨x1, x2⟩ : Sapi_Label) | _ => none
noncomputable def label_Right.mk (x : Sapi_Label) : St U := ⟨[(0, .agg [.flat (.int .u64 x.f_Set), .flat (.int .i64 x.f_Level)])], []⟩
noncomputable def label_Right.fin (y : Bool) : St U := ⟨[(0, .flat (.bool y))], []⟩
noncomputable def label_Right.D (k : Nat) : FDen U := { X := Sapi_Label, Y := Bool, nt := 17, gh := [], un := label_Right.un, f := fun x => label_Right.f k (x), fin := label_Right.fin, cl := true, clo := fun _ _ => rfl }
noncomputable def label_Right.re (s : St U) : Option Bool := match s.get 0 with | .flat (.bool x1) => some x1 | _ => none
noncomputable def label_Right.jl : List (Nat × JDen U) := []
noncomputable def label_Right.fl (k : Nat) : List (Nat × FDen U) := [(80, label_bit.D k)]
noncomputable def label_Right.ll (k : Nat) : List (Nat × LDen U) := []
noncomputable def label_Right.E (k : Nat) : Env U := { P := Try.prog, D := DD, fd := lk (label_Right.fl k), ld := lk (label_Right.ll k), jd := lk label_Right.jl, mode := lk [], elc := lk ec, mpc := lk mc, rts := Try.f90.resultTypes.toList, dyn := fun t => false, vecs := fun d => false, results := Try.f90.results.toList, gh := [], own := false, io := fun g i => false }
theorem label_Right.ok (k : Nat) : EnvOk (label_Right.E k) := envOk lawful (label_Right.fl k) (label_Right.ll k) label_Right.jl _ _ _ _ _ _ _ _ _ _ (by
  intro p hp
  simp only [label_Right.fl, List.mem_cons, List.not_mem_nil, or_false] at hp
  rcases hp with rfl
  · exact ⟨label_bit.sound k, enter_of Try.func80 (by kernel_rfl) (by kernel_rfl)⟩) (by
  intro p hp
  simp [label_Right.jl] at hp)
theorem label_Right.eq (k : Nat) (x : Sapi_Label) : runF (label_Right.E k) (codeOf Try.f90) (label_Right.mk x) label_Right.re = (label_Right.D k).f x := by kernel_rfl
theorem label_Right.fit (s : St U) (x : Sapi_Label) (h : label_Right.un s = some x) : Fits s (label_Right.mk x) := by
  unfold label_Right.un at h
  split at h
  · cases h
    refine fits_ren [] ?_ ?_ ren_nil rfl
    · exact List.forall_mem_cons.2 ⟨FV.one (FV.same (by assumption) rfl), fun _ hp => (List.not_mem_nil hp).elim⟩
    · exact fun _ hp => (List.not_mem_nil hp).elim
  · cases h
theorem label_Right.fitR (s : St U) (y : Bool) (h : label_Right.re s = some y) : Fits s (label_Right.fin y) := by
  unfold label_Right.re at h
  split at h
  · cases h
    refine fits_ren [] ?_ ?_ ren_nil rfl
    · exact List.forall_mem_cons.2 ⟨FV.one (FV.same (by assumption) rfl), fun _ hp => (List.not_mem_nil hp).elim⟩
    · exact fun _ hp => (List.not_mem_nil hp).elim
  · cases h
theorem label_Right.sound (k : Nat) : Sound Try.prog DD 90 (label_Right.D k) :=
  fun_sound (E := label_Right.E k) (fn := Try.f90) (c := codeOf Try.f90) (label_Right.ok k) mixed rfl Try.func90 (by kernel_rfl) (by kernel_rfl) (allL_of (l := []) (by kernel_rfl) allL_nil) (label_Right.D k) label_Right.mk label_Right.re (by kernel_rfl) (by kernel_rfl) label_Right.fit label_Right.fitR (label_Right.eq k)
/-! ### pyx/rule.Right$2: function 89 -/
noncomputable def rule_Right_2.f (k : Nat) (a0 : Sapi_Who) : Option Bool := (label_Right.f k (⟨a0.f_Clear.f_Set, a0.f_Clear.f_Level⟩ : Sapi_Label)).bind fun t1 => (cond (!t1) (some true) (some (decide (a0.f_Roles ≥ 256))))
noncomputable def rule_Right_2.un (s : St U) : Option Sapi_Who := match s.get 0 with | .agg [.flat (.int .u64 x1), .flat (.int .i64 x2), .flat (.int .u64 x3)] => some (⟨(⟨x1, x2⟩ : Sapi_Label), x3⟩ : Sapi_Who) | _ => none
noncomputable def rule_Right_2.mk (x : Sapi_Who) : St U := ⟨[(0, .agg [.flat (.int .u64 x.f_Clear.f_Set), .flat (.int .i64 x.f_Clear.f_Level), .flat (.int .u64 x.f_Roles)])], []⟩
noncomputable def rule_Right_2.fin (y : Bool) : St U := ⟨[(0, .flat (.bool y))], []⟩
noncomputable def rule_Right_2.D (k : Nat) : FDen U := { X := Sapi_Who, Y := Bool, nt := 12, gh := [], un := rule_Right_2.un, f := fun x => rule_Right_2.f k (x), fin := rule_Right_2.fin, cl := true, clo := fun _ _ => rfl }
noncomputable def rule_Right_2.re (s : St U) : Option Bool := match s.get 0 with | .flat (.bool x1) => some x1 | _ => none
noncomputable def rule_Right_2.jl : List (Nat × JDen U) := []
noncomputable def rule_Right_2.fl (k : Nat) : List (Nat × FDen U) := [(90, label_Right.D k)]
noncomputable def rule_Right_2.ll (k : Nat) : List (Nat × LDen U) := []
noncomputable def rule_Right_2.E (k : Nat) : Env U := { P := Try.prog, D := DD, fd := lk (rule_Right_2.fl k), ld := lk (rule_Right_2.ll k), jd := lk rule_Right_2.jl, mode := lk [], elc := lk ec, mpc := lk mc, rts := Try.f89.resultTypes.toList, dyn := fun t => false, vecs := fun d => false, results := Try.f89.results.toList, gh := [], own := false, io := fun g i => false }
theorem rule_Right_2.ok (k : Nat) : EnvOk (rule_Right_2.E k) := envOk lawful (rule_Right_2.fl k) (rule_Right_2.ll k) rule_Right_2.jl _ _ _ _ _ _ _ _ _ _ (by
  intro p hp
  simp only [rule_Right_2.fl, List.mem_cons, List.not_mem_nil, or_false] at hp
  rcases hp with rfl
  · exact ⟨label_Right.sound k, enter_of Try.func90 (by kernel_rfl) (by kernel_rfl)⟩) (by
  intro p hp
  simp [rule_Right_2.jl] at hp)
theorem rule_Right_2.eq (k : Nat) (x : Sapi_Who) : runF (rule_Right_2.E k) (codeOf Try.f89) (rule_Right_2.mk x) rule_Right_2.re = (rule_Right_2.D k).f x := by kernel_rfl
theorem rule_Right_2.fit (s : St U) (x : Sapi_Who) (h : rule_Right_2.un s = some x) : Fits s (rule_Right_2.mk x) := by
  unfold rule_Right_2.un at h
  split at h
  · cases h
    refine fits_ren [] ?_ ?_ ren_nil rfl
    · exact List.forall_mem_cons.2 ⟨FV.one (FV.same (by assumption) rfl), fun _ hp => (List.not_mem_nil hp).elim⟩
    · exact fun _ hp => (List.not_mem_nil hp).elim
  · cases h
theorem rule_Right_2.fitR (s : St U) (y : Bool) (h : rule_Right_2.re s = some y) : Fits s (rule_Right_2.fin y) := by
  unfold rule_Right_2.re at h
  split at h
  · cases h
    refine fits_ren [] ?_ ?_ ren_nil rfl
    · exact List.forall_mem_cons.2 ⟨FV.one (FV.same (by assumption) rfl), fun _ hp => (List.not_mem_nil hp).elim⟩
    · exact fun _ hp => (List.not_mem_nil hp).elim
  · cases h
theorem rule_Right_2.sound (k : Nat) : Sound Try.prog DD 89 (rule_Right_2.D k) :=
  fun_sound (E := rule_Right_2.E k) (fn := Try.f89) (c := codeOf Try.f89) (rule_Right_2.ok k) mixed rfl Try.func89 (by kernel_rfl) (by kernel_rfl) (allL_of (l := []) (by kernel_rfl) allL_nil) (rule_Right_2.D k) rule_Right_2.mk rule_Right_2.re (by kernel_rfl) (by kernel_rfl) rule_Right_2.fit rule_Right_2.fitR (rule_Right_2.eq k)
/-! ### slices.IndexFunc[[]pyx/api.Who,pyx/api.Who]: function 107 -/
noncomputable def slices_IndexFunc_api_Who_c89.l2.once (k : Nat) (x : (List Sapi_Who × Int × Int)) : Option ((List Sapi_Who × Int × Int) ⊕ (Unit ⊕ Int)) := match x with | (x1, x2, x3) => cond (decide (x3 < x2)) (cond (inb x3 (List.length x1)) ((rule_Right_2.f k (⟨(⟨((List.getD x1 (Int.toNat x3) Sapi_Who.zero).f_Clear).f_Set, ((List.getD x1 (Int.toNat x3) Sapi_Who.zero).f_Clear).f_Level⟩ : Sapi_Label), (List.getD x1 (Int.toNat x3) Sapi_Who.zero).f_Roles⟩ : Sapi_Who)).bind fun t4 => (cond (t4) (some (.inr (.inr x3))) (some (.inl (x1, x2, IntKind.wrap .i64 (x3 + 1)))))) none) (some (.inr (.inl ())))
noncomputable def slices_IndexFunc_api_Who_c89.f (k : Nat) (a0 : List Sapi_Who) (a1 : Unit) : Option Int := (iter (slices_IndexFunc_api_Who_c89.l2.once k) k (a0, (List.length a0 : Int), 0)).bind fun | .inl y6 => (some (-1)) | .inr y7 => (some y7)
noncomputable def slices_IndexFunc_api_Who_c89.un (s : St U) : Option (List Sapi_Who × Unit) := match s.get 0, s.get 1 with | .row C.Sapi_Who x1, .fn 89 [] => some (x1, ()) | _, _ => none
noncomputable def slices_IndexFunc_api_Who_c89.mk (x : (List Sapi_Who × Unit)) : St U := ⟨[(0, .row C.Sapi_Who x.1), (1, .fn 89 [])], []⟩
noncomputable def slices_IndexFunc_api_Who_c89.fin (y : Int) : St U := ⟨[(0, .flat (.int .i64 y))], []⟩
noncomputable def slices_IndexFunc_api_Who_c89.D (k : Nat) : FDen U := { X := (List Sapi_Who × Unit), Y := Int, nt := 19, gh := [], un := slices_IndexFunc_api_Who_c89.un, f := fun x => slices_IndexFunc_api_Who_c89.f k (x.1) (x.2), fin := slices_IndexFunc_api_Who_c89.fin, cl := true, clo := fun _ _ => rfl }
noncomputable def slices_IndexFunc_api_Who_c89.re (s : St U) : Option Int := match s.get 0 with | .flat (.int .i64 x1) => some x1 | _ => none
noncomputable def slices_IndexFunc_api_Who_c89.l2.mk (x : (List Sapi_Who × Int × Int)) : St U := match x with | (x1, x2, x3) => ⟨[(0, .row C.Sapi_Who x1), (1, .fn 89 []), (7, .flat (.int .i64 x2)), (8, .flat (.int .i64 x3))], []⟩
noncomputable def slices_IndexFunc_api_Who_c89.l2.un (s : St U) : Option (List Sapi_Who × Int × Int) := (row_Sapi_Who (s.get 0)).bind fun q0 => (match s.get 1, s.get 7, s.get 8 with | .fn 89 [], .flat (.int .i64 x2), .flat (.int .i64 x3) => some (q0, x2, x3) | _, _, _ => none)
noncomputable def slices_IndexFunc_api_Who_c89.l2.fin (y : Unit ⊕ Int) : Out U := match y with | .inl () => .exit 0 ⟨[], []⟩ | .inr z => .ret (⟨[(0, .flat (.int .i64 z))], []⟩)
noncomputable def slices_IndexFunc_api_Who_c89.l2.finK {ρ : Type} (y : Unit ⊕ Int) (K : Out U → Option ρ) : Option ρ := match y with | .inl () => K (.exit 0 ⟨[], []⟩) | .inr z => K (.ret (⟨[(0, .flat (.int .i64 z))], []⟩))
theorem slices_IndexFunc_api_Who_c89.l2.finK_eq {ρ : Type} (y : Unit ⊕ Int) (K : Out U → Option ρ) : slices_IndexFunc_api_Who_c89.l2.finK y K = K (slices_IndexFunc_api_Who_c89.l2.fin y) := by
  unfold slices_IndexFunc_api_Who_c89.l2.finK slices_IndexFunc_api_Who_c89.l2.fin
  first | rfl | (split <;> rfl)
noncomputable def slices_IndexFunc_api_Who_c89.l2.re : Out U → Option (Unit ⊕ Int) | .exit 0 s => (some (.inl ())) | .ret s => (match s.get 0 with | .flat (.int .i64 x1) => some (.inr x1) | _ => none) | _ => none
noncomputable def slices_IndexFunc_api_Who_c89.l2.L (k : Nat) : LDen U := { X := (List Sapi_Who × Int × Int), Y := Unit ⊕ Int, un := slices_IndexFunc_api_Who_c89.l2.un, f := iter (slices_IndexFunc_api_Who_c89.l2.once k) k, fin := slices_IndexFunc_api_Who_c89.l2.fin, finK := slices_IndexFunc_api_Who_c89.l2.finK, finK_eq := slices_IndexFunc_api_Who_c89.l2.finK_eq }
noncomputable def slices_IndexFunc_api_Who_c89.jl : List (Nat × JDen U) := []
noncomputable def slices_IndexFunc_api_Who_c89.fl (k : Nat) : List (Nat × FDen U) := [(89, rule_Right_2.D k)]
noncomputable def slices_IndexFunc_api_Who_c89.ll (k : Nat) : List (Nat × LDen U) := [(2, slices_IndexFunc_api_Who_c89.l2.L k)]
noncomputable def slices_IndexFunc_api_Who_c89.E (k : Nat) : Env U := { P := Try.prog, D := DD, fd := lk (slices_IndexFunc_api_Who_c89.fl k), ld := lk (slices_IndexFunc_api_Who_c89.ll k), jd := lk slices_IndexFunc_api_Who_c89.jl, mode := lk [], elc := lk ec, mpc := lk mc, rts := Try.f107.resultTypes.toList, dyn := fun t => false, vecs := fun d => false, results := Try.f107.results.toList, gh := [], own := false, io := fun g i => false }
theorem slices_IndexFunc_api_Who_c89.ok (k : Nat) : EnvOk (slices_IndexFunc_api_Who_c89.E k) := envOk lawful (slices_IndexFunc_api_Who_c89.fl k) (slices_IndexFunc_api_Who_c89.ll k) slices_IndexFunc_api_Who_c89.jl _ _ _ _ _ _ _ _ _ _ (by
  intro p hp
  simp only [slices_IndexFunc_api_Who_c89.fl, List.mem_cons, List.not_mem_nil, or_false] at hp
  rcases hp with rfl
  · exact ⟨rule_Right_2.sound k, enter_of Try.func89 (by kernel_rfl) (by kernel_rfl)⟩) (by
  intro p hp
  simp [slices_IndexFunc_api_Who_c89.jl] at hp)
theorem slices_IndexFunc_api_Who_c89.l2.eq (k : Nat) (x : (List Sapi_Who × Int × Int)) : evC (slices_IndexFunc_api_Who_c89.E k) (loopAt Try.f107 2) (slices_IndexFunc_api_Who_c89.l2.mk x) (headK slices_IndexFunc_api_Who_c89.l2.un slices_IndexFunc_api_Who_c89.l2.re) = slices_IndexFunc_api_Who_c89.l2.once k x := by kernel_rfl
theorem slices_IndexFunc_api_Who_c89.l2.fit (s : St U) (x : (List Sapi_Who × Int × Int)) (h : slices_IndexFunc_api_Who_c89.l2.un s = some x) : Fits s (slices_IndexFunc_api_Who_c89.l2.mk x) := by
  unfold slices_IndexFunc_api_Who_c89.l2.un at h
  obtain ⟨q0, eq0, h1⟩ := Option.bind_eq_some_iff.1 h
  split at h1
  · cases h1
    refine fits_ren [] ?_ ?_ ren_nil rfl
    · exact List.forall_mem_cons.2 ⟨FV.one (row_Sapi_Who_fit eq0), List.forall_mem_cons.2 ⟨FV.one (FV.same (by assumption) rfl), List.forall_mem_cons.2 ⟨FV.one (FV.same (by assumption) rfl), List.forall_mem_cons.2 ⟨FV.one (FV.same (by assumption) rfl), fun _ hp => (List.not_mem_nil hp).elim⟩⟩⟩⟩
    · exact fun _ hp => (List.not_mem_nil hp).elim
  · cases h1
theorem slices_IndexFunc_api_Who_c89.l2.fitO (o : Out U) (y : Unit ⊕ Int) (h : slices_IndexFunc_api_Who_c89.l2.re o = some y) : FitsO o (slices_IndexFunc_api_Who_c89.l2.fin y) := by
  unfold slices_IndexFunc_api_Who_c89.l2.re at h
  split at h
  · cases h
    refine fitsO_exit (fits_ren [] ?_ ?_ ren_nil rfl)
    · exact fun _ hp => (List.not_mem_nil hp).elim
    · exact fun _ hp => (List.not_mem_nil hp).elim
  · split at h
    · cases h
      refine fitsO_ret (fits_ren [] ?_ ?_ ren_nil rfl)
      · exact List.forall_mem_cons.2 ⟨FV.one (FV.same (by assumption) rfl), fun _ hp => (List.not_mem_nil hp).elim⟩
      · exact fun _ hp => (List.not_mem_nil hp).elim
    · cases h
  · cases h
theorem slices_IndexFunc_api_Who_c89.l2.sound (k : Nat) : LSound (slices_IndexFunc_api_Who_c89.E k) Try.f107.ntmps Try.f107 (loopAt Try.f107 2) (slices_IndexFunc_api_Who_c89.l2.L k) :=
  loop_sound (slices_IndexFunc_api_Who_c89.ok k) mixed rfl (by kernel_rfl) (allL_of (l := []) (by kernel_rfl) allL_nil) slices_IndexFunc_api_Who_c89.l2.un slices_IndexFunc_api_Who_c89.l2.mk slices_IndexFunc_api_Who_c89.l2.fin slices_IndexFunc_api_Who_c89.l2.re (slices_IndexFunc_api_Who_c89.l2.once k) k slices_IndexFunc_api_Who_c89.l2.fit slices_IndexFunc_api_Who_c89.l2.fitO (slices_IndexFunc_api_Who_c89.l2.eq k) slices_IndexFunc_api_Who_c89.l2.finK slices_IndexFunc_api_Who_c89.l2.finK_eq
theorem slices_IndexFunc_api_Who_c89.eq (k : Nat) (x : (List Sapi_Who × Unit)) : runF (slices_IndexFunc_api_Who_c89.E k) (codeOf Try.f107) (slices_IndexFunc_api_Who_c89.mk x) slices_IndexFunc_api_Who_c89.re = (slices_IndexFunc_api_Who_c89.D k).f x := by kernel_rfl
theorem slices_IndexFunc_api_Who_c89.fit (s : St U) (x : (List Sapi_Who × Unit)) (h : slices_IndexFunc_api_Who_c89.un s = some x) : Fits s (slices_IndexFunc_api_Who_c89.mk x) := by
  unfold slices_IndexFunc_api_Who_c89.un at h
  split at h
  · cases h
    refine fits_ren [] ?_ ?_ ren_nil rfl
    · exact List.forall_mem_cons.2 ⟨FV.one (FV.same (by assumption) rfl), List.forall_mem_cons.2 ⟨FV.one (FV.same (by assumption) rfl), fun _ hp => (List.not_mem_nil hp).elim⟩⟩
    · exact fun _ hp => (List.not_mem_nil hp).elim
  · cases h
theorem slices_IndexFunc_api_Who_c89.fitR (s : St U) (y : Int) (h : slices_IndexFunc_api_Who_c89.re s = some y) : Fits s (slices_IndexFunc_api_Who_c89.fin y) := by
  unfold slices_IndexFunc_api_Who_c89.re at h
  split at h
  · cases h
    refine fits_ren [] ?_ ?_ ren_nil rfl
    · exact List.forall_mem_cons.2 ⟨FV.one (FV.same (by assumption) rfl), fun _ hp => (List.not_mem_nil hp).elim⟩
    · exact fun _ hp => (List.not_mem_nil hp).elim
  · cases h
theorem slices_IndexFunc_api_Who_c89.sound (k : Nat) : Sound Try.prog DD 107 (slices_IndexFunc_api_Who_c89.D k) :=
  fun_sound (E := slices_IndexFunc_api_Who_c89.E k) (fn := Try.f107) (c := codeOf Try.f107) (slices_IndexFunc_api_Who_c89.ok k) mixed rfl Try.func107 (by kernel_rfl) (by kernel_rfl) (allL_of (l := [loopAt Try.f107 2]) (by kernel_rfl) (allL_cons (key := 2) (by kernel_rfl) rfl (slices_IndexFunc_api_Who_c89.l2.sound k) allL_nil)) (slices_IndexFunc_api_Who_c89.D k) slices_IndexFunc_api_Who_c89.mk slices_IndexFunc_api_Who_c89.re (by kernel_rfl) (by kernel_rfl) slices_IndexFunc_api_Who_c89.fit slices_IndexFunc_api_Who_c89.fitR (slices_IndexFunc_api_Who_c89.eq k)
/-! ### slices.ContainsFunc[[]pyx/api.Who,pyx/api.Who]: function 88 -/
noncomputable def slices_ContainsFunc_api_Who_c89.f (k : Nat) (a0 : List Sapi_Who) (a1 : Unit) : Option Bool := (slices_IndexFunc_api_Who_c89.f k a0 ()).bind fun t1 => (some (decide (t1 ≥ 0)))
noncomputable def slices_ContainsFunc_api_Who_c89.un (s : St U) : Option (List Sapi_Who × Unit) := match s.get 0, s.get 1 with | .row C.Sapi_Who x1, .fn 89 [] => some (x1, ()) | _, _ => none
noncomputable def slices_ContainsFunc_api_Who_c89.mk (x : (List Sapi_Who × Unit)) : St U := ⟨[(0, .row C.Sapi_Who x.1), (1, .fn 89 [])], []⟩
noncomputable def slices_ContainsFunc_api_Who_c89.fin (y : Bool) : St U := ⟨[(0, .flat (.bool y))], []⟩
noncomputable def slices_ContainsFunc_api_Who_c89.D (k : Nat) : FDen U := { X := (List Sapi_Who × Unit), Y := Bool, nt := 9, gh := [], un := slices_ContainsFunc_api_Who_c89.un, f := fun x => slices_ContainsFunc_api_Who_c89.f k (x.1) (x.2), fin := slices_ContainsFunc_api_Who_c89.fin, cl := true, clo := fun _ _ => rfl }
noncomputable def slices_ContainsFunc_api_Who_c89.re (s : St U) : Option Bool := match s.get 0 with | .flat (.bool x1) => some x1 | _ => none
noncomputable def slices_ContainsFunc_api_Who_c89.jl : List (Nat × JDen U) := []
noncomputable def slices_ContainsFunc_api_Who_c89.fl (k : Nat) : List (Nat × FDen U) := [(107, slices_IndexFunc_api_Who_c89.D k)]
noncomputable def slices_ContainsFunc_api_Who_c89.ll (k : Nat) : List (Nat × LDen U) := []
noncomputable def slices_ContainsFunc_api_Who_c89.E (k : Nat) : Env U := { P := Try.prog, D := DD, fd := lk (slices_ContainsFunc_api_Who_c89.fl k), ld := lk (slices_ContainsFunc_api_Who_c89.ll k), jd := lk slices_ContainsFunc_api_Who_c89.jl, mode := lk [], elc := lk ec, mpc := lk mc, rts := Try.f88.resultTypes.toList, dyn := fun t => false, vecs := fun d => false, results := Try.f88.results.toList, gh := [], own := false, io := fun g i => false }
theorem slices_ContainsFunc_api_Who_c89.ok (k : Nat) : EnvOk (slices_ContainsFunc_api_Who_c89.E k) := envOk lawful (slices_ContainsFunc_api_Who_c89.fl k) (slices_ContainsFunc_api_Who_c89.ll k) slices_ContainsFunc_api_Who_c89.jl _ _ _ _ _ _ _ _ _ _ (by
  intro p hp
  simp only [slices_ContainsFunc_api_Who_c89.fl, List.mem_cons, List.not_mem_nil, or_false] at hp
  rcases hp with rfl
  · exact ⟨slices_IndexFunc_api_Who_c89.sound k, enter_of Try.func107 (by kernel_rfl) (by kernel_rfl)⟩) (by
  intro p hp
  simp [slices_ContainsFunc_api_Who_c89.jl] at hp)
theorem slices_ContainsFunc_api_Who_c89.eq (k : Nat) (x : (List Sapi_Who × Unit)) : runF (slices_ContainsFunc_api_Who_c89.E k) (codeOf Try.f88) (slices_ContainsFunc_api_Who_c89.mk x) slices_ContainsFunc_api_Who_c89.re = (slices_ContainsFunc_api_Who_c89.D k).f x := by kernel_rfl
theorem slices_ContainsFunc_api_Who_c89.fit (s : St U) (x : (List Sapi_Who × Unit)) (h : slices_ContainsFunc_api_Who_c89.un s = some x) : Fits s (slices_ContainsFunc_api_Who_c89.mk x) := by
  unfold slices_ContainsFunc_api_Who_c89.un at h
  split at h
  · cases h
    refine fits_ren [] ?_ ?_ ren_nil rfl
    · exact List.forall_mem_cons.2 ⟨FV.one (FV.same (by assumption) rfl), List.forall_mem_cons.2 ⟨FV.one (FV.same (by assumption) rfl), fun _ hp => (List.not_mem_nil hp).elim⟩⟩
    · exact fun _ hp => (List.not_mem_nil hp).elim
  · cases h
theorem slices_ContainsFunc_api_Who_c89.fitR (s : St U) (y : Bool) (h : slices_ContainsFunc_api_Who_c89.re s = some y) : Fits s (slices_ContainsFunc_api_Who_c89.fin y) := by
  unfold slices_ContainsFunc_api_Who_c89.re at h
  split at h
  · cases h
    refine fits_ren [] ?_ ?_ ren_nil rfl
    · exact List.forall_mem_cons.2 ⟨FV.one (FV.same (by assumption) rfl), fun _ hp => (List.not_mem_nil hp).elim⟩
    · exact fun _ hp => (List.not_mem_nil hp).elim
  · cases h
theorem slices_ContainsFunc_api_Who_c89.sound (k : Nat) : Sound Try.prog DD 88 (slices_ContainsFunc_api_Who_c89.D k) :=
  fun_sound (E := slices_ContainsFunc_api_Who_c89.E k) (fn := Try.f88) (c := codeOf Try.f88) (slices_ContainsFunc_api_Who_c89.ok k) mixed rfl Try.func88 (by kernel_rfl) (by kernel_rfl) (allL_of (l := []) (by kernel_rfl) allL_nil) (slices_ContainsFunc_api_Who_c89.D k) slices_ContainsFunc_api_Who_c89.mk slices_ContainsFunc_api_Who_c89.re (by kernel_rfl) (by kernel_rfl) slices_ContainsFunc_api_Who_c89.fit slices_ContainsFunc_api_Who_c89.fitR (slices_ContainsFunc_api_Who_c89.eq k)
/-! ### pyx/limb.Of: function 26 -/
noncomputable def limb_Of.f (k : Nat) (a0 : Int) : Option (Int × Int) := some (a0, 0)
noncomputable def limb_Of.un (s : St U) : Option Int := match s.get 0 with | .flat (.int .u64 x1) => some x1 | _ => none
noncomputable def limb_Of.mk (x : Int) : St U := ⟨[(0, .flat (.int .u64 x))], []⟩
noncomputable def limb_Of.fin (y : (Int × Int)) : St U := ⟨[(0, .agg [.flat (.int .u64 y.1), .flat (.int .u64 y.2)])], []⟩
noncomputable def limb_Of.D (k : Nat) : FDen U := { X := Int, Y := (Int × Int), nt := 5, gh := [], un := limb_Of.un, f := fun x => limb_Of.f k (x), fin := limb_Of.fin, cl := true, clo := fun _ _ => rfl }
noncomputable def limb_Of.re (s : St U) : Option (Int × Int) := match s.get 0 with | .agg [.flat (.int .u64 x1), .flat (.int .u64 x2)] => some (x1, x2) | _ => none
noncomputable def limb_Of.jl : List (Nat × JDen U) := []
noncomputable def limb_Of.fl (k : Nat) : List (Nat × FDen U) := []
noncomputable def limb_Of.ll (k : Nat) : List (Nat × LDen U) := []
noncomputable def limb_Of.E (k : Nat) : Env U := { P := Try.prog, D := DD, fd := lk (limb_Of.fl k), ld := lk (limb_Of.ll k), jd := lk limb_Of.jl, mode := lk [], elc := lk ec, mpc := lk mc, rts := Try.f26.resultTypes.toList, dyn := fun t => false, vecs := fun d => false, results := Try.f26.results.toList, gh := [], own := false, io := fun g i => false }
theorem limb_Of.ok (k : Nat) : EnvOk (limb_Of.E k) := envOk lawful (limb_Of.fl k) (limb_Of.ll k) limb_Of.jl _ _ _ _ _ _ _ _ _ _ (by
  intro p hp
  simp [limb_Of.fl] at hp) (by
  intro p hp
  simp [limb_Of.jl] at hp)
theorem limb_Of.eq (k : Nat) (x : Int) : runF (limb_Of.E k) (codeOf Try.f26) (limb_Of.mk x) limb_Of.re = (limb_Of.D k).f x := by kernel_rfl
theorem limb_Of.fit (s : St U) (x : Int) (h : limb_Of.un s = some x) : Fits s (limb_Of.mk x) := by
  unfold limb_Of.un at h
  split at h
  · cases h
    refine fits_ren [] ?_ ?_ ren_nil rfl
    · exact List.forall_mem_cons.2 ⟨FV.one (FV.same (by assumption) rfl), fun _ hp => (List.not_mem_nil hp).elim⟩
    · exact fun _ hp => (List.not_mem_nil hp).elim
  · cases h
theorem limb_Of.fitR (s : St U) (y : (Int × Int)) (h : limb_Of.re s = some y) : Fits s (limb_Of.fin y) := by
  unfold limb_Of.re at h
  split at h
  · cases h
    refine fits_ren [] ?_ ?_ ren_nil rfl
    · exact List.forall_mem_cons.2 ⟨FV.one (FV.same (by assumption) rfl), fun _ hp => (List.not_mem_nil hp).elim⟩
    · exact fun _ hp => (List.not_mem_nil hp).elim
  · cases h
theorem limb_Of.sound (k : Nat) : Sound Try.prog DD 26 (limb_Of.D k) :=
  fun_sound (E := limb_Of.E k) (fn := Try.f26) (c := codeOf Try.f26) (limb_Of.ok k) mixed rfl Try.func26 (by kernel_rfl) (by kernel_rfl) (allL_of (l := []) (by kernel_rfl) allL_nil) (limb_Of.D k) limb_Of.mk limb_Of.re (by kernel_rfl) (by kernel_rfl) limb_Of.fit limb_Of.fitR (limb_Of.eq k)
end
end Go.Proofs.Ythknecaigoilmaa
