import Derived.Test.YthknecaigoilmaaF2
/-! Functions, told; their equations with the evaluator; that they are sound. Written by gen.py. -/
namespace Go.Proofs.Ythknecaigoilmaa
open Go Go.Ev
noncomputable section
set_option linter.unusedVariables false
set_option linter.unusedSimpArgs false
set_option maxRecDepth 100000
/-! ### pyx/rule.Right: function 53 -/
noncomputable def rule_Right.l4.once (k : Nat) (x : (List Sapi_Ent × Int × Int × List Sapi_Ent × List Int × List Sapi_Who × List Int × List Sapi_Rule)) : Option ((List Sapi_Ent × Int × Int × List Sapi_Ent × List Int × List Sapi_Who × List Int × List Sapi_Rule) ⊕ ((List Sapi_Ent × List Int × List Sapi_Who × List Int × List Sapi_Rule) ⊕ Bool)) := match x with | (x16, x17, x18, x11, x12, x13, x14, x15) => cond (decide (x18 < x17)) (cond (inb x18 (List.length x16)) ((rule_rightEnt.f k (⟨(List.getD x16 (Int.toNat x18) Sapi_Ent.zero).f_Level, (List.getD x16 (Int.toNat x18) Sapi_Ent.zero).f_Scale, (List.getD x16 (Int.toNat x18) Sapi_Ent.zero).f_Parent, (List.getD x16 (Int.toNat x18) Sapi_Ent.zero).f_Share⟩ : Sapi_Ent) x18).bind fun t19 => (cond (!t19) (some (.inr (.inr false))) (some (.inl (x16, x17, IntKind.wrap .i64 (x18 + 1), x11, x12, x13, x14, x15))))) none) (some (.inr (.inl (x11, x12, x13, x14, x15))))
noncomputable def rule_Right.f (k : Nat) (a0 : Sapi_Policy) : Option Bool := (((rule_within.f k (List.length a0.f_Ents : Int) 1 8).bind fun t1 => (cond (!t1) (some (true, a0.f_Ents, a0.f_Groups, a0.f_Who, a0.f_Up, a0.f_Rules)) (cond (decide ((List.length a0.f_Groups : Int) > 4)) (some (true, a0.f_Ents, a0.f_Groups, a0.f_Who, a0.f_Up, a0.f_Rules)) ((rule_within.f k (List.length a0.f_Who : Int) 1 8).bind fun t8 => (cond (!t8) (some (true, a0.f_Ents, a0.f_Groups, a0.f_Who, a0.f_Up, a0.f_Rules)) ((role_Right.f k a0.f_Up).bind fun t9 => (cond (!t9) (some (true, a0.f_Ents, a0.f_Groups, a0.f_Who, a0.f_Up, a0.f_Rules)) (some (decide ((List.length a0.f_Rules : Int) > 32), a0.f_Ents, a0.f_Groups, a0.f_Who, a0.f_Up, a0.f_Rules))))))))) : Option (Bool × List Sapi_Ent × List Int × List Sapi_Who × List Int × List Sapi_Rule)).bind fun y10 => (cond (y10.1) (some false) ((iter (rule_Right.l4.once k) k (y10.2.1, (List.length y10.2.1 : Int), 0, y10.2.1, y10.2.2.1, y10.2.2.2.1, y10.2.2.2.2.1, y10.2.2.2.2.2)).bind fun | .inl y26 => ((slices_ContainsFunc__uint64_uint64_c87.f k y26.2.1 (⟨y26.1, y26.2.1, y26.2.2.1, y26.2.2.2.1, y26.2.2.2.2⟩ : Sapi_Policy)).bind fun t27 => ((slices_ContainsFunc_api_Who_c89.f k y26.2.2.1 ()).bind fun t28 => ((slices_ContainsFunc_api_Rule_c91.f k y26.2.2.2.2 (⟨y26.1, y26.2.1, y26.2.2.1, y26.2.2.2.1, y26.2.2.2.2⟩ : Sapi_Policy)).bind fun t29 => (cond (!t27) (cond (!t28) (some (!t29)) (some false)) (some false))))) | .inr y30 => (some y30)))
noncomputable def rule_Right.un (s : St U) : Option Sapi_Policy := match s.get 0 with | .agg [.row C.Sapi_Ent x1, .row C.u64 x2, .row C.Sapi_Who x3, .row C.i64 x4, .row C.Sapi_Rule x5] => some (⟨x1, x2, x3, x4, x5⟩ : Sapi_Policy) | _ => none
noncomputable def rule_Right.mk (x : Sapi_Policy) : St U := ⟨[(0, .agg [.row C.Sapi_Ent x.f_Ents, .row C.u64 x.f_Groups, .row C.Sapi_Who x.f_Who, .row C.i64 x.f_Up, .row C.Sapi_Rule x.f_Rules])], []⟩
noncomputable def rule_Right.fin (y : Bool) : St U := ⟨[(0, .flat (.bool y))], []⟩
noncomputable def rule_Right.D (k : Nat) : FDen U := { X := Sapi_Policy, Y := Bool, nt := 72, gh := [], un := rule_Right.un, f := fun x => rule_Right.f k (x), fin := rule_Right.fin, cl := true, clo := fun _ _ => rfl }
noncomputable def rule_Right.re (s : St U) : Option Bool := match s.get 0 with | .flat (.bool x1) => some x1 | _ => none
noncomputable def rule_Right.l4.mk (x : (List Sapi_Ent × Int × Int × List Sapi_Ent × List Int × List Sapi_Who × List Int × List Sapi_Rule)) : St U := match x with | (x16, x17, x18, x11, x12, x13, x14, x15) => ⟨[(1, .ptr 1 0), (39, .row C.Sapi_Ent x16), (40, .flat (.int .i64 x17)), (41, .flat (.int .i64 x18))], [(1, .lit [.row C.Sapi_Ent x11, .row C.u64 x12, .row C.Sapi_Who x13, .row C.i64 x14, .row C.Sapi_Rule x15])]⟩
noncomputable def rule_Right.l4.un (s : St U) : Option (List Sapi_Ent × Int × Int × List Sapi_Ent × List Int × List Sapi_Who × List Int × List Sapi_Rule) := (row_Sapi_Ent (s.get 39)).bind fun q0 => (match s.get 1, s.get 40, s.get 41, lk s.o 1 with | .ptr 1 0, .flat (.int .i64 x17), .flat (.int .i64 x18), some (.lit [u1_0, u1_1, u1_2, u1_3, u1_4]) => (row_Sapi_Ent u1_0).bind fun w1_0 => ((row_u64 u1_1).bind fun w1_1 => ((row_Sapi_Who u1_2).bind fun w1_2 => ((row_i64 u1_3).bind fun w1_3 => ((row_Sapi_Rule u1_4).bind fun w1_4 => (some (q0, x17, x18, w1_0, w1_1, w1_2, w1_3, w1_4)))))) | _, _, _, _ => none)
noncomputable def rule_Right.l4.fin (y : (List Sapi_Ent × List Int × List Sapi_Who × List Int × List Sapi_Rule) ⊕ Bool) : Out U := match y with | .inl (x20, x21, x22, x23, x24) => .exit 0 ⟨[(1, .ptr 1 0)], [(1, .lit [.row C.Sapi_Ent x20, .row C.u64 x21, .row C.Sapi_Who x22, .row C.i64 x23, .row C.Sapi_Rule x24])]⟩ | .inr z => .ret (⟨[(0, .flat (.bool z))], []⟩)
noncomputable def rule_Right.l4.finK {ρ : Type} (y : (List Sapi_Ent × List Int × List Sapi_Who × List Int × List Sapi_Rule) ⊕ Bool) (K : Out U → Option ρ) : Option ρ := match y with | .inl (x20, x21, x22, x23, x24) => K (.exit 0 ⟨[(1, .ptr 1 0)], [(1, .lit [.row C.Sapi_Ent x20, .row C.u64 x21, .row C.Sapi_Who x22, .row C.i64 x23, .row C.Sapi_Rule x24])]⟩) | .inr z => K (.ret (⟨[(0, .flat (.bool z))], []⟩))
theorem rule_Right.l4.finK_eq {ρ : Type} (y : (List Sapi_Ent × List Int × List Sapi_Who × List Int × List Sapi_Rule) ⊕ Bool) (K : Out U → Option ρ) : rule_Right.l4.finK y K = K (rule_Right.l4.fin y) := by
  unfold rule_Right.l4.finK rule_Right.l4.fin
  first | rfl | (split <;> rfl)
noncomputable def rule_Right.l4.re : Out U → Option ((List Sapi_Ent × List Int × List Sapi_Who × List Int × List Sapi_Rule) ⊕ Bool) | .exit 0 s => (match s.get 1, lk s.o 1 with | .ptr 1 0, some (.lit [u1_0, u1_1, u1_2, u1_3, u1_4]) => (row_Sapi_Ent u1_0).bind fun w1_0 => ((row_u64 u1_1).bind fun w1_1 => ((row_Sapi_Who u1_2).bind fun w1_2 => ((row_i64 u1_3).bind fun w1_3 => ((row_Sapi_Rule u1_4).bind fun w1_4 => (some (.inl (w1_0, w1_1, w1_2, w1_3, w1_4))))))) | _, _ => none) | .ret s => (match s.get 0 with | .flat (.bool x1) => some (.inr x1) | _ => none) | _ => none
noncomputable def rule_Right.l4.L (k : Nat) : LDen U := { X := (List Sapi_Ent × Int × Int × List Sapi_Ent × List Int × List Sapi_Who × List Int × List Sapi_Rule), Y := (List Sapi_Ent × List Int × List Sapi_Who × List Int × List Sapi_Rule) ⊕ Bool, un := rule_Right.l4.un, f := iter (rule_Right.l4.once k) k, fin := rule_Right.l4.fin, finK := rule_Right.l4.finK, finK_eq := rule_Right.l4.finK_eq }
noncomputable def rule_Right.j1000.fin (y : (Bool × List Sapi_Ent × List Int × List Sapi_Who × List Int × List Sapi_Rule)) : Out U := match y with | (x7, x2, x3, x4, x5, x6) => .norm ⟨[(1, .ptr 1 0), (37, .flat (.bool x7))], [(1, .lit [.row C.Sapi_Ent x2, .row C.u64 x3, .row C.Sapi_Who x4, .row C.i64 x5, .row C.Sapi_Rule x6])]⟩
noncomputable def rule_Right.j1000.finK {ρ : Type} (y : (Bool × List Sapi_Ent × List Int × List Sapi_Who × List Int × List Sapi_Rule)) (K : Out U → Option ρ) : Option ρ := match y with | (x7, x2, x3, x4, x5, x6) => K (.norm ⟨[(1, .ptr 1 0), (37, .flat (.bool x7))], [(1, .lit [.row C.Sapi_Ent x2, .row C.u64 x3, .row C.Sapi_Who x4, .row C.i64 x5, .row C.Sapi_Rule x6])]⟩)
theorem rule_Right.j1000.finK_eq {ρ : Type} (y : (Bool × List Sapi_Ent × List Int × List Sapi_Who × List Int × List Sapi_Rule)) (K : Out U → Option ρ) : rule_Right.j1000.finK y K = K (rule_Right.j1000.fin y) := by
  unfold rule_Right.j1000.finK rule_Right.j1000.fin
  first | rfl | (split <;> rfl)
noncomputable def rule_Right.j1000.re : Out U → Option ((Bool × List Sapi_Ent × List Int × List Sapi_Who × List Int × List Sapi_Rule)) | .norm s => (match s.get 1, s.get 37, lk s.o 1 with | .ptr 1 0, .flat (.bool x7), some (.lit [u1_0, u1_1, u1_2, u1_3, u1_4]) => (row_Sapi_Ent u1_0).bind fun w1_0 => ((row_u64 u1_1).bind fun w1_1 => ((row_Sapi_Who u1_2).bind fun w1_2 => ((row_i64 u1_3).bind fun w1_3 => ((row_Sapi_Rule u1_4).bind fun w1_4 => (some (x7, w1_0, w1_1, w1_2, w1_3, w1_4)))))) | _, _, _ => none) | _ => none
noncomputable def rule_Right.j1000.J : JDen U := { Y := (Bool × List Sapi_Ent × List Int × List Sapi_Who × List Int × List Sapi_Rule), re := rule_Right.j1000.re, fin := rule_Right.j1000.fin, finK := rule_Right.j1000.finK, finK_eq := rule_Right.j1000.finK_eq }
theorem rule_Right.j1000.fit (o : Out U) (y : (Bool × List Sapi_Ent × List Int × List Sapi_Who × List Int × List Sapi_Rule)) (h : rule_Right.j1000.re o = some y) : FitsO o (rule_Right.j1000.fin y) := by
  unfold rule_Right.j1000.re at h
  split at h
  · split at h
    · obtain ⟨w1_0, ew1_0, h1⟩ := Option.bind_eq_some_iff.1 h
      obtain ⟨w1_1, ew1_1, h2⟩ := Option.bind_eq_some_iff.1 h1
      obtain ⟨w1_2, ew1_2, h3⟩ := Option.bind_eq_some_iff.1 h2
      obtain ⟨w1_3, ew1_3, h4⟩ := Option.bind_eq_some_iff.1 h3
      obtain ⟨w1_4, ew1_4, h5⟩ := Option.bind_eq_some_iff.1 h4
      cases h5
      refine fitsO_norm (fits_ren [] ?_ ?_ ren_nil rfl)
      · exact List.forall_mem_cons.2 ⟨FV.one (FV.ptr (by assumption)), List.forall_mem_cons.2 ⟨FV.one (FV.same (by assumption) rfl), fun _ hp => (List.not_mem_nil hp).elim⟩⟩
      · exact List.forall_mem_cons.2 ⟨(FO.cells (show lk (St.o _) 1 = some _ from by assumption) (FCs.cons (row_Sapi_Ent_fit ew1_0) (FCs.cons (row_u64_fit ew1_1) (FCs.cons (row_Sapi_Who_fit ew1_2) (FCs.cons (row_i64_fit ew1_3) (FCs.cons (row_Sapi_Rule_fit ew1_4) (FCs.nil))))))), fun _ hp => (List.not_mem_nil hp).elim⟩
    · cases h
  · cases h
noncomputable def rule_Right.jl : List (Nat × JDen U) := [(1000, rule_Right.j1000.J)]
noncomputable def rule_Right.fl (k : Nat) : List (Nat × FDen U) := [(76, rule_within.D k), (84, role_Right.D k), (85, rule_rightEnt.D k), (86, slices_ContainsFunc__uint64_uint64_c87.D k), (88, slices_ContainsFunc_api_Who_c89.D k), (78, slices_ContainsFunc_api_Rule_c91.D k)]
noncomputable def rule_Right.ll (k : Nat) : List (Nat × LDen U) := [(4, rule_Right.l4.L k)]
noncomputable def rule_Right.E (k : Nat) : Env U := { P := Try.prog, D := DD, fd := lk (rule_Right.fl k), ld := lk (rule_Right.ll k), jd := lk rule_Right.jl, mode := lk [], elc := lk ec, mpc := lk mc, rts := Try.f53.resultTypes.toList, dyn := fun t => false, vecs := fun d => false, results := Try.f53.results.toList, gh := [], own := false, io := fun g i => false }
theorem rule_Right.ok (k : Nat) : EnvOk (rule_Right.E k) := envOk lawful (rule_Right.fl k) (rule_Right.ll k) rule_Right.jl _ _ _ _ _ _ _ _ _ _ (by
  intro p hp
  simp only [rule_Right.fl, List.mem_cons, List.not_mem_nil, or_false] at hp
  rcases hp with rfl | rfl | rfl | rfl | rfl | rfl
  · exact ⟨rule_within.sound k, enter_of Try.func76 (by kernel_rfl) (by kernel_rfl)⟩
  · exact ⟨role_Right.sound k, enter_of Try.func84 (by kernel_rfl) (by kernel_rfl)⟩
  · exact ⟨rule_rightEnt.sound k, enter_of Try.func85 (by kernel_rfl) (by kernel_rfl)⟩
  · exact ⟨slices_ContainsFunc__uint64_uint64_c87.sound k, enter_of Try.func86 (by kernel_rfl) (by kernel_rfl)⟩
  · exact ⟨slices_ContainsFunc_api_Who_c89.sound k, enter_of Try.func88 (by kernel_rfl) (by kernel_rfl)⟩
  · exact ⟨slices_ContainsFunc_api_Rule_c91.sound k, enter_of Try.func78 (by kernel_rfl) (by kernel_rfl)⟩) (by
  intro p hp
  simp only [rule_Right.jl, List.mem_cons, List.not_mem_nil, or_false] at hp
  rcases hp with rfl
  · exact rule_Right.j1000.fit)
theorem rule_Right.l4.eq (k : Nat) (x : (List Sapi_Ent × Int × Int × List Sapi_Ent × List Int × List Sapi_Who × List Int × List Sapi_Rule)) : evC (rule_Right.E k) (loopAt Try.f53 4) (rule_Right.l4.mk x) (headK rule_Right.l4.un rule_Right.l4.re) = rule_Right.l4.once k x := by kernel_rfl
theorem rule_Right.l4.fit (s : St U) (x : (List Sapi_Ent × Int × Int × List Sapi_Ent × List Int × List Sapi_Who × List Int × List Sapi_Rule)) (h : rule_Right.l4.un s = some x) : Fits s (rule_Right.l4.mk x) := by
  unfold rule_Right.l4.un at h
  obtain ⟨q0, eq0, h1⟩ := Option.bind_eq_some_iff.1 h
  split at h1
  · obtain ⟨w1_0, ew1_0, h2⟩ := Option.bind_eq_some_iff.1 h1
    obtain ⟨w1_1, ew1_1, h3⟩ := Option.bind_eq_some_iff.1 h2
    obtain ⟨w1_2, ew1_2, h4⟩ := Option.bind_eq_some_iff.1 h3
    obtain ⟨w1_3, ew1_3, h5⟩ := Option.bind_eq_some_iff.1 h4
    obtain ⟨w1_4, ew1_4, h6⟩ := Option.bind_eq_some_iff.1 h5
    cases h6
    refine fits_ren [] ?_ ?_ ren_nil rfl
    · exact List.forall_mem_cons.2 ⟨FV.one (FV.ptr (by assumption)), List.forall_mem_cons.2 ⟨FV.one (row_Sapi_Ent_fit eq0), List.forall_mem_cons.2 ⟨FV.one (FV.same (by assumption) rfl), List.forall_mem_cons.2 ⟨FV.one (FV.same (by assumption) rfl), fun _ hp => (List.not_mem_nil hp).elim⟩⟩⟩⟩
    · exact List.forall_mem_cons.2 ⟨(FO.cells (show lk (St.o _) 1 = some _ from by assumption) (FCs.cons (row_Sapi_Ent_fit ew1_0) (FCs.cons (row_u64_fit ew1_1) (FCs.cons (row_Sapi_Who_fit ew1_2) (FCs.cons (row_i64_fit ew1_3) (FCs.cons (row_Sapi_Rule_fit ew1_4) (FCs.nil))))))), fun _ hp => (List.not_mem_nil hp).elim⟩
  · cases h1
theorem rule_Right.l4.fitO (o : Out U) (y : (List Sapi_Ent × List Int × List Sapi_Who × List Int × List Sapi_Rule) ⊕ Bool) (h : rule_Right.l4.re o = some y) : FitsO o (rule_Right.l4.fin y) := by
  unfold rule_Right.l4.re at h
  split at h
  · split at h
    · obtain ⟨w1_0, ew1_0, h1⟩ := Option.bind_eq_some_iff.1 h
      obtain ⟨w1_1, ew1_1, h2⟩ := Option.bind_eq_some_iff.1 h1
      obtain ⟨w1_2, ew1_2, h3⟩ := Option.bind_eq_some_iff.1 h2
      obtain ⟨w1_3, ew1_3, h4⟩ := Option.bind_eq_some_iff.1 h3
      obtain ⟨w1_4, ew1_4, h5⟩ := Option.bind_eq_some_iff.1 h4
      cases h5
      refine fitsO_exit (fits_ren [] ?_ ?_ ren_nil rfl)
      · exact List.forall_mem_cons.2 ⟨FV.one (FV.ptr (by assumption)), fun _ hp => (List.not_mem_nil hp).elim⟩
      · exact List.forall_mem_cons.2 ⟨(FO.cells (show lk (St.o _) 1 = some _ from by assumption) (FCs.cons (row_Sapi_Ent_fit ew1_0) (FCs.cons (row_u64_fit ew1_1) (FCs.cons (row_Sapi_Who_fit ew1_2) (FCs.cons (row_i64_fit ew1_3) (FCs.cons (row_Sapi_Rule_fit ew1_4) (FCs.nil))))))), fun _ hp => (List.not_mem_nil hp).elim⟩
    · cases h
  · split at h
    · cases h
      refine fitsO_ret (fits_ren [] ?_ ?_ ren_nil rfl)
      · exact List.forall_mem_cons.2 ⟨FV.one (FV.same (by assumption) rfl), fun _ hp => (List.not_mem_nil hp).elim⟩
      · exact fun _ hp => (List.not_mem_nil hp).elim
    · cases h
  · cases h
theorem rule_Right.l4.sound (k : Nat) : LSound (rule_Right.E k) Try.f53.ntmps Try.f53 (loopAt Try.f53 4) (rule_Right.l4.L k) :=
  loop_sound (rule_Right.ok k) mixed rfl (by kernel_rfl) (allL_of (l := []) (by kernel_rfl) allL_nil) rule_Right.l4.un rule_Right.l4.mk rule_Right.l4.fin rule_Right.l4.re (rule_Right.l4.once k) k rule_Right.l4.fit rule_Right.l4.fitO (rule_Right.l4.eq k) rule_Right.l4.finK rule_Right.l4.finK_eq
theorem rule_Right.eq (k : Nat) (x : Sapi_Policy) : runF (rule_Right.E k) (codeOf Try.f53) (rule_Right.mk x) rule_Right.re = (rule_Right.D k).f x := by kernel_rfl
theorem rule_Right.fit (s : St U) (x : Sapi_Policy) (h : rule_Right.un s = some x) : Fits s (rule_Right.mk x) := by
  unfold rule_Right.un at h
  split at h
  · cases h
    refine fits_ren [] ?_ ?_ ren_nil rfl
    · exact List.forall_mem_cons.2 ⟨FV.one (FV.same (by assumption) rfl), fun _ hp => (List.not_mem_nil hp).elim⟩
    · exact fun _ hp => (List.not_mem_nil hp).elim
  · cases h
theorem rule_Right.fitR (s : St U) (y : Bool) (h : rule_Right.re s = some y) : Fits s (rule_Right.fin y) := by
  unfold rule_Right.re at h
  split at h
  · cases h
    refine fits_ren [] ?_ ?_ ren_nil rfl
    · exact List.forall_mem_cons.2 ⟨FV.one (FV.same (by assumption) rfl), fun _ hp => (List.not_mem_nil hp).elim⟩
    · exact fun _ hp => (List.not_mem_nil hp).elim
  · cases h
theorem rule_Right.sound (k : Nat) : Sound Try.prog DD 53 (rule_Right.D k) :=
  fun_sound (E := rule_Right.E k) (fn := Try.f53) (c := codeOf Try.f53) (rule_Right.ok k) mixed rfl Try.func53 (by kernel_rfl) (by kernel_rfl) (allL_of (l := [loopAt Try.f53 4]) (by kernel_rfl) (allL_cons (key := 4) (by kernel_rfl) rfl (rule_Right.l4.sound k) allL_nil)) (rule_Right.D k) rule_Right.mk rule_Right.re (by kernel_rfl) (by kernel_rfl) rule_Right.fit rule_Right.fitR (rule_Right.eq k)
/-! ### pyx/role.bit: function 104 -/
noncomputable def role_bit.f (k : Nat) (a0 : Int) : Option Int := cond (decide (IntKind.wrap .u64 (a0) < 0)) none (some (IntKind.wrap .u64 (1 * 2 ^ (min (Int.toNat (IntKind.wrap .u64 (a0))) 64))))
noncomputable def role_bit.un (s : St U) : Option Int := match s.get 0 with | .flat (.int .i64 x1) => some x1 | _ => none
noncomputable def role_bit.mk (x : Int) : St U := ⟨[(0, .flat (.int .i64 x))], []⟩
noncomputable def role_bit.fin (y : Int) : St U := ⟨[(0, .flat (.int .u64 y))], []⟩
noncomputable def role_bit.D (k : Nat) : FDen U := { X := Int, Y := Int, nt := 6, gh := [], un := role_bit.un, f := fun x => role_bit.f k (x), fin := role_bit.fin, cl := true, clo := fun _ _ => rfl }
noncomputable def role_bit.re (s : St U) : Option Int := match s.get 0 with | .flat (.int .u64 x1) => some x1 | _ => none
noncomputable def role_bit.jl : List (Nat × JDen U) := []
noncomputable def role_bit.fl (k : Nat) : List (Nat × FDen U) := []
noncomputable def role_bit.ll (k : Nat) : List (Nat × LDen U) := []
noncomputable def role_bit.E (k : Nat) : Env U := { P := Try.prog, D := DD, fd := lk (role_bit.fl k), ld := lk (role_bit.ll k), jd := lk role_bit.jl, mode := lk [], elc := lk ec, mpc := lk mc, rts := Try.f104.resultTypes.toList, dyn := fun t => false, vecs := fun d => false, results := Try.f104.results.toList, gh := [], own := false, io := fun g i => false }
theorem role_bit.ok (k : Nat) : EnvOk (role_bit.E k) := envOk lawful (role_bit.fl k) (role_bit.ll k) role_bit.jl _ _ _ _ _ _ _ _ _ _ (by
  intro p hp
  simp [role_bit.fl] at hp) (by
  intro p hp
  simp [role_bit.jl] at hp)
theorem role_bit.eq (k : Nat) (x : Int) : runF (role_bit.E k) (codeOf Try.f104) (role_bit.mk x) role_bit.re = (role_bit.D k).f x := by kernel_rfl
theorem role_bit.fit (s : St U) (x : Int) (h : role_bit.un s = some x) : Fits s (role_bit.mk x) := by
  unfold role_bit.un at h
  split at h
  · cases h
    refine fits_ren [] ?_ ?_ ren_nil rfl
    · exact List.forall_mem_cons.2 ⟨FV.one (FV.same (by assumption) rfl), fun _ hp => (List.not_mem_nil hp).elim⟩
    · exact fun _ hp => (List.not_mem_nil hp).elim
  · cases h
theorem role_bit.fitR (s : St U) (y : Int) (h : role_bit.re s = some y) : Fits s (role_bit.fin y) := by
  unfold role_bit.re at h
  split at h
  · cases h
    refine fits_ren [] ?_ ?_ ren_nil rfl
    · exact List.forall_mem_cons.2 ⟨FV.one (FV.same (by assumption) rfl), fun _ hp => (List.not_mem_nil hp).elim⟩
    · exact fun _ hp => (List.not_mem_nil hp).elim
  · cases h
theorem role_bit.sound (k : Nat) : Sound Try.prog DD 104 (role_bit.D k) :=
  fun_sound (E := role_bit.E k) (fn := Try.f104) (c := codeOf Try.f104) (role_bit.ok k) mixed rfl Try.func104 (by kernel_rfl) (by kernel_rfl) (allL_of (l := []) (by kernel_rfl) allL_nil) (role_bit.D k) role_bit.mk role_bit.re (by kernel_rfl) (by kernel_rfl) role_bit.fit role_bit.fitR (role_bit.eq k)
/-! ### pyx/role.All: function 103 -/
noncomputable def role_All.l5.once (k : Nat) (x : (List Int × Int × Int)) : Option ((List Int × Int × Int) ⊕ (Int)) := match x with | (x3, x4, x5) => cond (decide (x5 ≥ 0)) ((((((role_bit.f k x5).bind fun t6 => (cond (decide ((bits .and .u64 x4 t6) > 0)) (cond (inb x5 (List.length x3)) (some (x3, x4, x5, decide ((List.getD x3 (Int.toNat x5) 0) ≥ 0))) none) (some (x3, x4, x5, false)))) : Option (List Int × Int × Int × Bool)).bind fun y11 => (cond (y11.2.2.2) (cond (inb y11.2.2.1 (List.length y11.1)) ((role_bit.f k (List.getD y11.1 (Int.toNat y11.2.2.1) 0)).bind fun t12 => (some (y11.1, bits .or .u64 y11.2.1 t12, y11.2.2.1))) none) (some (y11.1, y11.2.1, y11.2.2.1)))) : Option (List Int × Int × Int)).bind fun y16 => (some (.inl (y16.1, y16.2.1, IntKind.wrap .i64 (y16.2.2 - 1))))) (some (.inr x4))
noncomputable def role_All.f (k : Nat) (a0 : List Int) (a1 : Int) : Option Int := (role_Right.f k a0).bind fun t1 => (cond (!t1) (some 0) ((role_bit.f k (List.length a0 : Int)).bind fun t2 => ((iter (role_All.l5.once k) k (a0, bits .and .u64 a1 (IntKind.wrap .u64 (t2 - 1)), IntKind.wrap .i64 ((List.length a0 : Int) - 1))).bind fun y18 => (some y18))))
noncomputable def role_All.un (s : St U) : Option (List Int × Int) := match s.get 0, s.get 1 with | .row C.i64 x1, .flat (.int .u64 x2) => some (x1, x2) | _, _ => none
noncomputable def role_All.mk (x : (List Int × Int)) : St U := ⟨[(0, .row C.i64 x.1), (1, .flat (.int .u64 x.2))], []⟩
noncomputable def role_All.fin (y : Int) : St U := ⟨[(0, .flat (.int .u64 y))], []⟩
noncomputable def role_All.D (k : Nat) : FDen U := { X := (List Int × Int), Y := Int, nt := 43, gh := [], un := role_All.un, f := fun x => role_All.f k (x.1) (x.2), fin := role_All.fin, cl := true, clo := fun _ _ => rfl }
noncomputable def role_All.re (s : St U) : Option Int := match s.get 0 with | .flat (.int .u64 x1) => some x1 | _ => none
noncomputable def role_All.l5.mk (x : (List Int × Int × Int)) : St U := match x with | (x3, x4, x5) => ⟨[(0, .row C.i64 x3), (5, .flat (.int .u64 x4)), (6, .flat (.int .i64 x5))], []⟩
noncomputable def role_All.l5.un (s : St U) : Option (List Int × Int × Int) := (row_i64 (s.get 0)).bind fun q0 => (match s.get 5, s.get 6 with | .flat (.int .u64 x4), .flat (.int .i64 x5) => some (q0, x4, x5) | _, _ => none)
noncomputable def role_All.l5.fin (y : Int) : Out U := match y with | x17 => .exit 0 ⟨[(5, .flat (.int .u64 x17))], []⟩
noncomputable def role_All.l5.finK {ρ : Type} (y : Int) (K : Out U → Option ρ) : Option ρ := match y with | x17 => K (.exit 0 ⟨[(5, .flat (.int .u64 x17))], []⟩)
theorem role_All.l5.finK_eq {ρ : Type} (y : Int) (K : Out U → Option ρ) : role_All.l5.finK y K = K (role_All.l5.fin y) := by
  unfold role_All.l5.finK role_All.l5.fin
  first | rfl | (split <;> rfl)
noncomputable def role_All.l5.re : Out U → Option (Int) | .exit 0 s => (match s.get 5 with | .flat (.int .u64 x17) => some x17 | _ => none) | _ => none
noncomputable def role_All.l5.L (k : Nat) : LDen U := { X := (List Int × Int × Int), Y := Int, un := role_All.l5.un, f := iter (role_All.l5.once k) k, fin := role_All.l5.fin, finK := role_All.l5.finK, finK_eq := role_All.l5.finK_eq }
noncomputable def role_All.j7000.fin (y : (List Int × Int × Int × Bool)) : Out U := match y with | (x7, x8, x9, x10) => .norm ⟨[(0, .row C.i64 x7), (5, .flat (.int .u64 x8)), (6, .flat (.int .i64 x9)), (34, .flat (.bool x10))], []⟩
noncomputable def role_All.j7000.finK {ρ : Type} (y : (List Int × Int × Int × Bool)) (K : Out U → Option ρ) : Option ρ := match y with | (x7, x8, x9, x10) => K (.norm ⟨[(0, .row C.i64 x7), (5, .flat (.int .u64 x8)), (6, .flat (.int .i64 x9)), (34, .flat (.bool x10))], []⟩)
theorem role_All.j7000.finK_eq {ρ : Type} (y : (List Int × Int × Int × Bool)) (K : Out U → Option ρ) : role_All.j7000.finK y K = K (role_All.j7000.fin y) := by
  unfold role_All.j7000.finK role_All.j7000.fin
  first | rfl | (split <;> rfl)
noncomputable def role_All.j7000.re : Out U → Option ((List Int × Int × Int × Bool)) | .norm s => ((row_i64 (s.get 0)).bind fun q0 => (match s.get 5, s.get 6, s.get 34 with | .flat (.int .u64 x8), .flat (.int .i64 x9), .flat (.bool x10) => some (q0, x8, x9, x10) | _, _, _ => none)) | _ => none
noncomputable def role_All.j7000.J : JDen U := { Y := (List Int × Int × Int × Bool), re := role_All.j7000.re, fin := role_All.j7000.fin, finK := role_All.j7000.finK, finK_eq := role_All.j7000.finK_eq }
theorem role_All.j7000.fit (o : Out U) (y : (List Int × Int × Int × Bool)) (h : role_All.j7000.re o = some y) : FitsO o (role_All.j7000.fin y) := by
  unfold role_All.j7000.re at h
  split at h
  · obtain ⟨q0, eq0, h1⟩ := Option.bind_eq_some_iff.1 h
    split at h1
    · cases h1
      refine fitsO_norm (fits_ren [] ?_ ?_ ren_nil rfl)
      · exact List.forall_mem_cons.2 ⟨FV.one (row_i64_fit eq0), List.forall_mem_cons.2 ⟨FV.one (FV.same (by assumption) rfl), List.forall_mem_cons.2 ⟨FV.one (FV.same (by assumption) rfl), List.forall_mem_cons.2 ⟨FV.one (FV.same (by assumption) rfl), fun _ hp => (List.not_mem_nil hp).elim⟩⟩⟩⟩
      · exact fun _ hp => (List.not_mem_nil hp).elim
    · cases h1
  · cases h
noncomputable def role_All.j7001.fin (y : (List Int × Int × Int)) : Out U := match y with | (x13, x14, x15) => .norm ⟨[(0, .row C.i64 x13), (5, .flat (.int .u64 x14)), (6, .flat (.int .i64 x15))], []⟩
noncomputable def role_All.j7001.finK {ρ : Type} (y : (List Int × Int × Int)) (K : Out U → Option ρ) : Option ρ := match y with | (x13, x14, x15) => K (.norm ⟨[(0, .row C.i64 x13), (5, .flat (.int .u64 x14)), (6, .flat (.int .i64 x15))], []⟩)
theorem role_All.j7001.finK_eq {ρ : Type} (y : (List Int × Int × Int)) (K : Out U → Option ρ) : role_All.j7001.finK y K = K (role_All.j7001.fin y) := by
  unfold role_All.j7001.finK role_All.j7001.fin
  first | rfl | (split <;> rfl)
noncomputable def role_All.j7001.re : Out U → Option ((List Int × Int × Int)) | .norm s => ((row_i64 (s.get 0)).bind fun q0 => (match s.get 5, s.get 6 with | .flat (.int .u64 x14), .flat (.int .i64 x15) => some (q0, x14, x15) | _, _ => none)) | _ => none
noncomputable def role_All.j7001.J : JDen U := { Y := (List Int × Int × Int), re := role_All.j7001.re, fin := role_All.j7001.fin, finK := role_All.j7001.finK, finK_eq := role_All.j7001.finK_eq }
theorem role_All.j7001.fit (o : Out U) (y : (List Int × Int × Int)) (h : role_All.j7001.re o = some y) : FitsO o (role_All.j7001.fin y) := by
  unfold role_All.j7001.re at h
  split at h
  · obtain ⟨q0, eq0, h1⟩ := Option.bind_eq_some_iff.1 h
    split at h1
    · cases h1
      refine fitsO_norm (fits_ren [] ?_ ?_ ren_nil rfl)
      · exact List.forall_mem_cons.2 ⟨FV.one (row_i64_fit eq0), List.forall_mem_cons.2 ⟨FV.one (FV.same (by assumption) rfl), List.forall_mem_cons.2 ⟨FV.one (FV.same (by assumption) rfl), fun _ hp => (List.not_mem_nil hp).elim⟩⟩⟩
      · exact fun _ hp => (List.not_mem_nil hp).elim
    · cases h1
  · cases h
noncomputable def role_All.jl : List (Nat × JDen U) := [(7000, role_All.j7000.J), (7001, role_All.j7001.J)]
noncomputable def role_All.fl (k : Nat) : List (Nat × FDen U) := [(84, role_Right.D k), (104, role_bit.D k)]
noncomputable def role_All.ll (k : Nat) : List (Nat × LDen U) := [(5, role_All.l5.L k)]
noncomputable def role_All.E (k : Nat) : Env U := { P := Try.prog, D := DD, fd := lk (role_All.fl k), ld := lk (role_All.ll k), jd := lk role_All.jl, mode := lk [], elc := lk ec, mpc := lk mc, rts := Try.f103.resultTypes.toList, dyn := fun t => false, vecs := fun d => false, results := Try.f103.results.toList, gh := [], own := false, io := fun g i => false }
theorem role_All.ok (k : Nat) : EnvOk (role_All.E k) := envOk lawful (role_All.fl k) (role_All.ll k) role_All.jl _ _ _ _ _ _ _ _ _ _ (by
  intro p hp
  simp only [role_All.fl, List.mem_cons, List.not_mem_nil, or_false] at hp
  rcases hp with rfl | rfl
  · exact ⟨role_Right.sound k, enter_of Try.func84 (by kernel_rfl) (by kernel_rfl)⟩
  · exact ⟨role_bit.sound k, enter_of Try.func104 (by kernel_rfl) (by kernel_rfl)⟩) (by
  intro p hp
  simp only [role_All.jl, List.mem_cons, List.not_mem_nil, or_false] at hp
  rcases hp with rfl | rfl
  · exact role_All.j7000.fit
  · exact role_All.j7001.fit)
theorem role_All.l5.eq (k : Nat) (x : (List Int × Int × Int)) : evC (role_All.E k) (loopAt Try.f103 5) (role_All.l5.mk x) (headK role_All.l5.un role_All.l5.re) = role_All.l5.once k x := by kernel_rfl
theorem role_All.l5.fit (s : St U) (x : (List Int × Int × Int)) (h : role_All.l5.un s = some x) : Fits s (role_All.l5.mk x) := by
  unfold role_All.l5.un at h
  obtain ⟨q0, eq0, h1⟩ := Option.bind_eq_some_iff.1 h
  split at h1
  · cases h1
    refine fits_ren [] ?_ ?_ ren_nil rfl
    · exact List.forall_mem_cons.2 ⟨FV.one (row_i64_fit eq0), List.forall_mem_cons.2 ⟨FV.one (FV.same (by assumption) rfl), List.forall_mem_cons.2 ⟨FV.one (FV.same (by assumption) rfl), fun _ hp => (List.not_mem_nil hp).elim⟩⟩⟩
    · exact fun _ hp => (List.not_mem_nil hp).elim
  · cases h1
theorem role_All.l5.fitO (o : Out U) (y : Int) (h : role_All.l5.re o = some y) : FitsO o (role_All.l5.fin y) := by
  unfold role_All.l5.re at h
  split at h
  · split at h
    · cases h
      refine fitsO_exit (fits_ren [] ?_ ?_ ren_nil rfl)
      · exact List.forall_mem_cons.2 ⟨FV.one (FV.same (by assumption) rfl), fun _ hp => (List.not_mem_nil hp).elim⟩
      · exact fun _ hp => (List.not_mem_nil hp).elim
    · cases h
  · cases h
theorem role_All.l5.sound (k : Nat) : LSound (role_All.E k) Try.f103.ntmps Try.f103 (loopAt Try.f103 5) (role_All.l5.L k) :=
  loop_sound (role_All.ok k) mixed rfl (by kernel_rfl) (allL_of (l := []) (by kernel_rfl) allL_nil) role_All.l5.un role_All.l5.mk role_All.l5.fin role_All.l5.re (role_All.l5.once k) k role_All.l5.fit role_All.l5.fitO (role_All.l5.eq k) role_All.l5.finK role_All.l5.finK_eq
theorem role_All.eq (k : Nat) (x : (List Int × Int)) : runF (role_All.E k) (codeOf Try.f103) (role_All.mk x) role_All.re = (role_All.D k).f x := by kernel_rfl
theorem role_All.fit (s : St U) (x : (List Int × Int)) (h : role_All.un s = some x) : Fits s (role_All.mk x) := by
  unfold role_All.un at h
  split at h
  · cases h
    refine fits_ren [] ?_ ?_ ren_nil rfl
    · exact List.forall_mem_cons.2 ⟨FV.one (FV.same (by assumption) rfl), List.forall_mem_cons.2 ⟨FV.one (FV.same (by assumption) rfl), fun _ hp => (List.not_mem_nil hp).elim⟩⟩
    · exact fun _ hp => (List.not_mem_nil hp).elim
  · cases h
theorem role_All.fitR (s : St U) (y : Int) (h : role_All.re s = some y) : Fits s (role_All.fin y) := by
  unfold role_All.re at h
  split at h
  · cases h
    refine fits_ren [] ?_ ?_ ren_nil rfl
    · exact List.forall_mem_cons.2 ⟨FV.one (FV.same (by assumption) rfl), fun _ hp => (List.not_mem_nil hp).elim⟩
    · exact fun _ hp => (List.not_mem_nil hp).elim
  · cases h
theorem role_All.sound (k : Nat) : Sound Try.prog DD 103 (role_All.D k) :=
  fun_sound (E := role_All.E k) (fn := Try.f103) (c := codeOf Try.f103) (role_All.ok k) mixed rfl Try.func103 (by kernel_rfl) (by kernel_rfl) (allL_of (l := [loopAt Try.f103 5]) (by kernel_rfl) (allL_cons (key := 5) (by kernel_rfl) rfl (role_All.l5.sound k) allL_nil)) (role_All.D k) role_All.mk role_All.re (by kernel_rfl) (by kernel_rfl) role_All.fit role_All.fitR (role_All.eq k)
/-! ### pyx/role.Has: function 77 -/
noncomputable def role_Has.f (k : Nat) (a0 : List Int) (a1 : Int) (a2 : Int) : Option Bool := cond (decide (a2 ≥ 0)) (cond (decide (a2 < (List.length a0 : Int))) ((role_All.f k a0 a1).bind fun t1 => ((role_bit.f k a2).bind fun t2 => (some (decide ((bits .and .u64 t1 t2) > 0))))) (some false)) (some false)
noncomputable def role_Has.un (s : St U) : Option (List Int × Int × Int) := match s.get 0, s.get 1, s.get 2 with | .row C.i64 x1, .flat (.int .u64 x2), .flat (.int .i64 x3) => some (x1, x2, x3) | _, _, _ => none
noncomputable def role_Has.mk (x : (List Int × Int × Int)) : St U := ⟨[(0, .row C.i64 x.1), (1, .flat (.int .u64 x.2.1)), (2, .flat (.int .i64 x.2.2))], []⟩
noncomputable def role_Has.fin (y : Bool) : St U := ⟨[(0, .flat (.bool y))], []⟩
noncomputable def role_Has.D (k : Nat) : FDen U := { X := (List Int × Int × Int), Y := Bool, nt := 24, gh := [], un := role_Has.un, f := fun x => role_Has.f k (x.1) (x.2.1) (x.2.2), fin := role_Has.fin, cl := true, clo := fun _ _ => rfl }
noncomputable def role_Has.re (s : St U) : Option Bool := match s.get 0 with | .flat (.bool x1) => some x1 | _ => none
noncomputable def role_Has.jl : List (Nat × JDen U) := []
noncomputable def role_Has.fl (k : Nat) : List (Nat × FDen U) := [(103, role_All.D k), (104, role_bit.D k)]
noncomputable def role_Has.ll (k : Nat) : List (Nat × LDen U) := []
noncomputable def role_Has.E (k : Nat) : Env U := { P := Try.prog, D := DD, fd := lk (role_Has.fl k), ld := lk (role_Has.ll k), jd := lk role_Has.jl, mode := lk [], elc := lk ec, mpc := lk mc, rts := Try.f77.resultTypes.toList, dyn := fun t => false, vecs := fun d => false, results := Try.f77.results.toList, gh := [], own := false, io := fun g i => false }
theorem role_Has.ok (k : Nat) : EnvOk (role_Has.E k) := envOk lawful (role_Has.fl k) (role_Has.ll k) role_Has.jl _ _ _ _ _ _ _ _ _ _ (by
  intro p hp
  simp only [role_Has.fl, List.mem_cons, List.not_mem_nil, or_false] at hp
  rcases hp with rfl | rfl
  · exact ⟨role_All.sound k, enter_of Try.func103 (by kernel_rfl) (by kernel_rfl)⟩
  · exact ⟨role_bit.sound k, enter_of Try.func104 (by kernel_rfl) (by kernel_rfl)⟩) (by
  intro p hp
  simp [role_Has.jl] at hp)
theorem role_Has.eq (k : Nat) (x : (List Int × Int × Int)) : runF (role_Has.E k) (codeOf Try.f77) (role_Has.mk x) role_Has.re = (role_Has.D k).f x := by kernel_rfl
theorem role_Has.fit (s : St U) (x : (List Int × Int × Int)) (h : role_Has.un s = some x) : Fits s (role_Has.mk x) := by
  unfold role_Has.un at h
  split at h
  · cases h
    refine fits_ren [] ?_ ?_ ren_nil rfl
    · exact List.forall_mem_cons.2 ⟨FV.one (FV.same (by assumption) rfl), List.forall_mem_cons.2 ⟨FV.one (FV.same (by assumption) rfl), List.forall_mem_cons.2 ⟨FV.one (FV.same (by assumption) rfl), fun _ hp => (List.not_mem_nil hp).elim⟩⟩⟩
    · exact fun _ hp => (List.not_mem_nil hp).elim
  · cases h
theorem role_Has.fitR (s : St U) (y : Bool) (h : role_Has.re s = some y) : Fits s (role_Has.fin y) := by
  unfold role_Has.re at h
  split at h
  · cases h
    refine fits_ren [] ?_ ?_ ren_nil rfl
    · exact List.forall_mem_cons.2 ⟨FV.one (FV.same (by assumption) rfl), fun _ hp => (List.not_mem_nil hp).elim⟩
    · exact fun _ hp => (List.not_mem_nil hp).elim
  · cases h
theorem role_Has.sound (k : Nat) : Sound Try.prog DD 77 (role_Has.D k) :=
  fun_sound (E := role_Has.E k) (fn := Try.f77) (c := codeOf Try.f77) (role_Has.ok k) mixed rfl Try.func77 (by kernel_rfl) (by kernel_rfl) (allL_of (l := []) (by kernel_rfl) allL_nil) (role_Has.D k) role_Has.mk role_Has.re (by kernel_rfl) (by kernel_rfl) role_Has.fit role_Has.fitR (role_Has.eq k)
/-! ### pyx/rule.May$1: function 79 -/
noncomputable def rule_May_1.f (k : Nat) (a0 : Sapi_Rule) : Option Bool := some (a0.f_Tag == 2)
noncomputable def rule_May_1.un (s : St U) : Option Sapi_Rule := match s.get 0 with | .agg x1 => (cd_Sapi_Rule.full x1).bind fun x2 => (some x2) | _ => none
noncomputable def rule_May_1.mk (x : Sapi_Rule) : St U := ⟨[(0, .agg (cd_Sapi_Rule.enc x))], []⟩
noncomputable def rule_May_1.fin (y : Bool) : St U := ⟨[(0, .flat (.bool y))], []⟩
noncomputable def rule_May_1.D (k : Nat) : FDen U := { X := Sapi_Rule, Y := Bool, nt := 6, gh := [], un := rule_May_1.un, f := fun x => rule_May_1.f k (x), fin := rule_May_1.fin, cl := true, clo := fun _ _ => rfl }
noncomputable def rule_May_1.re (s : St U) : Option Bool := match s.get 0 with | .flat (.bool x1) => some x1 | _ => none
noncomputable def rule_May_1.jl : List (Nat × JDen U) := []
noncomputable def rule_May_1.fl (k : Nat) : List (Nat × FDen U) := []
noncomputable def rule_May_1.ll (k : Nat) : List (Nat × LDen U) := []
noncomputable def rule_May_1.E (k : Nat) : Env U := { P := Try.prog, D := DD, fd := lk (rule_May_1.fl k), ld := lk (rule_May_1.ll k), jd := lk rule_May_1.jl, mode := lk [], elc := lk ec, mpc := lk mc, rts := Try.f79.resultTypes.toList, dyn := fun t => false, vecs := fun d => false, results := Try.f79.results.toList, gh := [], own := false, io := fun g i => false }
theorem rule_May_1.ok (k : Nat) : EnvOk (rule_May_1.E k) := envOk lawful (rule_May_1.fl k) (rule_May_1.ll k) rule_May_1.jl _ _ _ _ _ _ _ _ _ _ (by
  intro p hp
  simp [rule_May_1.fl] at hp) (by
  intro p hp
  simp [rule_May_1.jl] at hp)
theorem rule_May_1.eq (k : Nat) (x : Sapi_Rule) : runF (rule_May_1.E k) (codeOf Try.f79) (rule_May_1.mk x) rule_May_1.re = (rule_May_1.D k).f x := by kernel_rfl
theorem rule_May_1.fit (s : St U) (x : Sapi_Rule) (h : rule_May_1.un s = some x) : Fits s (rule_May_1.mk x) := by
  unfold rule_May_1.un at h
  split at h
  · obtain ⟨x2, hx2, hh1⟩ := Option.bind_eq_some_iff.1 h
    have hc1 := Cd.full_ok hx2
    clear hx2
    subst hc1
    cases hh1
    refine fits_ren [] ?_ ?_ ren_nil rfl
    · exact List.forall_mem_cons.2 ⟨FV.one (FV.same (by assumption) rfl), fun _ hp => (List.not_mem_nil hp).elim⟩
    · exact fun _ hp => (List.not_mem_nil hp).elim
  · cases h
theorem rule_May_1.fitR (s : St U) (y : Bool) (h : rule_May_1.re s = some y) : Fits s (rule_May_1.fin y) := by
  unfold rule_May_1.re at h
  split at h
  · cases h
    refine fits_ren [] ?_ ?_ ren_nil rfl
    · exact List.forall_mem_cons.2 ⟨FV.one (FV.same (by assumption) rfl), fun _ hp => (List.not_mem_nil hp).elim⟩
    · exact fun _ hp => (List.not_mem_nil hp).elim
  · cases h
theorem rule_May_1.sound (k : Nat) : Sound Try.prog DD 79 (rule_May_1.D k) :=
  fun_sound (E := rule_May_1.E k) (fn := Try.f79) (c := codeOf Try.f79) (rule_May_1.ok k) mixed rfl Try.func79 (by kernel_rfl) (by kernel_rfl) (allL_of (l := []) (by kernel_rfl) allL_nil) (rule_May_1.D k) rule_May_1.mk rule_May_1.re (by kernel_rfl) (by kernel_rfl) rule_May_1.fit rule_May_1.fitR (rule_May_1.eq k)
/-! ### slices.IndexFunc[[]pyx/api.Rule,pyx/api.Rule]: function 105 -/
noncomputable def slices_IndexFunc_api_Rule_c79.l2.once (k : Nat) (x : (List Sapi_Rule × Int × Int)) : Option ((List Sapi_Rule × Int × Int) ⊕ (Unit ⊕ Int)) := match x with | (x1, x2, x3) => cond (decide (x3 < x2)) (cond (inb x3 (List.length x1)) ((rule_May_1.f k (⟨(List.getD x1 (Int.toNat x3) Sapi_Rule.zero).f_Tag, (List.getD x1 (Int.toNat x3) Sapi_Rule.zero).f_Role, (List.getD x1 (Int.toNat x3) Sapi_Rule.zero).f_Verb, (List.getD x1 (Int.toNat x3) Sapi_Rule.zero).f_Ent, (List.getD x1 (Int.toNat x3) Sapi_Rule.zero).f_Group, (List.getD x1 (Int.toNat x3) Sapi_Rule.zero).f_Line, (⟨((List.getD x1 (Int.toNat x3) Sapi_Rule.zero).f_Unit).f_Neg, ((((List.getD x1 (Int.toNat x3) Sapi_Rule.zero).f_Unit).f_C).1, (((List.getD x1 (Int.toNat x3) Sapi_Rule.zero).f_Unit).f_C).2), ((List.getD x1 (Int.toNat x3) Sapi_Rule.zero).f_Unit).f_Scale⟩ : Sapi_Dec), (⟨((List.getD x1 (Int.toNat x3) Sapi_Rule.zero).f_To).f_Set, ((List.getD x1 (Int.toNat x3) Sapi_Rule.zero).f_To).f_Level⟩ : Sapi_Label)⟩ : Sapi_Rule)).bind fun t4 => (cond (t4) (some (.inr (.inr x3))) (some (.inl (x1, x2, IntKind.wrap .i64 (x3 + 1)))))) none) (some (.inr (.inl ())))
noncomputable def slices_IndexFunc_api_Rule_c79.f (k : Nat) (a0 : List Sapi_Rule) (a1 : Unit) : Option Int := (iter (slices_IndexFunc_api_Rule_c79.l2.once k) k (a0, (List.length a0 : Int), 0)).bind fun | .inl y6 => (some (-1)) | .inr y7 => (some y7)
noncomputable def slices_IndexFunc_api_Rule_c79.un (s : St U) : Option (List Sapi_Rule × Unit) := match s.get 0, s.get 1 with | .row C.Sapi_Rule x1, .fn 79 [] => some (x1, ()) | _, _ => none
noncomputable def slices_IndexFunc_api_Rule_c79.mk (x : (List Sapi_Rule × Unit)) : St U := ⟨[(0, .row C.Sapi_Rule x.1), (1, .fn 79 [])], []⟩
noncomputable def slices_IndexFunc_api_Rule_c79.fin (y : Int) : St U := ⟨[(0, .flat (.int .i64 y))], []⟩
noncomputable def slices_IndexFunc_api_Rule_c79.D (k : Nat) : FDen U := { X := (List Sapi_Rule × Unit), Y := Int, nt := 19, gh := [], un := slices_IndexFunc_api_Rule_c79.un, f := fun x => slices_IndexFunc_api_Rule_c79.f k (x.1) (x.2), fin := slices_IndexFunc_api_Rule_c79.fin, cl := true, clo := fun _ _ => rfl }
noncomputable def slices_IndexFunc_api_Rule_c79.re (s : St U) : Option Int := match s.get 0 with | .flat (.int .i64 x1) => some x1 | _ => none
noncomputable def slices_IndexFunc_api_Rule_c79.l2.mk (x : (List Sapi_Rule × Int × Int)) : St U := match x with | (x1, x2, x3) => ⟨[(0, .row C.Sapi_Rule x1), (1, .fn 79 []), (7, .flat (.int .i64 x2)), (8, .flat (.int .i64 x3))], []⟩
noncomputable def slices_IndexFunc_api_Rule_c79.l2.un (s : St U) : Option (List Sapi_Rule × Int × Int) := (row_Sapi_Rule (s.get 0)).bind fun q0 => (match s.get 1, s.get 7, s.get 8 with | .fn 79 [], .flat (.int .i64 x2), .flat (.int .i64 x3) => some (q0, x2, x3) | _, _, _ => none)
noncomputable def slices_IndexFunc_api_Rule_c79.l2.fin (y : Unit ⊕ Int) : Out U := match y with | .inl () => .exit 0 ⟨[], []⟩ | .inr z => .ret (⟨[(0, .flat (.int .i64 z))], []⟩)
noncomputable def slices_IndexFunc_api_Rule_c79.l2.finK {ρ : Type} (y : Unit ⊕ Int) (K : Out U → Option ρ) : Option ρ := match y with | .inl () => K (.exit 0 ⟨[], []⟩) | .inr z => K (.ret (⟨[(0, .flat (.int .i64 z))], []⟩))
theorem slices_IndexFunc_api_Rule_c79.l2.finK_eq {ρ : Type} (y : Unit ⊕ Int) (K : Out U → Option ρ) : slices_IndexFunc_api_Rule_c79.l2.finK y K = K (slices_IndexFunc_api_Rule_c79.l2.fin y) := by
  unfold slices_IndexFunc_api_Rule_c79.l2.finK slices_IndexFunc_api_Rule_c79.l2.fin
  first | rfl | (split <;> rfl)
noncomputable def slices_IndexFunc_api_Rule_c79.l2.re : Out U → Option (Unit ⊕ Int) | .exit 0 s => (some (.inl ())) | .ret s => (match s.get 0 with | .flat (.int .i64 x1) => some (.inr x1) | _ => none) | _ => none
noncomputable def slices_IndexFunc_api_Rule_c79.l2.L (k : Nat) : LDen U := { X := (List Sapi_Rule × Int × Int), Y := Unit ⊕ Int, un := slices_IndexFunc_api_Rule_c79.l2.un, f := iter (slices_IndexFunc_api_Rule_c79.l2.once k) k, fin := slices_IndexFunc_api_Rule_c79.l2.fin, finK := slices_IndexFunc_api_Rule_c79.l2.finK, finK_eq := slices_IndexFunc_api_Rule_c79.l2.finK_eq }
noncomputable def slices_IndexFunc_api_Rule_c79.jl : List (Nat × JDen U) := []
noncomputable def slices_IndexFunc_api_Rule_c79.fl (k : Nat) : List (Nat × FDen U) := [(79, rule_May_1.D k)]
noncomputable def slices_IndexFunc_api_Rule_c79.ll (k : Nat) : List (Nat × LDen U) := [(2, slices_IndexFunc_api_Rule_c79.l2.L k)]
noncomputable def slices_IndexFunc_api_Rule_c79.E (k : Nat) : Env U := { P := Try.prog, D := DD, fd := lk (slices_IndexFunc_api_Rule_c79.fl k), ld := lk (slices_IndexFunc_api_Rule_c79.ll k), jd := lk slices_IndexFunc_api_Rule_c79.jl, mode := lk [], elc := lk ec, mpc := lk mc, rts := Try.f105.resultTypes.toList, dyn := fun t => false, vecs := fun d => false, results := Try.f105.results.toList, gh := [], own := false, io := fun g i => false }
theorem slices_IndexFunc_api_Rule_c79.ok (k : Nat) : EnvOk (slices_IndexFunc_api_Rule_c79.E k) := envOk lawful (slices_IndexFunc_api_Rule_c79.fl k) (slices_IndexFunc_api_Rule_c79.ll k) slices_IndexFunc_api_Rule_c79.jl _ _ _ _ _ _ _ _ _ _ (by
  intro p hp
  simp only [slices_IndexFunc_api_Rule_c79.fl, List.mem_cons, List.not_mem_nil, or_false] at hp
  rcases hp with rfl
  · exact ⟨rule_May_1.sound k, enter_of Try.func79 (by kernel_rfl) (by kernel_rfl)⟩) (by
  intro p hp
  simp [slices_IndexFunc_api_Rule_c79.jl] at hp)
theorem slices_IndexFunc_api_Rule_c79.l2.eq (k : Nat) (x : (List Sapi_Rule × Int × Int)) : evC (slices_IndexFunc_api_Rule_c79.E k) (loopAt Try.f105 2) (slices_IndexFunc_api_Rule_c79.l2.mk x) (headK slices_IndexFunc_api_Rule_c79.l2.un slices_IndexFunc_api_Rule_c79.l2.re) = slices_IndexFunc_api_Rule_c79.l2.once k x := by kernel_rfl
theorem slices_IndexFunc_api_Rule_c79.l2.fit (s : St U) (x : (List Sapi_Rule × Int × Int)) (h : slices_IndexFunc_api_Rule_c79.l2.un s = some x) : Fits s (slices_IndexFunc_api_Rule_c79.l2.mk x) := by
  unfold slices_IndexFunc_api_Rule_c79.l2.un at h
  obtain ⟨q0, eq0, h1⟩ := Option.bind_eq_some_iff.1 h
  split at h1
  · cases h1
    refine fits_ren [] ?_ ?_ ren_nil rfl
    · exact List.forall_mem_cons.2 ⟨FV.one (row_Sapi_Rule_fit eq0), List.forall_mem_cons.2 ⟨FV.one (FV.same (by assumption) rfl), List.forall_mem_cons.2 ⟨FV.one (FV.same (by assumption) rfl), List.forall_mem_cons.2 ⟨FV.one (FV.same (by assumption) rfl), fun _ hp => (List.not_mem_nil hp).elim⟩⟩⟩⟩
    · exact fun _ hp => (List.not_mem_nil hp).elim
  · cases h1
theorem slices_IndexFunc_api_Rule_c79.l2.fitO (o : Out U) (y : Unit ⊕ Int) (h : slices_IndexFunc_api_Rule_c79.l2.re o = some y) : FitsO o (slices_IndexFunc_api_Rule_c79.l2.fin y) := by
  unfold slices_IndexFunc_api_Rule_c79.l2.re at h
  split at h
  · cases h
    refine fitsO_exit (fits_ren [] ?_ ?_ ren_nil rfl)
    · exact fun _ hp => (List.not_mem_nil hp).elim
    · exact fun _ hp => (List.not_mem_nil hp).elim
  · split at h
    · cases h
      refine fitsO_ret (fits_ren [] ?_ ?_ ren_nil rfl)
      · exact List.forall_mem_cons.2 ⟨FV.one (FV.same (by assumption) rfl), fun _ hp => (List.not_mem_nil hp).elim⟩
      · exact fun _ hp => (List.not_mem_nil hp).elim
    · cases h
  · cases h
theorem slices_IndexFunc_api_Rule_c79.l2.sound (k : Nat) : LSound (slices_IndexFunc_api_Rule_c79.E k) Try.f105.ntmps Try.f105 (loopAt Try.f105 2) (slices_IndexFunc_api_Rule_c79.l2.L k) :=
  loop_sound (slices_IndexFunc_api_Rule_c79.ok k) mixed rfl (by kernel_rfl) (allL_of (l := []) (by kernel_rfl) allL_nil) slices_IndexFunc_api_Rule_c79.l2.un slices_IndexFunc_api_Rule_c79.l2.mk slices_IndexFunc_api_Rule_c79.l2.fin slices_IndexFunc_api_Rule_c79.l2.re (slices_IndexFunc_api_Rule_c79.l2.once k) k slices_IndexFunc_api_Rule_c79.l2.fit slices_IndexFunc_api_Rule_c79.l2.fitO (slices_IndexFunc_api_Rule_c79.l2.eq k) slices_IndexFunc_api_Rule_c79.l2.finK slices_IndexFunc_api_Rule_c79.l2.finK_eq
theorem slices_IndexFunc_api_Rule_c79.eq (k : Nat) (x : (List Sapi_Rule × Unit)) : runF (slices_IndexFunc_api_Rule_c79.E k) (codeOf Try.f105) (slices_IndexFunc_api_Rule_c79.mk x) slices_IndexFunc_api_Rule_c79.re = (slices_IndexFunc_api_Rule_c79.D k).f x := by kernel_rfl
theorem slices_IndexFunc_api_Rule_c79.fit (s : St U) (x : (List Sapi_Rule × Unit)) (h : slices_IndexFunc_api_Rule_c79.un s = some x) : Fits s (slices_IndexFunc_api_Rule_c79.mk x) := by
  unfold slices_IndexFunc_api_Rule_c79.un at h
  split at h
  · cases h
    refine fits_ren [] ?_ ?_ ren_nil rfl
    · exact List.forall_mem_cons.2 ⟨FV.one (FV.same (by assumption) rfl), List.forall_mem_cons.2 ⟨FV.one (FV.same (by assumption) rfl), fun _ hp => (List.not_mem_nil hp).elim⟩⟩
    · exact fun _ hp => (List.not_mem_nil hp).elim
  · cases h
theorem slices_IndexFunc_api_Rule_c79.fitR (s : St U) (y : Int) (h : slices_IndexFunc_api_Rule_c79.re s = some y) : Fits s (slices_IndexFunc_api_Rule_c79.fin y) := by
  unfold slices_IndexFunc_api_Rule_c79.re at h
  split at h
  · cases h
    refine fits_ren [] ?_ ?_ ren_nil rfl
    · exact List.forall_mem_cons.2 ⟨FV.one (FV.same (by assumption) rfl), fun _ hp => (List.not_mem_nil hp).elim⟩
    · exact fun _ hp => (List.not_mem_nil hp).elim
  · cases h
theorem slices_IndexFunc_api_Rule_c79.sound (k : Nat) : Sound Try.prog DD 105 (slices_IndexFunc_api_Rule_c79.D k) :=
  fun_sound (E := slices_IndexFunc_api_Rule_c79.E k) (fn := Try.f105) (c := codeOf Try.f105) (slices_IndexFunc_api_Rule_c79.ok k) mixed rfl Try.func105 (by kernel_rfl) (by kernel_rfl) (allL_of (l := [loopAt Try.f105 2]) (by kernel_rfl) (allL_cons (key := 2) (by kernel_rfl) rfl (slices_IndexFunc_api_Rule_c79.l2.sound k) allL_nil)) (slices_IndexFunc_api_Rule_c79.D k) slices_IndexFunc_api_Rule_c79.mk slices_IndexFunc_api_Rule_c79.re (by kernel_rfl) (by kernel_rfl) slices_IndexFunc_api_Rule_c79.fit slices_IndexFunc_api_Rule_c79.fitR (slices_IndexFunc_api_Rule_c79.eq k)
/-! ### slices.ContainsFunc[[]pyx/api.Rule,pyx/api.Rule]: function 78 -/
noncomputable def slices_ContainsFunc_api_Rule_c79.f (k : Nat) (a0 : List Sapi_Rule) (a1 : Unit) : Option Bool := (slices_IndexFunc_api_Rule_c79.f k a0 ()).bind fun t1 => (some (decide (t1 ≥ 0)))
noncomputable def slices_ContainsFunc_api_Rule_c79.un (s : St U) : Option (List Sapi_Rule × Unit) := match s.get 0, s.get 1 with | .row C.Sapi_Rule x1, .fn 79 [] => some (x1, ()) | _, _ => none
noncomputable def slices_ContainsFunc_api_Rule_c79.mk (x : (List Sapi_Rule × Unit)) : St U := ⟨[(0, .row C.Sapi_Rule x.1), (1, .fn 79 [])], []⟩
noncomputable def slices_ContainsFunc_api_Rule_c79.fin (y : Bool) : St U := ⟨[(0, .flat (.bool y))], []⟩
noncomputable def slices_ContainsFunc_api_Rule_c79.D (k : Nat) : FDen U := { X := (List Sapi_Rule × Unit), Y := Bool, nt := 9, gh := [], un := slices_ContainsFunc_api_Rule_c79.un, f := fun x => slices_ContainsFunc_api_Rule_c79.f k (x.1) (x.2), fin := slices_ContainsFunc_api_Rule_c79.fin, cl := true, clo := fun _ _ => rfl }
noncomputable def slices_ContainsFunc_api_Rule_c79.re (s : St U) : Option Bool := match s.get 0 with | .flat (.bool x1) => some x1 | _ => none
noncomputable def slices_ContainsFunc_api_Rule_c79.jl : List (Nat × JDen U) := []
noncomputable def slices_ContainsFunc_api_Rule_c79.fl (k : Nat) : List (Nat × FDen U) := [(105, slices_IndexFunc_api_Rule_c79.D k)]
noncomputable def slices_ContainsFunc_api_Rule_c79.ll (k : Nat) : List (Nat × LDen U) := []
noncomputable def slices_ContainsFunc_api_Rule_c79.E (k : Nat) : Env U := { P := Try.prog, D := DD, fd := lk (slices_ContainsFunc_api_Rule_c79.fl k), ld := lk (slices_ContainsFunc_api_Rule_c79.ll k), jd := lk slices_ContainsFunc_api_Rule_c79.jl, mode := lk [], elc := lk ec, mpc := lk mc, rts := Try.f78.resultTypes.toList, dyn := fun t => false, vecs := fun d => false, results := Try.f78.results.toList, gh := [], own := false, io := fun g i => false }
theorem slices_ContainsFunc_api_Rule_c79.ok (k : Nat) : EnvOk (slices_ContainsFunc_api_Rule_c79.E k) := envOk lawful (slices_ContainsFunc_api_Rule_c79.fl k) (slices_ContainsFunc_api_Rule_c79.ll k) slices_ContainsFunc_api_Rule_c79.jl _ _ _ _ _ _ _ _ _ _ (by
  intro p hp
  simp only [slices_ContainsFunc_api_Rule_c79.fl, List.mem_cons, List.not_mem_nil, or_false] at hp
  rcases hp with rfl
  · exact ⟨slices_IndexFunc_api_Rule_c79.sound k, enter_of Try.func105 (by kernel_rfl) (by kernel_rfl)⟩) (by
  intro p hp
  simp [slices_ContainsFunc_api_Rule_c79.jl] at hp)
theorem slices_ContainsFunc_api_Rule_c79.eq (k : Nat) (x : (List Sapi_Rule × Unit)) : runF (slices_ContainsFunc_api_Rule_c79.E k) (codeOf Try.f78) (slices_ContainsFunc_api_Rule_c79.mk x) slices_ContainsFunc_api_Rule_c79.re = (slices_ContainsFunc_api_Rule_c79.D k).f x := by kernel_rfl
theorem slices_ContainsFunc_api_Rule_c79.fit (s : St U) (x : (List Sapi_Rule × Unit)) (h : slices_ContainsFunc_api_Rule_c79.un s = some x) : Fits s (slices_ContainsFunc_api_Rule_c79.mk x) := by
  unfold slices_ContainsFunc_api_Rule_c79.un at h
  split at h
  · cases h
    refine fits_ren [] ?_ ?_ ren_nil rfl
    · exact List.forall_mem_cons.2 ⟨FV.one (FV.same (by assumption) rfl), List.forall_mem_cons.2 ⟨FV.one (FV.same (by assumption) rfl), fun _ hp => (List.not_mem_nil hp).elim⟩⟩
    · exact fun _ hp => (List.not_mem_nil hp).elim
  · cases h
theorem slices_ContainsFunc_api_Rule_c79.fitR (s : St U) (y : Bool) (h : slices_ContainsFunc_api_Rule_c79.re s = some y) : Fits s (slices_ContainsFunc_api_Rule_c79.fin y) := by
  unfold slices_ContainsFunc_api_Rule_c79.re at h
  split at h
  · cases h
    refine fits_ren [] ?_ ?_ ren_nil rfl
    · exact List.forall_mem_cons.2 ⟨FV.one (FV.same (by assumption) rfl), fun _ hp => (List.not_mem_nil hp).elim⟩
    · exact fun _ hp => (List.not_mem_nil hp).elim
  · cases h
theorem slices_ContainsFunc_api_Rule_c79.sound (k : Nat) : Sound Try.prog DD 78 (slices_ContainsFunc_api_Rule_c79.D k) :=
  fun_sound (E := slices_ContainsFunc_api_Rule_c79.E k) (fn := Try.f78) (c := codeOf Try.f78) (slices_ContainsFunc_api_Rule_c79.ok k) mixed rfl Try.func78 (by kernel_rfl) (by kernel_rfl) (allL_of (l := []) (by kernel_rfl) allL_nil) (slices_ContainsFunc_api_Rule_c79.D k) slices_ContainsFunc_api_Rule_c79.mk slices_ContainsFunc_api_Rule_c79.re (by kernel_rfl) (by kernel_rfl) slices_ContainsFunc_api_Rule_c79.fit slices_ContainsFunc_api_Rule_c79.fitR (slices_ContainsFunc_api_Rule_c79.eq k)
/-! ### pyx/rule.May: function 43 -/
noncomputable def rule_May.l5.once (k : Nat) (x : (Int × Int × Int × List Sapi_Rule × List Sapi_Rule × List Sapi_Rule × Int × Int × List Sapi_Ent × List Int × List Sapi_Who × List Int × List Sapi_Rule)) : Option ((Int × Int × Int × List Sapi_Rule × List Sapi_Rule × List Sapi_Rule × Int × Int × List Sapi_Ent × List Int × List Sapi_Who × List Int × List Sapi_Rule) ⊕ ((List Sapi_Rule × List Sapi_Rule))) := match x with | (x15, x16, x17, x23, x24, x25, x26, x27, x18, x19, x20, x21, x22) => cond (decide (x27 < x26)) (cond (inb x27 (List.length x25)) (((cond (((List.getD x25 (Int.toNat x27) Sapi_Rule.zero).f_Tag) == 3) (some (x15, x16, x17, x23, x24, x25, x26, x27, true, x18, x19, x20, x21, x22, (⟨(List.getD x25 (Int.toNat x27) Sapi_Rule.zero).f_Tag, (List.getD x25 (Int.toNat x27) Sapi_Rule.zero).f_Role, (List.getD x25 (Int.toNat x27) Sapi_Rule.zero).f_Verb, (List.getD x25 (Int.toNat x27) Sapi_Rule.zero).f_Ent, (List.getD x25 (Int.toNat x27) Sapi_Rule.zero).f_Group, (List.getD x25 (Int.toNat x27) Sapi_Rule.zero).f_Line, (⟨((List.getD x25 (Int.toNat x27) Sapi_Rule.zero).f_Unit).f_Neg, ((((List.getD x25 (Int.toNat x27) Sapi_Rule.zero).f_Unit).f_C).1, (((List.getD x25 (Int.toNat x27) Sapi_Rule.zero).f_Unit).f_C).2), ((List.getD x25 (Int.toNat x27) Sapi_Rule.zero).f_Unit).f_Scale⟩ : Sapi_Dec), (⟨((List.getD x25 (Int.toNat x27) Sapi_Rule.zero).f_To).f_Set, ((List.getD x25 (Int.toNat x27) Sapi_Rule.zero).f_To).f_Level⟩ : Sapi_Label)⟩ : Sapi_Rule))) (cond (((List.getD x25 (Int.toNat x27) Sapi_Rule.zero).f_Verb) != x16) (some (x15, x16, x17, x23, x24, x25, x26, x27, true, x18, x19, x20, x21, x22, (⟨(List.getD x25 (Int.toNat x27) Sapi_Rule.zero).f_Tag, (List.getD x25 (Int.toNat x27) Sapi_Rule.zero).f_Role, (List.getD x25 (Int.toNat x27) Sapi_Rule.zero).f_Verb, (List.getD x25 (Int.toNat x27) Sapi_Rule.zero).f_Ent, (List.getD x25 (Int.toNat x27) Sapi_Rule.zero).f_Group, (List.getD x25 (Int.toNat x27) Sapi_Rule.zero).f_Line, (⟨((List.getD x25 (Int.toNat x27) Sapi_Rule.zero).f_Unit).f_Neg, ((((List.getD x25 (Int.toNat x27) Sapi_Rule.zero).f_Unit).f_C).1, (((List.getD x25 (Int.toNat x27) Sapi_Rule.zero).f_Unit).f_C).2), ((List.getD x25 (Int.toNat x27) Sapi_Rule.zero).f_Unit).f_Scale⟩ : Sapi_Dec), (⟨((List.getD x25 (Int.toNat x27) Sapi_Rule.zero).f_To).f_Set, ((List.getD x25 (Int.toNat x27) Sapi_Rule.zero).f_To).f_Level⟩ : Sapi_Label)⟩ : Sapi_Rule))) (cond (inb x15 (List.length x20)) ((role_Has.f k x21 ((List.getD x20 (Int.toNat x15) Sapi_Who.zero).f_Roles) ((List.getD x25 (Int.toNat x27) Sapi_Rule.zero).f_Role)).bind fun t43 => (some (x15, x16, x17, x23, x24, x25, x26, x27, !t43, x18, x19, x20, x21, x22, (⟨(List.getD x25 (Int.toNat x27) Sapi_Rule.zero).f_Tag, (List.getD x25 (Int.toNat x27) Sapi_Rule.zero).f_Role, (List.getD x25 (Int.toNat x27) Sapi_Rule.zero).f_Verb, (List.getD x25 (Int.toNat x27) Sapi_Rule.zero).f_Ent, (List.getD x25 (Int.toNat x27) Sapi_Rule.zero).f_Group, (List.getD x25 (Int.toNat x27) Sapi_Rule.zero).f_Line, (⟨((List.getD x25 (Int.toNat x27) Sapi_Rule.zero).f_Unit).f_Neg, ((((List.getD x25 (Int.toNat x27) Sapi_Rule.zero).f_Unit).f_C).1, (((List.getD x25 (Int.toNat x27) Sapi_Rule.zero).f_Unit).f_C).2), ((List.getD x25 (Int.toNat x27) Sapi_Rule.zero).f_Unit).f_Scale⟩ : Sapi_Dec), (⟨((List.getD x25 (Int.toNat x27) Sapi_Rule.zero).f_To).f_Set, ((List.getD x25 (Int.toNat x27) Sapi_Rule.zero).f_To).f_Level⟩ : Sapi_Label)⟩ : Sapi_Rule)))) none))) : Option (Int × Int × Int × List Sapi_Rule × List Sapi_Rule × List Sapi_Rule × Int × Int × Bool × List Sapi_Ent × List Int × List Sapi_Who × List Int × List Sapi_Rule × Sapi_Rule)).bind fun y44 => (cond (y44.2.2.2.2.2.2.2.2.1) (some (.inl (y44.1, y44.2.1, y44.2.2.1, y44.2.2.2.1, y44.2.2.2.2.1, y44.2.2.2.2.2.1, y44.2.2.2.2.2.2.1, IntKind.wrap .i64 (y44.2.2.2.2.2.2.2.1 + 1), y44.2.2.2.2.2.2.2.2.2.1, y44.2.2.2.2.2.2.2.2.2.2.1, y44.2.2.2.2.2.2.2.2.2.2.2.1, y44.2.2.2.2.2.2.2.2.2.2.2.2.1, y44.2.2.2.2.2.2.2.2.2.2.2.2.2.1))) (cond (y44.2.2.2.2.2.2.2.2.2.2.2.2.2.2.f_Ent == y44.2.2.1) (cond (okLen (List.length y44.2.2.2.1 + List.length [(⟨y44.2.2.2.2.2.2.2.2.2.2.2.2.2.2.f_Tag, y44.2.2.2.2.2.2.2.2.2.2.2.2.2.2.f_Role, y44.2.2.2.2.2.2.2.2.2.2.2.2.2.2.f_Verb, y44.2.2.2.2.2.2.2.2.2.2.2.2.2.2.f_Ent, y44.2.2.2.2.2.2.2.2.2.2.2.2.2.2.f_Group, y44.2.2.2.2.2.2.2.2.2.2.2.2.2.2.f_Line, (⟨y44.2.2.2.2.2.2.2.2.2.2.2.2.2.2.f_Unit.f_Neg, (y44.2.2.2.2.2.2.2.2.2.2.2.2.2.2.f_Unit.f_C.1, y44.2.2.2.2.2.2.2.2.2.2.2.2.2.2.f_Unit.f_C.2), y44.2.2.2.2.2.2.2.2.2.2.2.2.2.2.f_Unit.f_Scale⟩ : Sapi_Dec), (⟨y44.2.2.2.2.2.2.2.2.2.2.2.2.2.2.f_To.f_Set, y44.2.2.2.2.2.2.2.2.2.2.2.2.2.2.f_To.f_Level⟩ : Sapi_Label)⟩ : Sapi_Rule)]) 96) (some (.inl (y44.1, y44.2.1, y44.2.2.1, y44.2.2.2.1 ++ [(⟨y44.2.2.2.2.2.2.2.2.2.2.2.2.2.2.f_Tag, y44.2.2.2.2.2.2.2.2.2.2.2.2.2.2.f_Role, y44.2.2.2.2.2.2.2.2.2.2.2.2.2.2.f_Verb, y44.2.2.2.2.2.2.2.2.2.2.2.2.2.2.f_Ent, y44.2.2.2.2.2.2.2.2.2.2.2.2.2.2.f_Group, y44.2.2.2.2.2.2.2.2.2.2.2.2.2.2.f_Line, (⟨y44.2.2.2.2.2.2.2.2.2.2.2.2.2.2.f_Unit.f_Neg, (y44.2.2.2.2.2.2.2.2.2.2.2.2.2.2.f_Unit.f_C.1, y44.2.2.2.2.2.2.2.2.2.2.2.2.2.2.f_Unit.f_C.2), y44.2.2.2.2.2.2.2.2.2.2.2.2.2.2.f_Unit.f_Scale⟩ : Sapi_Dec), (⟨y44.2.2.2.2.2.2.2.2.2.2.2.2.2.2.f_To.f_Set, y44.2.2.2.2.2.2.2.2.2.2.2.2.2.2.f_To.f_Level⟩ : Sapi_Label)⟩ : Sapi_Rule)], y44.2.2.2.2.1, y44.2.2.2.2.2.1, y44.2.2.2.2.2.2.1, IntKind.wrap .i64 (y44.2.2.2.2.2.2.2.1 + 1), y44.2.2.2.2.2.2.2.2.2.1, y44.2.2.2.2.2.2.2.2.2.2.1, y44.2.2.2.2.2.2.2.2.2.2.2.1, y44.2.2.2.2.2.2.2.2.2.2.2.2.1, y44.2.2.2.2.2.2.2.2.2.2.2.2.2.1))) none) (cond (y44.2.2.2.2.2.2.2.2.2.2.2.2.2.2.f_Ent == (-1)) (cond (okLen (List.length y44.2.2.2.2.1 + List.length [(⟨y44.2.2.2.2.2.2.2.2.2.2.2.2.2.2.f_Tag, y44.2.2.2.2.2.2.2.2.2.2.2.2.2.2.f_Role, y44.2.2.2.2.2.2.2.2.2.2.2.2.2.2.f_Verb, y44.2.2.2.2.2.2.2.2.2.2.2.2.2.2.f_Ent, y44.2.2.2.2.2.2.2.2.2.2.2.2.2.2.f_Group, y44.2.2.2.2.2.2.2.2.2.2.2.2.2.2.f_Line, (⟨y44.2.2.2.2.2.2.2.2.2.2.2.2.2.2.f_Unit.f_Neg, (y44.2.2.2.2.2.2.2.2.2.2.2.2.2.2.f_Unit.f_C.1, y44.2.2.2.2.2.2.2.2.2.2.2.2.2.2.f_Unit.f_C.2), y44.2.2.2.2.2.2.2.2.2.2.2.2.2.2.f_Unit.f_Scale⟩ : Sapi_Dec), (⟨y44.2.2.2.2.2.2.2.2.2.2.2.2.2.2.f_To.f_Set, y44.2.2.2.2.2.2.2.2.2.2.2.2.2.2.f_To.f_Level⟩ : Sapi_Label)⟩ : Sapi_Rule)]) 96) (some (.inl (y44.1, y44.2.1, y44.2.2.1, y44.2.2.2.1, y44.2.2.2.2.1 ++ [(⟨y44.2.2.2.2.2.2.2.2.2.2.2.2.2.2.f_Tag, y44.2.2.2.2.2.2.2.2.2.2.2.2.2.2.f_Role, y44.2.2.2.2.2.2.2.2.2.2.2.2.2.2.f_Verb, y44.2.2.2.2.2.2.2.2.2.2.2.2.2.2.f_Ent, y44.2.2.2.2.2.2.2.2.2.2.2.2.2.2.f_Group, y44.2.2.2.2.2.2.2.2.2.2.2.2.2.2.f_Line, (⟨y44.2.2.2.2.2.2.2.2.2.2.2.2.2.2.f_Unit.f_Neg, (y44.2.2.2.2.2.2.2.2.2.2.2.2.2.2.f_Unit.f_C.1, y44.2.2.2.2.2.2.2.2.2.2.2.2.2.2.f_Unit.f_C.2), y44.2.2.2.2.2.2.2.2.2.2.2.2.2.2.f_Unit.f_Scale⟩ : Sapi_Dec), (⟨y44.2.2.2.2.2.2.2.2.2.2.2.2.2.2.f_To.f_Set, y44.2.2.2.2.2.2.2.2.2.2.2.2.2.2.f_To.f_Level⟩ : Sapi_Label)⟩ : Sapi_Rule)], y44.2.2.2.2.2.1, y44.2.2.2.2.2.2.1, IntKind.wrap .i64 (y44.2.2.2.2.2.2.2.1 + 1), y44.2.2.2.2.2.2.2.2.2.1, y44.2.2.2.2.2.2.2.2.2.2.1, y44.2.2.2.2.2.2.2.2.2.2.2.1, y44.2.2.2.2.2.2.2.2.2.2.2.2.1, y44.2.2.2.2.2.2.2.2.2.2.2.2.2.1))) none) (some (.inl (y44.1, y44.2.1, y44.2.2.1, y44.2.2.2.1, y44.2.2.2.2.1, y44.2.2.2.2.2.1, y44.2.2.2.2.2.2.1, IntKind.wrap .i64 (y44.2.2.2.2.2.2.2.1 + 1), y44.2.2.2.2.2.2.2.2.2.1, y44.2.2.2.2.2.2.2.2.2.2.1, y44.2.2.2.2.2.2.2.2.2.2.2.1, y44.2.2.2.2.2.2.2.2.2.2.2.2.1, y44.2.2.2.2.2.2.2.2.2.2.2.2.2.1))))))) none) (some (.inr (x23, x24)))
noncomputable def rule_May.f (k : Nat) (a0 : Sapi_Policy) (a1 : Int) (a2 : Int) (a3 : Int) : Option Bool := (((rule_Right.f k (⟨a0.f_Ents, a0.f_Groups, a0.f_Who, a0.f_Up, a0.f_Rules⟩ : Sapi_Policy)).bind fun t1 => (cond (!t1) (some (a1, a2, a3, true, a0.f_Ents, a0.f_Groups, a0.f_Who, a0.f_Up, a0.f_Rules)) ((rule_within.f k a1 0 (IntKind.wrap .i64 ((List.length a0.f_Who : Int) - 1))).bind fun t11 => (cond (!t11) (some (a1, a2, a3, true, a0.f_Ents, a0.f_Groups, a0.f_Who, a0.f_Up, a0.f_Rules)) ((rule_within.f k a2 1 3).bind fun t12 => (cond (!t12) (some (a1, a2, a3, true, a0.f_Ents, a0.f_Groups, a0.f_Who, a0.f_Up, a0.f_Rules)) ((rule_within.f k a3 0 (IntKind.wrap .i64 ((List.length a0.f_Ents : Int) - 1))).bind fun t13 => (some (a1, a2, a3, !t13, a0.f_Ents, a0.f_Groups, a0.f_Who, a0.f_Up, a0.f_Rules))))))))) : Option (Int × Int × Int × Bool × List Sapi_Ent × List Int × List Sapi_Who × List Int × List Sapi_Rule)).bind fun y14 => (cond (y14.2.2.2.1) (some false) ((iter (rule_May.l5.once k) k (y14.1, y14.2.1, y14.2.2.1, ([] : List Sapi_Rule), ([] : List Sapi_Rule), y14.2.2.2.2.2.2.2.2, (List.length y14.2.2.2.2.2.2.2.2 : Int), 0, y14.2.2.2.2.1, y14.2.2.2.2.2.1, y14.2.2.2.2.2.2.1, y14.2.2.2.2.2.2.2.1, y14.2.2.2.2.2.2.2.2)).bind fun y47 => (((cond (decide ((List.length y47.1 : Int) > 0)) (some y47.1) (some y47.2)) : Option (List Sapi_Rule)).bind fun y49 => (cond (decide ((List.length y49 : Int) > 0)) ((slices_ContainsFunc_api_Rule_c79.f k y49 ()).bind fun t50 => (some (!t50))) (some false)))))
noncomputable def rule_May.un (s : St U) : Option (Sapi_Policy × Int × Int × Int) := match s.get 0, s.get 1, s.get 2, s.get 3 with | .agg [.row C.Sapi_Ent x1, .row C.u64 x2, .row C.Sapi_Who x3, .row C.i64 x4, .row C.Sapi_Rule x5], .flat (.int .i64 x6), .flat (.int .i64 x7), .flat (.int .i64 x8) => some ((⟨x1, x2, x3, x4, x5⟩ : Sapi_Policy), x6, x7, x8) | _, _, _, _ => none
noncomputable def rule_May.mk (x : (Sapi_Policy × Int × Int × Int)) : St U := ⟨[(0, .agg [.row C.Sapi_Ent x.1.f_Ents, .row C.u64 x.1.f_Groups, .row C.Sapi_Who x.1.f_Who, .row C.i64 x.1.f_Up, .row C.Sapi_Rule x.1.f_Rules]), (1, .flat (.int .i64 x.2.1)), (2, .flat (.int .i64 x.2.2.1)), (3, .flat (.int .i64 x.2.2.2))], []⟩
noncomputable def rule_May.fin (y : Bool) : St U := ⟨[(0, .flat (.bool y))], []⟩
noncomputable def rule_May.D (k : Nat) : FDen U := { X := (Sapi_Policy × Int × Int × Int), Y := Bool, nt := 100, gh := [], un := rule_May.un, f := fun x => rule_May.f k (x.1) (x.2.1) (x.2.2.1) (x.2.2.2), fin := rule_May.fin, cl := true, clo := fun _ _ => rfl }
noncomputable def rule_May.re (s : St U) : Option Bool := match s.get 0 with | .flat (.bool x1) => some x1 | _ => none
noncomputable def rule_May.l5.mk (x : (Int × Int × Int × List Sapi_Rule × List Sapi_Rule × List Sapi_Rule × Int × Int × List Sapi_Ent × List Int × List Sapi_Who × List Int × List Sapi_Rule)) : St U := match x with | (x15, x16, x17, x23, x24, x25, x26, x27, x18, x19, x20, x21, x22) => ⟨[(4, .ptr 4 0), (1, .flat (.int .i64 x15)), (2, .flat (.int .i64 x16)), (3, .flat (.int .i64 x17)), (9, .tip 1005009 C.Sapi_Rule x23), (10, .tip 1005010 C.Sapi_Rule x24), (40, .row C.Sapi_Rule x25), (41, .flat (.int .i64 x26)), (42, .flat (.int .i64 x27))], [(4, .lit [.row C.Sapi_Ent x18, .row C.u64 x19, .row C.Sapi_Who x20, .row C.i64 x21, .row C.Sapi_Rule x22]), (1005009, .tip 12), (1005010, .tip 12)]⟩
noncomputable def rule_May.l5.un (s : St U) : Option (Int × Int × Int × List Sapi_Rule × List Sapi_Rule × List Sapi_Rule × Int × Int × List Sapi_Ent × List Int × List Sapi_Who × List Int × List Sapi_Rule) := (tip_Sapi_Rule s.o 12 (s.get 9)).bind fun q0 => ((tip_Sapi_Rule s.o 12 (s.get 10)).bind fun q1 => ((row_Sapi_Rule (s.get 40)).bind fun q2 => (match s.get 4, s.get 1, s.get 2, s.get 3, s.get 41, s.get 42, lk s.o 4 with | .ptr 4 0, .flat (.int .i64 x15), .flat (.int .i64 x16), .flat (.int .i64 x17), .flat (.int .i64 x26), .flat (.int .i64 x27), some (.lit [u4_0, u4_1, u4_2, u4_3, u4_4]) => (row_Sapi_Ent u4_0).bind fun w4_0 => ((row_u64 u4_1).bind fun w4_1 => ((row_Sapi_Who u4_2).bind fun w4_2 => ((row_i64 u4_3).bind fun w4_3 => ((row_Sapi_Rule u4_4).bind fun w4_4 => (cond (apart [q0.1, q1.1]) (some (x15, x16, x17, q0.2, q1.2, q2, x26, x27, w4_0, w4_1, w4_2, w4_3, w4_4)) none))))) | _, _, _, _, _, _, _ => none)))
noncomputable def rule_May.l5.fin (y : (List Sapi_Rule × List Sapi_Rule)) : Out U := match y with | (x45, x46) => .exit 0 ⟨[(9, .tip 1005009 C.Sapi_Rule x45), (10, .tip 1005010 C.Sapi_Rule x46)], [(1005009, .tip 12), (1005010, .tip 12)]⟩
noncomputable def rule_May.l5.finK {ρ : Type} (y : (List Sapi_Rule × List Sapi_Rule)) (K : Out U → Option ρ) : Option ρ := match y with | (x45, x46) => K (.exit 0 ⟨[(9, .tip 1005009 C.Sapi_Rule x45), (10, .tip 1005010 C.Sapi_Rule x46)], [(1005009, .tip 12), (1005010, .tip 12)]⟩)
theorem rule_May.l5.finK_eq {ρ : Type} (y : (List Sapi_Rule × List Sapi_Rule)) (K : Out U → Option ρ) : rule_May.l5.finK y K = K (rule_May.l5.fin y) := by
  unfold rule_May.l5.finK rule_May.l5.fin
  first | rfl | (split <;> rfl)
noncomputable def rule_May.l5.re : Out U → Option ((List Sapi_Rule × List Sapi_Rule)) | .exit 0 s => ((tip_Sapi_Rule s.o 12 (s.get 9)).bind fun q0 => ((tip_Sapi_Rule s.o 12 (s.get 10)).bind fun q1 => (cond (apart [q0.1, q1.1]) (some (q0.2, q1.2)) none))) | _ => none
noncomputable def rule_May.l5.L (k : Nat) : LDen U := { X := (Int × Int × Int × List Sapi_Rule × List Sapi_Rule × List Sapi_Rule × Int × Int × List Sapi_Ent × List Int × List Sapi_Who × List Int × List Sapi_Rule), Y := (List Sapi_Rule × List Sapi_Rule), un := rule_May.l5.un, f := iter (rule_May.l5.once k) k, fin := rule_May.l5.fin, finK := rule_May.l5.finK, finK_eq := rule_May.l5.finK_eq }
noncomputable def rule_May.j1000.fin (y : (Int × Int × Int × Bool × List Sapi_Ent × List Int × List Sapi_Who × List Int × List Sapi_Rule)) : Out U := match y with | (x2, x3, x4, x10, x5, x6, x7, x8, x9) => .norm ⟨[(4, .ptr 4 0), (1, .flat (.int .i64 x2)), (2, .flat (.int .i64 x3)), (3, .flat (.int .i64 x4)), (38, .flat (.bool x10))], [(4, .lit [.row C.Sapi_Ent x5, .row C.u64 x6, .row C.Sapi_Who x7, .row C.i64 x8, .row C.Sapi_Rule x9])]⟩
noncomputable def rule_May.j1000.finK {ρ : Type} (y : (Int × Int × Int × Bool × List Sapi_Ent × List Int × List Sapi_Who × List Int × List Sapi_Rule)) (K : Out U → Option ρ) : Option ρ := match y with | (x2, x3, x4, x10, x5, x6, x7, x8, x9) => K (.norm ⟨[(4, .ptr 4 0), (1, .flat (.int .i64 x2)), (2, .flat (.int .i64 x3)), (3, .flat (.int .i64 x4)), (38, .flat (.bool x10))], [(4, .lit [.row C.Sapi_Ent x5, .row C.u64 x6, .row C.Sapi_Who x7, .row C.i64 x8, .row C.Sapi_Rule x9])]⟩)
theorem rule_May.j1000.finK_eq {ρ : Type} (y : (Int × Int × Int × Bool × List Sapi_Ent × List Int × List Sapi_Who × List Int × List Sapi_Rule)) (K : Out U → Option ρ) : rule_May.j1000.finK y K = K (rule_May.j1000.fin y) := by
  unfold rule_May.j1000.finK rule_May.j1000.fin
  first | rfl | (split <;> rfl)
noncomputable def rule_May.j1000.re : Out U → Option ((Int × Int × Int × Bool × List Sapi_Ent × List Int × List Sapi_Who × List Int × List Sapi_Rule)) | .norm s => (match s.get 4, s.get 1, s.get 2, s.get 3, s.get 38, lk s.o 4 with | .ptr 4 0, .flat (.int .i64 x2), .flat (.int .i64 x3), .flat (.int .i64 x4), .flat (.bool x10), some (.lit [u4_0, u4_1, u4_2, u4_3, u4_4]) => (row_Sapi_Ent u4_0).bind fun w4_0 => ((row_u64 u4_1).bind fun w4_1 => ((row_Sapi_Who u4_2).bind fun w4_2 => ((row_i64 u4_3).bind fun w4_3 => ((row_Sapi_Rule u4_4).bind fun w4_4 => (some (x2, x3, x4, x10, w4_0, w4_1, w4_2, w4_3, w4_4)))))) | _, _, _, _, _, _ => none) | _ => none
noncomputable def rule_May.j1000.J : JDen U := { Y := (Int × Int × Int × Bool × List Sapi_Ent × List Int × List Sapi_Who × List Int × List Sapi_Rule), re := rule_May.j1000.re, fin := rule_May.j1000.fin, finK := rule_May.j1000.finK, finK_eq := rule_May.j1000.finK_eq }
theorem rule_May.j1000.fit (o : Out U) (y : (Int × Int × Int × Bool × List Sapi_Ent × List Int × List Sapi_Who × List Int × List Sapi_Rule)) (h : rule_May.j1000.re o = some y) : FitsO o (rule_May.j1000.fin y) := by
  unfold rule_May.j1000.re at h
  split at h
  · split at h
    · obtain ⟨w4_0, ew4_0, h1⟩ := Option.bind_eq_some_iff.1 h
      obtain ⟨w4_1, ew4_1, h2⟩ := Option.bind_eq_some_iff.1 h1
      obtain ⟨w4_2, ew4_2, h3⟩ := Option.bind_eq_some_iff.1 h2
      obtain ⟨w4_3, ew4_3, h4⟩ := Option.bind_eq_some_iff.1 h3
      obtain ⟨w4_4, ew4_4, h5⟩ := Option.bind_eq_some_iff.1 h4
      cases h5
      refine fitsO_norm (fits_ren [] ?_ ?_ ren_nil rfl)
      · exact List.forall_mem_cons.2 ⟨FV.one (FV.ptr (by assumption)), List.forall_mem_cons.2 ⟨FV.one (FV.same (by assumption) rfl), List.forall_mem_cons.2 ⟨FV.one (FV.same (by assumption) rfl), List.forall_mem_cons.2 ⟨FV.one (FV.same (by assumption) rfl), List.forall_mem_cons.2 ⟨FV.one (FV.same (by assumption) rfl), fun _ hp => (List.not_mem_nil hp).elim⟩⟩⟩⟩⟩
      · exact List.forall_mem_cons.2 ⟨(FO.cells (show lk (St.o _) 4 = some _ from by assumption) (FCs.cons (row_Sapi_Ent_fit ew4_0) (FCs.cons (row_u64_fit ew4_1) (FCs.cons (row_Sapi_Who_fit ew4_2) (FCs.cons (row_i64_fit ew4_3) (FCs.cons (row_Sapi_Rule_fit ew4_4) (FCs.nil))))))), fun _ hp => (List.not_mem_nil hp).elim⟩
    · cases h
  · cases h
noncomputable def rule_May.j7000.fin (y : (Int × Int × Int × List Sapi_Rule × List Sapi_Rule × List Sapi_Rule × Int × Int × Bool × List Sapi_Ent × List Int × List Sapi_Who × List Int × List Sapi_Rule × Sapi_Rule)) : Out U := match y with | (x28, x29, x30, x36, x37, x39, x40, x41, x42, x31, x32, x33, x34, x35, x38) => .norm ⟨[(4, .ptr 4 0), (12, .ptr 12 0), (1, .flat (.int .i64 x28)), (2, .flat (.int .i64 x29)), (3, .flat (.int .i64 x30)), (9, .tip 1008000009 C.Sapi_Rule x36), (10, .tip 1008000010 C.Sapi_Rule x37), (40, .row C.Sapi_Rule x39), (41, .flat (.int .i64 x40)), (42, .flat (.int .i64 x41)), (46, .flat (.bool x42))], [(4, .lit [.row C.Sapi_Ent x31, .row C.u64 x32, .row C.Sapi_Who x33, .row C.i64 x34, .row C.Sapi_Rule x35]), (1008000009, .tip 12), (1008000010, .tip 12), (12, .lit (cd_Sapi_Rule.enc x38))]⟩
noncomputable def rule_May.j7000.finK {ρ : Type} (y : (Int × Int × Int × List Sapi_Rule × List Sapi_Rule × List Sapi_Rule × Int × Int × Bool × List Sapi_Ent × List Int × List Sapi_Who × List Int × List Sapi_Rule × Sapi_Rule)) (K : Out U → Option ρ) : Option ρ := match y with | (x28, x29, x30, x36, x37, x39, x40, x41, x42, x31, x32, x33, x34, x35, x38) => K (.norm ⟨[(4, .ptr 4 0), (12, .ptr 12 0), (1, .flat (.int .i64 x28)), (2, .flat (.int .i64 x29)), (3, .flat (.int .i64 x30)), (9, .tip 1008000009 C.Sapi_Rule x36), (10, .tip 1008000010 C.Sapi_Rule x37), (40, .row C.Sapi_Rule x39), (41, .flat (.int .i64 x40)), (42, .flat (.int .i64 x41)), (46, .flat (.bool x42))], [(4, .lit [.row C.Sapi_Ent x31, .row C.u64 x32, .row C.Sapi_Who x33, .row C.i64 x34, .row C.Sapi_Rule x35]), (1008000009, .tip 12), (1008000010, .tip 12), (12, .lit (cd_Sapi_Rule.enc x38))]⟩)
theorem rule_May.j7000.finK_eq {ρ : Type} (y : (Int × Int × Int × List Sapi_Rule × List Sapi_Rule × List Sapi_Rule × Int × Int × Bool × List Sapi_Ent × List Int × List Sapi_Who × List Int × List Sapi_Rule × Sapi_Rule)) (K : Out U → Option ρ) : rule_May.j7000.finK y K = K (rule_May.j7000.fin y) := by
  unfold rule_May.j7000.finK rule_May.j7000.fin
  first | rfl | (split <;> rfl)
noncomputable def rule_May.j7000.re : Out U → Option ((Int × Int × Int × List Sapi_Rule × List Sapi_Rule × List Sapi_Rule × Int × Int × Bool × List Sapi_Ent × List Int × List Sapi_Who × List Int × List Sapi_Rule × Sapi_Rule)) | .norm s => ((tip_Sapi_Rule s.o 12 (s.get 9)).bind fun q0 => ((tip_Sapi_Rule s.o 12 (s.get 10)).bind fun q1 => ((row_Sapi_Rule (s.get 40)).bind fun q2 => ((Cd.ofLit cd_Sapi_Rule s.o 12).bind fun q3 => (match s.get 4, s.get 12, s.get 1, s.get 2, s.get 3, s.get 41, s.get 42, s.get 46, lk s.o 4 with | .ptr 4 0, .ptr 12 0, .flat (.int .i64 x28), .flat (.int .i64 x29), .flat (.int .i64 x30), .flat (.int .i64 x40), .flat (.int .i64 x41), .flat (.bool x42), some (.lit [u4_0, u4_1, u4_2, u4_3, u4_4]) => (row_Sapi_Ent u4_0).bind fun w4_0 => ((row_u64 u4_1).bind fun w4_1 => ((row_Sapi_Who u4_2).bind fun w4_2 => ((row_i64 u4_3).bind fun w4_3 => ((row_Sapi_Rule u4_4).bind fun w4_4 => (cond (apart [q0.1, q1.1]) (some (x28, x29, x30, q0.2, q1.2, q2, x40, x41, x42, w4_0, w4_1, w4_2, w4_3, w4_4, q3)) none))))) | _, _, _, _, _, _, _, _, _ => none))))) | _ => none
noncomputable def rule_May.j7000.J : JDen U := { Y := (Int × Int × Int × List Sapi_Rule × List Sapi_Rule × List Sapi_Rule × Int × Int × Bool × List Sapi_Ent × List Int × List Sapi_Who × List Int × List Sapi_Rule × Sapi_Rule), re := rule_May.j7000.re, fin := rule_May.j7000.fin, finK := rule_May.j7000.finK, finK_eq := rule_May.j7000.finK_eq }
theorem rule_May.j7000.fit (o : Out U) (y : (Int × Int × Int × List Sapi_Rule × List Sapi_Rule × List Sapi_Rule × Int × Int × Bool × List Sapi_Ent × List Int × List Sapi_Who × List Int × List Sapi_Rule × Sapi_Rule)) (h : rule_May.j7000.re o = some y) : FitsO o (rule_May.j7000.fin y) := by
  unfold rule_May.j7000.re at h
  split at h
  · obtain ⟨q0, eq0, h1⟩ := Option.bind_eq_some_iff.1 h
    obtain ⟨q1, eq1, h2⟩ := Option.bind_eq_some_iff.1 h1
    obtain ⟨q2, eq2, h3⟩ := Option.bind_eq_some_iff.1 h2
    obtain ⟨q3, eq3, h4⟩ := Option.bind_eq_some_iff.1 h3
    split at h4
    · obtain ⟨w4_0, ew4_0, h5⟩ := Option.bind_eq_some_iff.1 h4
      obtain ⟨w4_1, ew4_1, h6⟩ := Option.bind_eq_some_iff.1 h5
      obtain ⟨w4_2, ew4_2, h7⟩ := Option.bind_eq_some_iff.1 h6
      obtain ⟨w4_3, ew4_3, h8⟩ := Option.bind_eq_some_iff.1 h7
      obtain ⟨w4_4, ew4_4, h9⟩ := Option.bind_eq_some_iff.1 h8
      obtain ⟨hap, h10⟩ := cond_none h9
      cases h10
      refine fitsO_norm (fits_ren [(1008000009, q0.1), (1008000010, q1.1)] ?_ ?_ (ren_apart hap) rfl)
      · exact List.forall_mem_cons.2 ⟨FV.one (FV.ptr (by assumption)), List.forall_mem_cons.2 ⟨FV.one (FV.ptr (by assumption)), List.forall_mem_cons.2 ⟨FV.one (FV.same (by assumption) rfl), List.forall_mem_cons.2 ⟨FV.one (FV.same (by assumption) rfl), List.forall_mem_cons.2 ⟨FV.one (FV.same (by assumption) rfl), List.forall_mem_cons.2 ⟨FV.one (tip_Sapi_Rule_fit eq0 rfl).1, List.forall_mem_cons.2 ⟨FV.one (tip_Sapi_Rule_fit eq1 rfl).1, List.forall_mem_cons.2 ⟨FV.one (row_Sapi_Rule_fit eq2), List.forall_mem_cons.2 ⟨FV.one (FV.same (by assumption) rfl), List.forall_mem_cons.2 ⟨FV.one (FV.same (by assumption) rfl), List.forall_mem_cons.2 ⟨FV.one (FV.same (by assumption) rfl), fun _ hp => (List.not_mem_nil hp).elim⟩⟩⟩⟩⟩⟩⟩⟩⟩⟩⟩
      · exact List.forall_mem_cons.2 ⟨(FO.cells (show lk (St.o _) 4 = some _ from by assumption) (FCs.cons (row_Sapi_Ent_fit ew4_0) (FCs.cons (row_u64_fit ew4_1) (FCs.cons (row_Sapi_Who_fit ew4_2) (FCs.cons (row_i64_fit ew4_3) (FCs.cons (row_Sapi_Rule_fit ew4_4) (FCs.nil))))))), List.forall_mem_cons.2 ⟨(tip_Sapi_Rule_fit eq0 rfl).2, List.forall_mem_cons.2 ⟨(tip_Sapi_Rule_fit eq1 rfl).2, List.forall_mem_cons.2 ⟨(FO.same (Cd.ofLit_ok eq3) rfl), fun _ hp => (List.not_mem_nil hp).elim⟩⟩⟩⟩
    · cases h4
  · cases h
noncomputable def rule_May.j14001.fin (y : List Sapi_Rule) : Out U := match y with | x48 => .norm ⟨[(10, .tip 1015001010 C.Sapi_Rule x48)], [(1015001010, .tip 12)]⟩
noncomputable def rule_May.j14001.finK {ρ : Type} (y : List Sapi_Rule) (K : Out U → Option ρ) : Option ρ := match y with | x48 => K (.norm ⟨[(10, .tip 1015001010 C.Sapi_Rule x48)], [(1015001010, .tip 12)]⟩)
theorem rule_May.j14001.finK_eq {ρ : Type} (y : List Sapi_Rule) (K : Out U → Option ρ) : rule_May.j14001.finK y K = K (rule_May.j14001.fin y) := by
  unfold rule_May.j14001.finK rule_May.j14001.fin
  first | rfl | (split <;> rfl)
noncomputable def rule_May.j14001.re : Out U → Option (List Sapi_Rule) | .norm s => ((tip_Sapi_Rule s.o 12 (s.get 10)).bind fun q0 => (some q0.2)) | _ => none
noncomputable def rule_May.j14001.J : JDen U := { Y := List Sapi_Rule, re := rule_May.j14001.re, fin := rule_May.j14001.fin, finK := rule_May.j14001.finK, finK_eq := rule_May.j14001.finK_eq }
theorem rule_May.j14001.fit (o : Out U) (y : List Sapi_Rule) (h : rule_May.j14001.re o = some y) : FitsO o (rule_May.j14001.fin y) := by
  unfold rule_May.j14001.re at h
  split at h
  · obtain ⟨q0, eq0, h1⟩ := Option.bind_eq_some_iff.1 h
    cases h1
    refine fitsO_norm (fits_ren [(1015001010, q0.1)] ?_ ?_ ren_one rfl)
    · exact List.forall_mem_cons.2 ⟨FV.one (tip_Sapi_Rule_fit eq0 rfl).1, fun _ hp => (List.not_mem_nil hp).elim⟩
    · exact List.forall_mem_cons.2 ⟨(tip_Sapi_Rule_fit eq0 rfl).2, fun _ hp => (List.not_mem_nil hp).elim⟩
  · cases h
noncomputable def rule_May.jl : List (Nat × JDen U) := [(1000, rule_May.j1000.J), (7000, rule_May.j7000.J), (14001, rule_May.j14001.J)]
noncomputable def rule_May.fl (k : Nat) : List (Nat × FDen U) := [(53, rule_Right.D k), (76, rule_within.D k), (77, role_Has.D k), (78, slices_ContainsFunc_api_Rule_c79.D k)]
noncomputable def rule_May.ll (k : Nat) : List (Nat × LDen U) := [(5, rule_May.l5.L k)]
noncomputable def rule_May.E (k : Nat) : Env U := { P := Try.prog, D := DD, fd := lk (rule_May.fl k), ld := lk (rule_May.ll k), jd := lk rule_May.jl, mode := lk [], elc := lk ec, mpc := lk mc, rts := Try.f43.resultTypes.toList, dyn := fun t => false, vecs := fun d => false, results := Try.f43.results.toList, gh := [], own := false, io := fun g i => false }
theorem rule_May.ok (k : Nat) : EnvOk (rule_May.E k) := envOk lawful (rule_May.fl k) (rule_May.ll k) rule_May.jl _ _ _ _ _ _ _ _ _ _ (by
  intro p hp
  simp only [rule_May.fl, List.mem_cons, List.not_mem_nil, or_false] at hp
  rcases hp with rfl | rfl | rfl | rfl
  · exact ⟨rule_Right.sound k, enter_of Try.func53 (by kernel_rfl) (by kernel_rfl)⟩
  · exact ⟨rule_within.sound k, enter_of Try.func76 (by kernel_rfl) (by kernel_rfl)⟩
  · exact ⟨role_Has.sound k, enter_of Try.func77 (by kernel_rfl) (by kernel_rfl)⟩
  · exact ⟨slices_ContainsFunc_api_Rule_c79.sound k, enter_of Try.func78 (by kernel_rfl) (by kernel_rfl)⟩) (by
  intro p hp
  simp only [rule_May.jl, List.mem_cons, List.not_mem_nil, or_false] at hp
  rcases hp with rfl | rfl | rfl
  · exact rule_May.j1000.fit
  · exact rule_May.j7000.fit
  · exact rule_May.j14001.fit)
theorem rule_May.l5.eq (k : Nat) (x : (Int × Int × Int × List Sapi_Rule × List Sapi_Rule × List Sapi_Rule × Int × Int × List Sapi_Ent × List Int × List Sapi_Who × List Int × List Sapi_Rule)) : evC (rule_May.E k) (loopAt Try.f43 5) (rule_May.l5.mk x) (headK rule_May.l5.un rule_May.l5.re) = rule_May.l5.once k x := by kernel_rfl
theorem rule_May.l5.fit (s : St U) (x : (Int × Int × Int × List Sapi_Rule × List Sapi_Rule × List Sapi_Rule × Int × Int × List Sapi_Ent × List Int × List Sapi_Who × List Int × List Sapi_Rule)) (h : rule_May.l5.un s = some x) : Fits s (rule_May.l5.mk x) := by
  unfold rule_May.l5.un at h
  obtain ⟨q0, eq0, h1⟩ := Option.bind_eq_some_iff.1 h
  obtain ⟨q1, eq1, h2⟩ := Option.bind_eq_some_iff.1 h1
  obtain ⟨q2, eq2, h3⟩ := Option.bind_eq_some_iff.1 h2
  split at h3
  · obtain ⟨w4_0, ew4_0, h4⟩ := Option.bind_eq_some_iff.1 h3
    obtain ⟨w4_1, ew4_1, h5⟩ := Option.bind_eq_some_iff.1 h4
    obtain ⟨w4_2, ew4_2, h6⟩ := Option.bind_eq_some_iff.1 h5
    obtain ⟨w4_3, ew4_3, h7⟩ := Option.bind_eq_some_iff.1 h6
    obtain ⟨w4_4, ew4_4, h8⟩ := Option.bind_eq_some_iff.1 h7
    obtain ⟨hap, h9⟩ := cond_none h8
    cases h9
    refine fits_ren [(1005009, q0.1), (1005010, q1.1)] ?_ ?_ (ren_apart hap) rfl
    · exact List.forall_mem_cons.2 ⟨FV.one (FV.ptr (by assumption)), List.forall_mem_cons.2 ⟨FV.one (FV.same (by assumption) rfl), List.forall_mem_cons.2 ⟨FV.one (FV.same (by assumption) rfl), List.forall_mem_cons.2 ⟨FV.one (FV.same (by assumption) rfl), List.forall_mem_cons.2 ⟨FV.one (tip_Sapi_Rule_fit eq0 rfl).1, List.forall_mem_cons.2 ⟨FV.one (tip_Sapi_Rule_fit eq1 rfl).1, List.forall_mem_cons.2 ⟨FV.one (row_Sapi_Rule_fit eq2), List.forall_mem_cons.2 ⟨FV.one (FV.same (by assumption) rfl), List.forall_mem_cons.2 ⟨FV.one (FV.same (by assumption) rfl), fun _ hp => (List.not_mem_nil hp).elim⟩⟩⟩⟩⟩⟩⟩⟩⟩
    · exact List.forall_mem_cons.2 ⟨(FO.cells (show lk (St.o _) 4 = some _ from by assumption) (FCs.cons (row_Sapi_Ent_fit ew4_0) (FCs.cons (row_u64_fit ew4_1) (FCs.cons (row_Sapi_Who_fit ew4_2) (FCs.cons (row_i64_fit ew4_3) (FCs.cons (row_Sapi_Rule_fit ew4_4) (FCs.nil))))))), List.forall_mem_cons.2 ⟨(tip_Sapi_Rule_fit eq0 rfl).2, List.forall_mem_cons.2 ⟨(tip_Sapi_Rule_fit eq1 rfl).2, fun _ hp => (List.not_mem_nil hp).elim⟩⟩⟩
  · cases h3
theorem rule_May.l5.fitO (o : Out U) (y : (List Sapi_Rule × List Sapi_Rule)) (h : rule_May.l5.re o = some y) : FitsO o (rule_May.l5.fin y) := by
  unfold rule_May.l5.re at h
  split at h
  · obtain ⟨q0, eq0, h1⟩ := Option.bind_eq_some_iff.1 h
    obtain ⟨q1, eq1, h2⟩ := Option.bind_eq_some_iff.1 h1
    obtain ⟨hap, h3⟩ := cond_none h2
    cases h3
    refine fitsO_exit (fits_ren [(1005009, q0.1), (1005010, q1.1)] ?_ ?_ (ren_apart hap) rfl)
    · exact List.forall_mem_cons.2 ⟨FV.one (tip_Sapi_Rule_fit eq0 rfl).1, List.forall_mem_cons.2 ⟨FV.one (tip_Sapi_Rule_fit eq1 rfl).1, fun _ hp => (List.not_mem_nil hp).elim⟩⟩
    · exact List.forall_mem_cons.2 ⟨(tip_Sapi_Rule_fit eq0 rfl).2, List.forall_mem_cons.2 ⟨(tip_Sapi_Rule_fit eq1 rfl).2, fun _ hp => (List.not_mem_nil hp).elim⟩⟩
  · cases h
theorem rule_May.l5.sound (k : Nat) : LSound (rule_May.E k) Try.f43.ntmps Try.f43 (loopAt Try.f43 5) (rule_May.l5.L k) :=
  loop_sound (rule_May.ok k) mixed rfl (by kernel_rfl) (allL_of (l := []) (by kernel_rfl) allL_nil) rule_May.l5.un rule_May.l5.mk rule_May.l5.fin rule_May.l5.re (rule_May.l5.once k) k rule_May.l5.fit rule_May.l5.fitO (rule_May.l5.eq k) rule_May.l5.finK rule_May.l5.finK_eq
theorem rule_May.eq (k : Nat) (x : (Sapi_Policy × Int × Int × Int)) : runF (rule_May.E k) (codeOf Try.f43) (rule_May.mk x) rule_May.re = (rule_May.D k).f x := by kernel_rfl
theorem rule_May.fit (s : St U) (x : (Sapi_Policy × Int × Int × Int)) (h : rule_May.un s = some x) : Fits s (rule_May.mk x) := by
  unfold rule_May.un at h
  split at h
  · cases h
    refine fits_ren [] ?_ ?_ ren_nil rfl
    · exact List.forall_mem_cons.2 ⟨FV.one (FV.same (by assumption) rfl), List.forall_mem_cons.2 ⟨FV.one (FV.same (by assumption) rfl), List.forall_mem_cons.2 ⟨FV.one (FV.same (by assumption) rfl), List.forall_mem_cons.2 ⟨FV.one (FV.same (by assumption) rfl), fun _ hp => (List.not_mem_nil hp).elim⟩⟩⟩⟩
    · exact fun _ hp => (List.not_mem_nil hp).elim
  · cases h
theorem rule_May.fitR (s : St U) (y : Bool) (h : rule_May.re s = some y) : Fits s (rule_May.fin y) := by
  unfold rule_May.re at h
  split at h
  · cases h
    refine fits_ren [] ?_ ?_ ren_nil rfl
    · exact List.forall_mem_cons.2 ⟨FV.one (FV.same (by assumption) rfl), fun _ hp => (List.not_mem_nil hp).elim⟩
    · exact fun _ hp => (List.not_mem_nil hp).elim
  · cases h
theorem rule_May.sound (k : Nat) : Sound Try.prog DD 43 (rule_May.D k) :=
  fun_sound (E := rule_May.E k) (fn := Try.f43) (c := codeOf Try.f43) (rule_May.ok k) mixed rfl Try.func43 (by kernel_rfl) (by kernel_rfl) (allL_of (l := [loopAt Try.f43 5]) (by kernel_rfl) (allL_cons (key := 5) (by kernel_rfl) rfl (rule_May.l5.sound k) allL_nil)) (rule_May.D k) rule_May.mk rule_May.re (by kernel_rfl) (by kernel_rfl) rule_May.fit rule_May.fitR (rule_May.eq k)
/-! ### pyx/pyxlaw10.small: function 51 -/
noncomputable def pyxlaw10_small.f (k : Nat)  : Option Sapi_Policy := some (⟨[(⟨1, 0, (-1), 10000⟩ : Sapi_Ent), (⟨2, 0, 0, 5000⟩ : Sapi_Ent)], [3], [(⟨(⟨3, 2⟩ : Sapi_Label), 1⟩ : Sapi_Who), (⟨(⟨1, 1⟩ : Sapi_Label), 0⟩ : Sapi_Who)], [(-1)], ([] : List Sapi_Rule)⟩ : Sapi_Policy)
noncomputable def pyxlaw10_small.un (s : St U) : Option Unit := some ()
noncomputable def pyxlaw10_small.mk (x : Unit) : St U := ⟨[], []⟩
noncomputable def pyxlaw10_small.fin (y : Sapi_Policy) : St U := ⟨[(0, .agg [.row C.Sapi_Ent y.f_Ents, .row C.u64 y.f_Groups, .row C.Sapi_Who y.f_Who, .row C.i64 y.f_Up, .row C.Sapi_Rule y.f_Rules])], []⟩
noncomputable def pyxlaw10_small.D (k : Nat) : FDen U := { X := Unit, Y := Sapi_Policy, nt := 12, gh := [], un := pyxlaw10_small.un, f := fun x => pyxlaw10_small.f k , fin := pyxlaw10_small.fin, cl := true, clo := fun _ _ => rfl }
noncomputable def pyxlaw10_small.re (s : St U) : Option Sapi_Policy := match s.get 0 with | .agg [.row C.Sapi_Ent x1, .row C.u64 x2, .row C.Sapi_Who x3, .row C.i64 x4, .row C.Sapi_Rule x5] => some (⟨x1, x2, x3, x4, x5⟩ : Sapi_Policy) | _ => none
noncomputable def pyxlaw10_small.jl : List (Nat × JDen U) := []
noncomputable def pyxlaw10_small.fl (k : Nat) : List (Nat × FDen U) := []
noncomputable def pyxlaw10_small.ll (k : Nat) : List (Nat × LDen U) := []
noncomputable def pyxlaw10_small.E (k : Nat) : Env U := { P := Try.prog, D := DD, fd := lk (pyxlaw10_small.fl k), ld := lk (pyxlaw10_small.ll k), jd := lk pyxlaw10_small.jl, mode := lk [], elc := lk ec, mpc := lk mc, rts := Try.f51.resultTypes.toList, dyn := fun t => false, vecs := fun d => false, results := Try.f51.results.toList, gh := [], own := false, io := fun g i => false }
theorem pyxlaw10_small.ok (k : Nat) : EnvOk (pyxlaw10_small.E k) := envOk lawful (pyxlaw10_small.fl k) (pyxlaw10_small.ll k) pyxlaw10_small.jl _ _ _ _ _ _ _ _ _ _ (by
  intro p hp
  simp [pyxlaw10_small.fl] at hp) (by
  intro p hp
  simp [pyxlaw10_small.jl] at hp)
theorem pyxlaw10_small.eq (k : Nat) (x : Unit) : runF (pyxlaw10_small.E k) (codeOf Try.f51) (pyxlaw10_small.mk x) pyxlaw10_small.re = (pyxlaw10_small.D k).f x := by kernel_rfl
theorem pyxlaw10_small.fit (s : St U) (x : Unit) (h : pyxlaw10_small.un s = some x) : Fits s (pyxlaw10_small.mk x) := by
  unfold pyxlaw10_small.un at h
  cases h
  refine fits_ren [] ?_ ?_ ren_nil rfl
  · exact fun _ hp => (List.not_mem_nil hp).elim
  · exact fun _ hp => (List.not_mem_nil hp).elim
theorem pyxlaw10_small.fitR (s : St U) (y : Sapi_Policy) (h : pyxlaw10_small.re s = some y) : Fits s (pyxlaw10_small.fin y) := by
  unfold pyxlaw10_small.re at h
  split at h
  · cases h
    refine fits_ren [] ?_ ?_ ren_nil rfl
    · exact List.forall_mem_cons.2 ⟨FV.one (FV.same (by assumption) rfl), fun _ hp => (List.not_mem_nil hp).elim⟩
    · exact fun _ hp => (List.not_mem_nil hp).elim
  · cases h
theorem pyxlaw10_small.sound (k : Nat) : Sound Try.prog DD 51 (pyxlaw10_small.D k) :=
  fun_sound (E := pyxlaw10_small.E k) (fn := Try.f51) (c := codeOf Try.f51) (pyxlaw10_small.ok k) mixed rfl Try.func51 (by kernel_rfl) (by kernel_rfl) (allL_of (l := []) (by kernel_rfl) allL_nil) (pyxlaw10_small.D k) pyxlaw10_small.mk pyxlaw10_small.re (by kernel_rfl) (by kernel_rfl) pyxlaw10_small.fit pyxlaw10_small.fitR (pyxlaw10_small.eq k)
/-! ### pyx/pyxlaw10.known: function 44 -/
noncomputable def pyxlaw10_known.f (k : Nat)  : Option Bool := (pyxlaw10_small.f k).bind fun t1 => ((rule_May.f k (⟨t1.f_Ents, t1.f_Groups, t1.f_Who, t1.f_Up, t1.f_Rules⟩ : Sapi_Policy) 0 1 0).bind fun t2 => (cond (!t2) ((rule_Right.f k (⟨t1.f_Ents, t1.f_Groups, t1.f_Who, t1.f_Up, [(⟨1, 0, 1, (-1), 0, 0, (⟨false, (0, 0), 0⟩ : Sapi_Dec), (⟨0, 0⟩ : Sapi_Label)⟩ : Sapi_Rule)]⟩ : Sapi_Policy)).bind fun t3 => (cond (t3) ((rule_May.f k (⟨t1.f_Ents, t1.f_Groups, t1.f_Who, t1.f_Up, [(⟨1, 0, 1, (-1), 0, 0, (⟨false, (0, 0), 0⟩ : Sapi_Dec), (⟨0, 0⟩ : Sapi_Label)⟩ : Sapi_Rule)]⟩ : Sapi_Policy) 0 1 0).bind fun t4 => (cond (t4) ((rule_May.f k (⟨t1.f_Ents, t1.f_Groups, t1.f_Who, t1.f_Up, [(⟨1, 0, 1, (-1), 0, 0, (⟨false, (0, 0), 0⟩ : Sapi_Dec), (⟨0, 0⟩ : Sapi_Label)⟩ : Sapi_Rule)]⟩ : Sapi_Policy) 1 1 0).bind fun t5 => (some (!t5))) (some false))) (some false))) (some false)))
noncomputable def pyxlaw10_known.un (s : St U) : Option Unit := some ()
noncomputable def pyxlaw10_known.mk (x : Unit) : St U := ⟨[], []⟩
noncomputable def pyxlaw10_known.fin (y : Bool) : St U := ⟨[(0, .flat (.bool y))], []⟩
noncomputable def pyxlaw10_known.D (k : Nat) : FDen U := { X := Unit, Y := Bool, nt := 24, gh := [], un := pyxlaw10_known.un, f := fun x => pyxlaw10_known.f k , fin := pyxlaw10_known.fin, cl := true, clo := fun _ _ => rfl }
noncomputable def pyxlaw10_known.re (s : St U) : Option Bool := match s.get 0 with | .flat (.bool x1) => some x1 | _ => none
noncomputable def pyxlaw10_known.jl : List (Nat × JDen U) := []
noncomputable def pyxlaw10_known.fl (k : Nat) : List (Nat × FDen U) := [(51, pyxlaw10_small.D k), (43, rule_May.D k), (53, rule_Right.D k)]
noncomputable def pyxlaw10_known.ll (k : Nat) : List (Nat × LDen U) := []
noncomputable def pyxlaw10_known.E (k : Nat) : Env U := { P := Try.prog, D := DD, fd := lk (pyxlaw10_known.fl k), ld := lk (pyxlaw10_known.ll k), jd := lk pyxlaw10_known.jl, mode := lk [], elc := lk ec, mpc := lk mc, rts := Try.f44.resultTypes.toList, dyn := fun t => false, vecs := fun d => false, results := Try.f44.results.toList, gh := [], own := false, io := fun g i => false }
theorem pyxlaw10_known.ok (k : Nat) : EnvOk (pyxlaw10_known.E k) := envOk lawful (pyxlaw10_known.fl k) (pyxlaw10_known.ll k) pyxlaw10_known.jl _ _ _ _ _ _ _ _ _ _ (by
  intro p hp
  simp only [pyxlaw10_known.fl, List.mem_cons, List.not_mem_nil, or_false] at hp
  rcases hp with rfl | rfl | rfl
  · exact ⟨pyxlaw10_small.sound k, enter_of Try.func51 (by kernel_rfl) (by kernel_rfl)⟩
  · exact ⟨rule_May.sound k, enter_of Try.func43 (by kernel_rfl) (by kernel_rfl)⟩
  · exact ⟨rule_Right.sound k, enter_of Try.func53 (by kernel_rfl) (by kernel_rfl)⟩) (by
  intro p hp
  simp [pyxlaw10_known.jl] at hp)
theorem pyxlaw10_known.eq (k : Nat) (x : Unit) : runF (pyxlaw10_known.E k) (codeOf Try.f44) (pyxlaw10_known.mk x) pyxlaw10_known.re = (pyxlaw10_known.D k).f x := by kernel_rfl
theorem pyxlaw10_known.fit (s : St U) (x : Unit) (h : pyxlaw10_known.un s = some x) : Fits s (pyxlaw10_known.mk x) := by
  unfold pyxlaw10_known.un at h
  cases h
  refine fits_ren [] ?_ ?_ ren_nil rfl
  · exact fun _ hp => (List.not_mem_nil hp).elim
  · exact fun _ hp => (List.not_mem_nil hp).elim
theorem pyxlaw10_known.fitR (s : St U) (y : Bool) (h : pyxlaw10_known.re s = some y) : Fits s (pyxlaw10_known.fin y) := by
  unfold pyxlaw10_known.re at h
  split at h
  · cases h
    refine fits_ren [] ?_ ?_ ren_nil rfl
    · exact List.forall_mem_cons.2 ⟨FV.one (FV.same (by assumption) rfl), fun _ hp => (List.not_mem_nil hp).elim⟩
    · exact fun _ hp => (List.not_mem_nil hp).elim
  · cases h
theorem pyxlaw10_known.sound (k : Nat) : Sound Try.prog DD 44 (pyxlaw10_known.D k) :=
  fun_sound (E := pyxlaw10_known.E k) (fn := Try.f44) (c := codeOf Try.f44) (pyxlaw10_known.ok k) mixed rfl Try.func44 (by kernel_rfl) (by kernel_rfl) (allL_of (l := []) (by kernel_rfl) allL_nil) (pyxlaw10_known.D k) pyxlaw10_known.mk pyxlaw10_known.re (by kernel_rfl) (by kernel_rfl) pyxlaw10_known.fit pyxlaw10_known.fitR (pyxlaw10_known.eq k)
/-! ### pyx/pyxlaw10.RuleDenies: function 9 -/
noncomputable def pyxlaw10_RuleDenies.f (k : Nat) (a0 : List Int) (a1 : Int) (a2 : Int) (a3 : Int) (a4 : Int) (a5 : Int) (a6 : Int) : Option Bool := (pyxhand_Policy.f k a0).bind fun t1 => ((pyxhand_Pick.f k a4 (List.length t1.f_Who : Int)).bind fun t2 => ((pyxhand_Pick.f k a5 (List.length t1.f_Ents : Int)).bind fun t3 => ((pyxhand_Pick.f k a2 3).bind fun t4 => ((pyxhand_Pick.f k a1 (List.length t1.f_Up : Int)).bind fun t5 => ((pyxhand_Pick.f k a3 (IntKind.wrap .i64 ((List.length t1.f_Ents : Int) + 1))).bind fun t6 => ((rule_May.f k (⟨t1.f_Ents, t1.f_Groups, t1.f_Who, t1.f_Up, t1.f_Rules⟩ : Sapi_Policy) t2 (IntKind.wrap .i64 (1 + t4)) t3).bind fun t7 => (cond (okLen (List.length ([] : List Sapi_Rule) + List.length t1.f_Rules) 96) (cond (okLen (List.length (([] : List Sapi_Rule) ++ t1.f_Rules) + List.length [(⟨2, t5, IntKind.wrap .i64 (1 + t4), IntKind.wrap .i64 (t6 - 1), 0, 0, (⟨false, (0, 0), 0⟩ : Sapi_Dec), (⟨0, 0⟩ : Sapi_Label)⟩ : Sapi_Rule)]) 96) ((rule_May.f k (⟨t1.f_Ents, t1.f_Groups, t1.f_Who, t1.f_Up, (([] : List Sapi_Rule) ++ t1.f_Rules) ++ [(⟨2, t5, IntKind.wrap .i64 (1 + t4), IntKind.wrap .i64 (t6 - 1), 0, 0, (⟨false, (0, 0), 0⟩ : Sapi_Dec), (⟨0, 0⟩ : Sapi_Label)⟩ : Sapi_Rule)]⟩ : Sapi_Policy) t2 (IntKind.wrap .i64 (1 + t4)) t3).bind fun t8 => (cond (okLen (List.length ([] : List Sapi_Rule) + List.length t1.f_Rules) 96) (cond (okLen (List.length (([] : List Sapi_Rule) ++ t1.f_Rules) + List.length [(⟨1, t5, IntKind.wrap .i64 (1 + t4), IntKind.wrap .i64 (t6 - 1), 0, 0, (⟨false, (0, 0), 0⟩ : Sapi_Dec), (⟨0, 0⟩ : Sapi_Label)⟩ : Sapi_Rule)]) 96) ((rule_May.f k (⟨t1.f_Ents, t1.f_Groups, t1.f_Who, t1.f_Up, (([] : List Sapi_Rule) ++ t1.f_Rules) ++ [(⟨1, t5, IntKind.wrap .i64 (1 + t4), IntKind.wrap .i64 (t6 - 1), 0, 0, (⟨false, (0, 0), 0⟩ : Sapi_Dec), (⟨0, 0⟩ : Sapi_Label)⟩ : Sapi_Rule)]⟩ : Sapi_Policy) t2 (IntKind.wrap .i64 (1 + t4)) t3).bind fun t9 => ((pyxhand_Pick.f k a6 (IntKind.wrap .i64 ((List.length t1.f_Rules : Int) + 1))).bind fun t10 => (cond (inS t10 (List.length t1.f_Rules : Int) (List.length t1.f_Rules)) (cond (okLen (List.length ([] : List Sapi_Rule) + List.length (List.drop (Int.toNat t10) t1.f_Rules)) 96) (cond (inS 0 t10 (List.length t1.f_Rules)) (cond (okLen (List.length (([] : List Sapi_Rule) ++ (List.drop (Int.toNat t10) t1.f_Rules)) + List.length (List.take (Int.toNat t10) t1.f_Rules)) 96) ((pyxlaw10_known.f k).bind fun t11 => (cond (t11) (cond (t7) (cond (!t7) ((rule_May.f k (⟨t1.f_Ents, t1.f_Groups, t1.f_Who, t1.f_Up, (([] : List Sapi_Rule) ++ (List.drop (Int.toNat t10) t1.f_Rules)) ++ (List.take (Int.toNat t10) t1.f_Rules)⟩ : Sapi_Policy) t2 (IntKind.wrap .i64 (1 + t4)) t3).bind fun t12 => (cond (t12 == t7) (cond (decide ((IntKind.wrap .i64 (t6 - 1)) < 0)) (some true) (cond ((IntKind.wrap .i64 (t6 - 1)) == t3) (some true) (cond (t8 == t7) (some (t9 == t7)) (some false)))) (some false))) (cond (t9) ((rule_May.f k (⟨t1.f_Ents, t1.f_Groups, t1.f_Who, t1.f_Up, (([] : List Sapi_Rule) ++ (List.drop (Int.toNat t10) t1.f_Rules)) ++ (List.take (Int.toNat t10) t1.f_Rules)⟩ : Sapi_Policy) t2 (IntKind.wrap .i64 (1 + t4)) t3).bind fun t13 => (cond (t13 == t7) (cond (decide ((IntKind.wrap .i64 (t6 - 1)) < 0)) (some true) (cond ((IntKind.wrap .i64 (t6 - 1)) == t3) (some true) (cond (t8 == t7) (some (t9 == t7)) (some false)))) (some false))) (some false))) (cond (!t8) (cond (!t7) ((rule_May.f k (⟨t1.f_Ents, t1.f_Groups, t1.f_Who, t1.f_Up, (([] : List Sapi_Rule) ++ (List.drop (Int.toNat t10) t1.f_Rules)) ++ (List.take (Int.toNat t10) t1.f_Rules)⟩ : Sapi_Policy) t2 (IntKind.wrap .i64 (1 + t4)) t3).bind fun t14 => (cond (t14 == t7) (cond (decide ((IntKind.wrap .i64 (t6 - 1)) < 0)) (some true) (cond ((IntKind.wrap .i64 (t6 - 1)) == t3) (some true) (cond (t8 == t7) (some (t9 == t7)) (some false)))) (some false))) (cond (t9) ((rule_May.f k (⟨t1.f_Ents, t1.f_Groups, t1.f_Who, t1.f_Up, (([] : List Sapi_Rule) ++ (List.drop (Int.toNat t10) t1.f_Rules)) ++ (List.take (Int.toNat t10) t1.f_Rules)⟩ : Sapi_Policy) t2 (IntKind.wrap .i64 (1 + t4)) t3).bind fun t15 => (cond (t15 == t7) (cond (decide ((IntKind.wrap .i64 (t6 - 1)) < 0)) (some true) (cond ((IntKind.wrap .i64 (t6 - 1)) == t3) (some true) (cond (t8 == t7) (some (t9 == t7)) (some false)))) (some false))) (some false))) (some false))) (some false))) none) none) none) none))) none) none)) none) none)))))))
noncomputable def pyxlaw10_RuleDenies.un (s : St U) : Option (List Int × Int × Int × Int × Int × Int × Int) := match s.get 0, s.get 1, s.get 2, s.get 3, s.get 4, s.get 5, s.get 6 with | .row C.i64 x1, .flat (.int .i64 x2), .flat (.int .i64 x3), .flat (.int .i64 x4), .flat (.int .i64 x5), .flat (.int .i64 x6), .flat (.int .i64 x7) => some (x1, x2, x3, x4, x5, x6, x7) | _, _, _, _, _, _, _ => none
noncomputable def pyxlaw10_RuleDenies.mk (x : (List Int × Int × Int × Int × Int × Int × Int)) : St U := ⟨[(0, .row C.i64 x.1), (1, .flat (.int .i64 x.2.1)), (2, .flat (.int .i64 x.2.2.1)), (3, .flat (.int .i64 x.2.2.2.1)), (4, .flat (.int .i64 x.2.2.2.2.1)), (5, .flat (.int .i64 x.2.2.2.2.2.1)), (6, .flat (.int .i64 x.2.2.2.2.2.2))], []⟩
noncomputable def pyxlaw10_RuleDenies.fin (y : Bool) : St U := ⟨[(0, .flat (.bool y))], []⟩
noncomputable def pyxlaw10_RuleDenies.D (k : Nat) : FDen U := { X := (List Int × Int × Int × Int × Int × Int × Int), Y := Bool, nt := 152, gh := [], un := pyxlaw10_RuleDenies.un, f := fun x => pyxlaw10_RuleDenies.f k (x.1) (x.2.1) (x.2.2.1) (x.2.2.2.1) (x.2.2.2.2.1) (x.2.2.2.2.2.1) (x.2.2.2.2.2.2), fin := pyxlaw10_RuleDenies.fin, cl := true, clo := fun _ _ => rfl }
noncomputable def pyxlaw10_RuleDenies.re (s : St U) : Option Bool := match s.get 0 with | .flat (.bool x1) => some x1 | _ => none
noncomputable def pyxlaw10_RuleDenies.jl : List (Nat × JDen U) := []
noncomputable def pyxlaw10_RuleDenies.fl (k : Nat) : List (Nat × FDen U) := [(42, pyxhand_Policy.D k), (21, pyxhand_Pick.D k), (43, rule_May.D k), (44, pyxlaw10_known.D k)]
noncomputable def pyxlaw10_RuleDenies.ll (k : Nat) : List (Nat × LDen U) := []
noncomputable def pyxlaw10_RuleDenies.E (k : Nat) : Env U := { P := Try.prog, D := DD, fd := lk (pyxlaw10_RuleDenies.fl k), ld := lk (pyxlaw10_RuleDenies.ll k), jd := lk pyxlaw10_RuleDenies.jl, mode := lk [], elc := lk ec, mpc := lk mc, rts := Try.f9.resultTypes.toList, dyn := fun t => false, vecs := fun d => false, results := Try.f9.results.toList, gh := [], own := false, io := fun g i => false }
theorem pyxlaw10_RuleDenies.ok (k : Nat) : EnvOk (pyxlaw10_RuleDenies.E k) := envOk lawful (pyxlaw10_RuleDenies.fl k) (pyxlaw10_RuleDenies.ll k) pyxlaw10_RuleDenies.jl _ _ _ _ _ _ _ _ _ _ (by
  intro p hp
  simp only [pyxlaw10_RuleDenies.fl, List.mem_cons, List.not_mem_nil, or_false] at hp
  rcases hp with rfl | rfl | rfl | rfl
  · exact ⟨pyxhand_Policy.sound k, enter_of Try.func42 (by kernel_rfl) (by kernel_rfl)⟩
  · exact ⟨pyxhand_Pick.sound k, enter_of Try.func21 (by kernel_rfl) (by kernel_rfl)⟩
  · exact ⟨rule_May.sound k, enter_of Try.func43 (by kernel_rfl) (by kernel_rfl)⟩
  · exact ⟨pyxlaw10_known.sound k, enter_of Try.func44 (by kernel_rfl) (by kernel_rfl)⟩) (by
  intro p hp
  simp [pyxlaw10_RuleDenies.jl] at hp)
theorem pyxlaw10_RuleDenies.eq (k : Nat) (x : (List Int × Int × Int × Int × Int × Int × Int)) : runF (pyxlaw10_RuleDenies.E k) (codeOf Try.f9) (pyxlaw10_RuleDenies.mk x) pyxlaw10_RuleDenies.re = (pyxlaw10_RuleDenies.D k).f x := by kernel_rfl
theorem pyxlaw10_RuleDenies.fit (s : St U) (x : (List Int × Int × Int × Int × Int × Int × Int)) (h : pyxlaw10_RuleDenies.un s = some x) : Fits s (pyxlaw10_RuleDenies.mk x) := by
  unfold pyxlaw10_RuleDenies.un at h
  split at h
  · cases h
    refine fits_ren [] ?_ ?_ ren_nil rfl
    · exact List.forall_mem_cons.2 ⟨FV.one (FV.same (by assumption) rfl), List.forall_mem_cons.2 ⟨FV.one (FV.same (by assumption) rfl), List.forall_mem_cons.2 ⟨FV.one (FV.same (by assumption) rfl), List.forall_mem_cons.2 ⟨FV.one (FV.same (by assumption) rfl), List.forall_mem_cons.2 ⟨FV.one (FV.same (by assumption) rfl), List.forall_mem_cons.2 ⟨FV.one (FV.same (by assumption) rfl), List.forall_mem_cons.2 ⟨FV.one (FV.same (by assumption) rfl), fun _ hp => (List.not_mem_nil hp).elim⟩⟩⟩⟩⟩⟩⟩
    · exact fun _ hp => (List.not_mem_nil hp).elim
  · cases h
theorem pyxlaw10_RuleDenies.fitR (s : St U) (y : Bool) (h : pyxlaw10_RuleDenies.re s = some y) : Fits s (pyxlaw10_RuleDenies.fin y) := by
  unfold pyxlaw10_RuleDenies.re at h
  split at h
  · cases h
    refine fits_ren [] ?_ ?_ ren_nil rfl
    · exact List.forall_mem_cons.2 ⟨FV.one (FV.same (by assumption) rfl), fun _ hp => (List.not_mem_nil hp).elim⟩
    · exact fun _ hp => (List.not_mem_nil hp).elim
  · cases h
theorem pyxlaw10_RuleDenies.sound (k : Nat) : Sound Try.prog DD 9 (pyxlaw10_RuleDenies.D k) :=
  fun_sound (E := pyxlaw10_RuleDenies.E k) (fn := Try.f9) (c := codeOf Try.f9) (pyxlaw10_RuleDenies.ok k) mixed rfl Try.func9 (by kernel_rfl) (by kernel_rfl) (allL_of (l := []) (by kernel_rfl) allL_nil) (pyxlaw10_RuleDenies.D k) pyxlaw10_RuleDenies.mk pyxlaw10_RuleDenies.re (by kernel_rfl) (by kernel_rfl) pyxlaw10_RuleDenies.fit pyxlaw10_RuleDenies.fitR (pyxlaw10_RuleDenies.eq k)
end
end Go.Proofs.Ythknecaigoilmaa
