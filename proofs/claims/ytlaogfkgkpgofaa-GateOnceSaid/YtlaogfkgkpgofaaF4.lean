import Derived.Test.YtlaogfkgkpgofaaF3
/-! Functions, told; their equations with the evaluator; that they are sound. Written by gen.py. -/
namespace Go.Proofs.Ytlaogfkgkpgofaa
open Go Go.Ev
noncomputable section
set_option linter.unusedVariables false
set_option linter.unusedSimpArgs false
set_option maxRecDepth 100000
/-! ### slices.Clip[[]pyx/gate.Out,pyx/gate.Out]: function 62 -/
noncomputable def slices_Clip_gate_Out.f (k : Nat) (a0 : List Sgate_Out) : Option (List Sgate_Out) := cond (decide ((List.length a0 : Int) = (List.length a0 : Int)) && inS 0 (List.length a0 : Int) (List.length a0)) (some (List.take (Int.toNat (List.length a0 : Int)) a0)) none
noncomputable def slices_Clip_gate_Out.un (s : St U) : Option (List Sgate_Out) := match s.get 0 with | .row C.Sgate_Out x1 => some x1 | _ => none
noncomputable def slices_Clip_gate_Out.mk (x : List Sgate_Out) : St U := ⟨[(0, .row C.Sgate_Out x)], []⟩
noncomputable def slices_Clip_gate_Out.fin (y : List Sgate_Out) : St U := ⟨[(0, .row C.Sgate_Out y)], []⟩
noncomputable def slices_Clip_gate_Out.D (k : Nat) : FDen U := { X := List Sgate_Out, Y := List Sgate_Out, nt := 9, gh := [], un := slices_Clip_gate_Out.un, f := fun x => slices_Clip_gate_Out.f k (x), fin := slices_Clip_gate_Out.fin, cl := true, clo := fun _ _ => rfl }
noncomputable def slices_Clip_gate_Out.re (s : St U) : Option (List Sgate_Out) := match s.get 0 with | .row C.Sgate_Out x1 => some x1 | _ => none
noncomputable def slices_Clip_gate_Out.jl : List (Nat × JDen U) := []
noncomputable def slices_Clip_gate_Out.fl (k : Nat) : List (Nat × FDen U) := []
noncomputable def slices_Clip_gate_Out.ll (k : Nat) : List (Nat × LDen U) := []
noncomputable def slices_Clip_gate_Out.E (k : Nat) : Env U := { P := Try.prog, D := DD, fd := lk (slices_Clip_gate_Out.fl k), ld := lk (slices_Clip_gate_Out.ll k), jd := lk slices_Clip_gate_Out.jl, mode := lk [], elc := lk ec, mpc := lk mc, rts := Try.f62.resultTypes.toList, dyn := fun t => false, vecs := fun d => false, results := Try.f62.results.toList, gh := [], own := false, io := fun g i => false }
theorem slices_Clip_gate_Out.ok (k : Nat) : EnvOk (slices_Clip_gate_Out.E k) := envOk lawful (slices_Clip_gate_Out.fl k) (slices_Clip_gate_Out.ll k) slices_Clip_gate_Out.jl _ _ _ _ _ _ _ _ _ _ (by
  intro p hp
  simp [slices_Clip_gate_Out.fl] at hp) (by
  intro p hp
  simp [slices_Clip_gate_Out.jl] at hp)
theorem slices_Clip_gate_Out.eq (k : Nat) (x : List Sgate_Out) : runF (slices_Clip_gate_Out.E k) (codeOf Try.f62) (slices_Clip_gate_Out.mk x) slices_Clip_gate_Out.re = (slices_Clip_gate_Out.D k).f x := by kernel_rfl
theorem slices_Clip_gate_Out.fit (s : St U) (x : List Sgate_Out) (h : slices_Clip_gate_Out.un s = some x) : Fits s (slices_Clip_gate_Out.mk x) := by
  unfold slices_Clip_gate_Out.un at h
  split at h
  · cases h
    refine fits_ren [] ?_ ?_ ren_nil rfl
    · exact List.forall_mem_cons.2 ⟨FV.one (FV.same (by assumption) rfl), fun _ hp => (List.not_mem_nil hp).elim⟩
    · exact fun _ hp => (List.not_mem_nil hp).elim
  · cases h
theorem slices_Clip_gate_Out.fitR (s : St U) (y : List Sgate_Out) (h : slices_Clip_gate_Out.re s = some y) : Fits s (slices_Clip_gate_Out.fin y) := by
  unfold slices_Clip_gate_Out.re at h
  split at h
  · cases h
    refine fits_ren [] ?_ ?_ ren_nil rfl
    · exact List.forall_mem_cons.2 ⟨FV.one (FV.same (by assumption) rfl), fun _ hp => (List.not_mem_nil hp).elim⟩
    · exact fun _ hp => (List.not_mem_nil hp).elim
  · cases h
theorem slices_Clip_gate_Out.sound (k : Nat) : Sound Try.prog DD 62 (slices_Clip_gate_Out.D k) :=
  fun_sound (E := slices_Clip_gate_Out.E k) (fn := Try.f62) (c := codeOf Try.f62) (slices_Clip_gate_Out.ok k) mixed rfl Try.func62 (by kernel_rfl) (by kernel_rfl) (allL_of (l := []) (by kernel_rfl) allL_nil) (slices_Clip_gate_Out.D k) slices_Clip_gate_Out.mk slices_Clip_gate_Out.re (by kernel_rfl) (by kernel_rfl) slices_Clip_gate_Out.fit slices_Clip_gate_Out.fitR (slices_Clip_gate_Out.eq k)
/-! ### (*pyx/gate.Gate).Log: function 19 -/
noncomputable def gate_Gate_Log.f (k : Nat) (a0 : Sgate_Gate) : Option (List Sgate_Out × Sgate_Gate) := (slices_Clone_gate_Out.f k a0.f_l).bind fun t1 => ((slices_Clip_gate_Out.f k t1).bind fun t2 => (some (t2, (⟨a0.f_l, a0.f_at⟩ : Sgate_Gate))))
noncomputable def gate_Gate_Log.un (s : St U) : Option Sgate_Gate := match s.get 0, lk s.o 7000000000000, s.get 1000000000000000 with | .ptr 7000000000000 0, some (.lit [x3, x4]), .ptr 7000000000000 0 => (tip_Sgate_Out s.o 11 x3).bind fun ex1 => ((map_Sgate_Key_i64_t s.o x4).bind fun ex2 => (cond (apart [ex1.1, ex2.1]) (some (⟨ex1.2, ex2.2⟩ : Sgate_Gate)) none)) | _, _, _ => none
noncomputable def gate_Gate_Log.mk (x : Sgate_Gate) : St U := ⟨[(0, .ptr 7000000000000 0), (1000000000000000, .ptr 7000000000000 0)], [(7000000000000, .lit [.tip 7000000000001 C.Sgate_Out x.f_l, .mp 7000000000002]), (7000000000001, .tip 11), (7000000000002, .map true true false C.Sgate_Key C.i64 x.f_at)]⟩
noncomputable def gate_Gate_Log.fin (y : (List Sgate_Out × Sgate_Gate)) : St U := ⟨[(0, .row C.Sgate_Out y.1), (1000000000000000, .ptr 7000000000000 0)], [(7000000000000, .lit [.tip 7000000000001 C.Sgate_Out y.2.f_l, .mp 7000000000002]), (7000000000001, .tip 11), (7000000000002, .map true true false C.Sgate_Key C.i64 y.2.f_at)]⟩
noncomputable def gate_Gate_Log.D (k : Nat) : FDen U := { X := Sgate_Gate, Y := (List Sgate_Out × Sgate_Gate), nt := 11, gh := [0], un := gate_Gate_Log.un, f := fun x => gate_Gate_Log.f k (x), fin := gate_Gate_Log.fin, cl := false, clo := fun h => by cases h }
noncomputable def gate_Gate_Log.re (s : St U) : Option (List Sgate_Out × Sgate_Gate) := match s.get 0, s.get 1000000000000000, lk s.o 7000000000000 with | .row C.Sgate_Out x1, .ptr 7000000000000 0, some (.lit [x4, x5]) => (tip_Sgate_Out s.o 11 x4).bind fun ex2 => ((map_Sgate_Key_i64_t s.o x5).bind fun ex3 => (cond (apart [ex2.1, ex3.1]) (some (x1, (⟨ex2.2, ex3.2⟩ : Sgate_Gate))) none)) | _, _, _ => none
noncomputable def gate_Gate_Log.jl : List (Nat × JDen U) := []
noncomputable def gate_Gate_Log.fl (k : Nat) : List (Nat × FDen U) := [(63, slices_Clone_gate_Out.D k), (62, slices_Clip_gate_Out.D k)]
noncomputable def gate_Gate_Log.ll (k : Nat) : List (Nat × LDen U) := []
noncomputable def gate_Gate_Log.E (k : Nat) : Env U := { P := Try.prog, D := DD, fd := lk (gate_Gate_Log.fl k), ld := lk (gate_Gate_Log.ll k), jd := lk gate_Gate_Log.jl, mode := lk [], elc := lk ec, mpc := lk mc, rts := Try.f19.resultTypes.toList, dyn := fun t => false, vecs := fun d => false, results := Try.f19.results.toList, gh := [0], own := false, io := fun g i => false }
theorem gate_Gate_Log.ok (k : Nat) : EnvOk (gate_Gate_Log.E k) := envOk lawful (gate_Gate_Log.fl k) (gate_Gate_Log.ll k) gate_Gate_Log.jl _ _ _ _ _ _ _ _ _ _ (by
  intro p hp
  simp only [gate_Gate_Log.fl, List.mem_cons, List.not_mem_nil, or_false] at hp
  rcases hp with rfl | rfl
  · exact ⟨slices_Clone_gate_Out.sound k, enter_of Try.func63 (by kernel_rfl) (by kernel_rfl)⟩
  · exact ⟨slices_Clip_gate_Out.sound k, enter_of Try.func62 (by kernel_rfl) (by kernel_rfl)⟩) (by
  intro p hp
  simp [gate_Gate_Log.jl] at hp)
theorem gate_Gate_Log.eq (k : Nat) (x : Sgate_Gate) : runF (gate_Gate_Log.E k) (codeOf Try.f19) (gate_Gate_Log.mk x) gate_Gate_Log.re = (gate_Gate_Log.D k).f x := by kernel_rfl
theorem gate_Gate_Log.fit (s : St U) (x : Sgate_Gate) (h : gate_Gate_Log.un s = some x) : Fits s (gate_Gate_Log.mk x) := by
  unfold gate_Gate_Log.un at h
  split at h
  · obtain ⟨ex1, hex1, hh1⟩ := Option.bind_eq_some_iff.1 h
    obtain ⟨ex2, hex2, hh2⟩ := Option.bind_eq_some_iff.1 hh1
    obtain ⟨hap, hh0⟩ := cond_none hh2
    cases hh0
    refine fits_ren [(7000000000001, ex1.1), (7000000000002, ex2.1)] ?_ ?_ (ren_apart hap) rfl
    · exact List.forall_mem_cons.2 ⟨FV.one (FV.ptr (by assumption)), List.forall_mem_cons.2 ⟨FV.one (FV.ptr (by assumption)), fun _ hp => (List.not_mem_nil hp).elim⟩⟩
    · exact List.forall_mem_cons.2 ⟨FO.cells (show lk (St.o _) 7000000000000 = some _ from by assumption) (FCs.cons ((tip_Sgate_Out_fit hex1 rfl).1) (FCs.cons ((map_Sgate_Key_i64_t_fit hex2 rfl).1) (FCs.nil))), List.forall_mem_cons.2 ⟨(tip_Sgate_Out_fit hex1 rfl).2, List.forall_mem_cons.2 ⟨(map_Sgate_Key_i64_t_fit hex2 rfl).2, fun _ hp => (List.not_mem_nil hp).elim⟩⟩⟩
  · cases h
theorem gate_Gate_Log.fitR (s : St U) (y : (List Sgate_Out × Sgate_Gate)) (h : gate_Gate_Log.re s = some y) : Fits s (gate_Gate_Log.fin y) := by
  unfold gate_Gate_Log.re at h
  split at h
  · obtain ⟨ex2, hex2, hh1⟩ := Option.bind_eq_some_iff.1 h
    obtain ⟨ex3, hex3, hh2⟩ := Option.bind_eq_some_iff.1 hh1
    obtain ⟨hap, hh0⟩ := cond_none hh2
    cases hh0
    refine fits_ren [(7000000000001, ex2.1), (7000000000002, ex3.1)] ?_ ?_ (ren_apart hap) rfl
    · exact List.forall_mem_cons.2 ⟨FV.one (FV.same (by assumption) rfl), List.forall_mem_cons.2 ⟨FV.one (FV.ptr (by assumption)), fun _ hp => (List.not_mem_nil hp).elim⟩⟩
    · exact List.forall_mem_cons.2 ⟨FO.cells (show lk (St.o _) 7000000000000 = some _ from by assumption) (FCs.cons ((tip_Sgate_Out_fit hex2 rfl).1) (FCs.cons ((map_Sgate_Key_i64_t_fit hex3 rfl).1) (FCs.nil))), List.forall_mem_cons.2 ⟨(tip_Sgate_Out_fit hex2 rfl).2, List.forall_mem_cons.2 ⟨(map_Sgate_Key_i64_t_fit hex3 rfl).2, fun _ hp => (List.not_mem_nil hp).elim⟩⟩⟩
  · cases h
theorem gate_Gate_Log.sound (k : Nat) : Sound Try.prog DD 19 (gate_Gate_Log.D k) :=
  fun_sound (E := gate_Gate_Log.E k) (fn := Try.f19) (c := codeOf Try.f19) (gate_Gate_Log.ok k) mixed rfl Try.func19 (by kernel_rfl) (by kernel_rfl) (allL_of (l := []) (by kernel_rfl) allL_nil) (gate_Gate_Log.D k) gate_Gate_Log.mk gate_Gate_Log.re (by kernel_rfl) (by kernel_rfl) gate_Gate_Log.fit gate_Gate_Log.fitR (gate_Gate_Log.eq k)
/-! ### pyx/pyxlaw25.known: function 16 -/
noncomputable def pyxlaw25_known.f (k : Nat)  : Option Bool := (gate_New.f k).bind fun t1 => ((pyxref1_Of.f k 100 0).bind fun t2 => ((pyxref1_Of.f k 250 0).bind fun t3 => ((gate_Gate_Release.f k (⟨t1.f_l, t1.f_at⟩ : Sgate_Gate) (⟨3, 0, 0, 0, 0, 0, (⟨t2.f_Neg, (t2.f_C.1, t2.f_C.2), t2.f_Scale⟩ : Sapi_Dec), (⟨0, 0⟩ : Sapi_Label)⟩ : Sapi_Rule) 4 (⟨0, 0, 0, 0⟩ : Sgate_Key) (⟨t3.f_Neg, (t3.f_C.1, t3.f_C.2), t3.f_Scale⟩ : Sapi_Dec)).bind fun t4 => ((pyxref1_Of.f k 900 0).bind fun t5 => ((gate_Gate_Release.f k (⟨t4.2.2.2.f_l, t4.2.2.2.f_at⟩ : Sgate_Gate) (⟨3, 0, 0, 0, 0, 0, (⟨t2.f_Neg, (t2.f_C.1, t2.f_C.2), t2.f_Scale⟩ : Sapi_Dec), (⟨0, 0⟩ : Sapi_Label)⟩ : Sapi_Rule) 5 (⟨0, 0, 0, 0⟩ : Sgate_Key) (⟨t5.f_Neg, (t5.f_C.1, t5.f_C.2), t5.f_Scale⟩ : Sapi_Dec)).bind fun t6 => ((gate_Gate_Log.f k (⟨t6.2.2.2.f_l, t6.2.2.2.f_at⟩ : Sgate_Gate)).bind fun t7 => (cond (t4.2.2.1 == 0) (cond (t4.2.1) ((pyxref1_Of.f k 200 0).bind fun t8 => (cond ((t4.1.f_Neg == t8.f_Neg) && ((t4.1.f_C.1 == t8.f_C.1) && ((t4.1.f_C.2 == t8.f_C.2) && (t4.1.f_Scale == t8.f_Scale)))) (cond (t6.2.2.1 == 0) (cond (!t6.2.1) (cond ((t6.1.f_Neg == t4.1.f_Neg) && ((t6.1.f_C.1 == t4.1.f_C.1) && ((t6.1.f_C.2 == t4.1.f_C.2) && (t6.1.f_Scale == t4.1.f_Scale)))) (cond ((List.length t7.1 : Int) == 1) (cond (inb 0 (List.length t7.1)) (some (((((List.getD t7.1 0 Sgate_Out.zero).f_K).f_Group) == 0) && (((((List.getD t7.1 0 Sgate_Out.zero).f_K).f_Line) == 0) && (((((List.getD t7.1 0 Sgate_Out.zero).f_K).f_Period) == 0) && (((((List.getD t7.1 0 Sgate_Out.zero).f_K).f_Version) == 0) && ((((List.getD t7.1 0 Sgate_Out.zero).f_Rule) == 4) && (((((List.getD t7.1 0 Sgate_Out.zero).f_Value).f_Neg) == t4.1.f_Neg) && ((((((List.getD t7.1 0 Sgate_Out.zero).f_Value).f_C).1) == t4.1.f_C.1) && ((((((List.getD t7.1 0 Sgate_Out.zero).f_Value).f_C).2) == t4.1.f_C.2) && (((((List.getD t7.1 0 Sgate_Out.zero).f_Value).f_Scale) == t4.1.f_Scale) && (((((List.getD t7.1 0 Sgate_Out.zero).f_To).f_Set) == 0) && ((((List.getD t7.1 0 Sgate_Out.zero).f_To).f_Level) == 0)))))))))))) none) (some false)) (some false)) (some false)) (some false)) (some false))) (some false)) (some false))))))))
noncomputable def pyxlaw25_known.un (s : St U) : Option Unit := some ()
noncomputable def pyxlaw25_known.mk (x : Unit) : St U := ⟨[], []⟩
noncomputable def pyxlaw25_known.fin (y : Bool) : St U := ⟨[(0, .flat (.bool y))], []⟩
noncomputable def pyxlaw25_known.D (k : Nat) : FDen U := { X := Unit, Y := Bool, nt := 71, gh := [], un := pyxlaw25_known.un, f := fun x => pyxlaw25_known.f k , fin := pyxlaw25_known.fin, cl := true, clo := fun _ _ => rfl }
noncomputable def pyxlaw25_known.re (s : St U) : Option Bool := match s.get 0 with | .flat (.bool x1) => some x1 | _ => none
noncomputable def pyxlaw25_known.jl : List (Nat × JDen U) := []
noncomputable def pyxlaw25_known.fl (k : Nat) : List (Nat × FDen U) := [(15, gate_New.D k), (17, pyxref1_Of.D k), (18, gate_Gate_Release.D k), (19, gate_Gate_Log.D k)]
noncomputable def pyxlaw25_known.ll (k : Nat) : List (Nat × LDen U) := []
noncomputable def pyxlaw25_known.E (k : Nat) : Env U := { P := Try.prog, D := DD, fd := lk (pyxlaw25_known.fl k), ld := lk (pyxlaw25_known.ll k), jd := lk pyxlaw25_known.jl, mode := lk [], elc := lk ec, mpc := lk mc, rts := Try.f16.resultTypes.toList, dyn := fun t => false, vecs := fun d => false, results := Try.f16.results.toList, gh := [], own := false, io := fun g i => false }
theorem pyxlaw25_known.ok (k : Nat) : EnvOk (pyxlaw25_known.E k) := envOk lawful (pyxlaw25_known.fl k) (pyxlaw25_known.ll k) pyxlaw25_known.jl _ _ _ _ _ _ _ _ _ _ (by
  intro p hp
  simp only [pyxlaw25_known.fl, List.mem_cons, List.not_mem_nil, or_false] at hp
  rcases hp with rfl | rfl | rfl | rfl
  · exact ⟨gate_New.sound k, enter_of Try.func15 (by kernel_rfl) (by kernel_rfl)⟩
  · exact ⟨pyxref1_Of.sound k, enter_of Try.func17 (by kernel_rfl) (by kernel_rfl)⟩
  · exact ⟨gate_Gate_Release.sound k, enter_of Try.func18 (by kernel_rfl) (by kernel_rfl)⟩
  · exact ⟨gate_Gate_Log.sound k, enter_of Try.func19 (by kernel_rfl) (by kernel_rfl)⟩) (by
  intro p hp
  simp [pyxlaw25_known.jl] at hp)
theorem pyxlaw25_known.eq (k : Nat) (x : Unit) : runF (pyxlaw25_known.E k) (codeOf Try.f16) (pyxlaw25_known.mk x) pyxlaw25_known.re = (pyxlaw25_known.D k).f x := by kernel_rfl
theorem pyxlaw25_known.fit (s : St U) (x : Unit) (h : pyxlaw25_known.un s = some x) : Fits s (pyxlaw25_known.mk x) := by
  unfold pyxlaw25_known.un at h
  cases h
  refine fits_ren [] ?_ ?_ ren_nil rfl
  · exact fun _ hp => (List.not_mem_nil hp).elim
  · exact fun _ hp => (List.not_mem_nil hp).elim
theorem pyxlaw25_known.fitR (s : St U) (y : Bool) (h : pyxlaw25_known.re s = some y) : Fits s (pyxlaw25_known.fin y) := by
  unfold pyxlaw25_known.re at h
  split at h
  · cases h
    refine fits_ren [] ?_ ?_ ren_nil rfl
    · exact List.forall_mem_cons.2 ⟨FV.one (FV.same (by assumption) rfl), fun _ hp => (List.not_mem_nil hp).elim⟩
    · exact fun _ hp => (List.not_mem_nil hp).elim
  · cases h
theorem pyxlaw25_known.sound (k : Nat) : Sound Try.prog DD 16 (pyxlaw25_known.D k) :=
  fun_sound (E := pyxlaw25_known.E k) (fn := Try.f16) (c := codeOf Try.f16) (pyxlaw25_known.ok k) mixed rfl Try.func16 (by kernel_rfl) (by kernel_rfl) (allL_of (l := []) (by kernel_rfl) allL_nil) (pyxlaw25_known.D k) pyxlaw25_known.mk pyxlaw25_known.re (by kernel_rfl) (by kernel_rfl) pyxlaw25_known.fit pyxlaw25_known.fitR (pyxlaw25_known.eq k)
/-! ### pyx/pyxhand.Pick: function 25 -/
noncomputable def pyxhand_Pick.f (k : Nat) (a0 : Int) (a1 : Int) : Option Int := cond (a1 == 0) none (cond (decide ((Int.tmod a0 a1) < 0)) (some (IntKind.wrap .i64 ((Int.tmod a0 a1) + a1))) (some (Int.tmod a0 a1)))
noncomputable def pyxhand_Pick.un (s : St U) : Option (Int × Int) := match s.get 0, s.get 1 with | .flat (.int .i64 x1), .flat (.int .i64 x2) => some (x1, x2) | _, _ => none
noncomputable def pyxhand_Pick.mk (x : (Int × Int)) : St U := ⟨[(0, .flat (.int .i64 x.1)), (1, .flat (.int .i64 x.2))], []⟩
noncomputable def pyxhand_Pick.fin (y : Int) : St U := ⟨[(0, .flat (.int .i64 y))], []⟩
noncomputable def pyxhand_Pick.D (k : Nat) : FDen U := { X := (Int × Int), Y := Int, nt := 14, gh := [], un := pyxhand_Pick.un, f := fun x => pyxhand_Pick.f k (x.1) (x.2), fin := pyxhand_Pick.fin, cl := true, clo := fun _ _ => rfl }
noncomputable def pyxhand_Pick.re (s : St U) : Option Int := match s.get 0 with | .flat (.int .i64 x1) => some x1 | _ => none
noncomputable def pyxhand_Pick.jl : List (Nat × JDen U) := []
noncomputable def pyxhand_Pick.fl (k : Nat) : List (Nat × FDen U) := []
noncomputable def pyxhand_Pick.ll (k : Nat) : List (Nat × LDen U) := []
noncomputable def pyxhand_Pick.E (k : Nat) : Env U := { P := Try.prog, D := DD, fd := lk (pyxhand_Pick.fl k), ld := lk (pyxhand_Pick.ll k), jd := lk pyxhand_Pick.jl, mode := lk [], elc := lk ec, mpc := lk mc, rts := Try.f25.resultTypes.toList, dyn := fun t => false, vecs := fun d => false, results := Try.f25.results.toList, gh := [], own := false, io := fun g i => false }
theorem pyxhand_Pick.ok (k : Nat) : EnvOk (pyxhand_Pick.E k) := envOk lawful (pyxhand_Pick.fl k) (pyxhand_Pick.ll k) pyxhand_Pick.jl _ _ _ _ _ _ _ _ _ _ (by
  intro p hp
  simp [pyxhand_Pick.fl] at hp) (by
  intro p hp
  simp [pyxhand_Pick.jl] at hp)
theorem pyxhand_Pick.eq (k : Nat) (x : (Int × Int)) : runF (pyxhand_Pick.E k) (codeOf Try.f25) (pyxhand_Pick.mk x) pyxhand_Pick.re = (pyxhand_Pick.D k).f x := by kernel_rfl
theorem pyxhand_Pick.fit (s : St U) (x : (Int × Int)) (h : pyxhand_Pick.un s = some x) : Fits s (pyxhand_Pick.mk x) := by
  unfold pyxhand_Pick.un at h
  split at h
  · cases h
    refine fits_ren [] ?_ ?_ ren_nil rfl
    · exact List.forall_mem_cons.2 ⟨FV.one (FV.same (by assumption) rfl), List.forall_mem_cons.2 ⟨FV.one (FV.same (by assumption) rfl), fun _ hp => (List.not_mem_nil hp).elim⟩⟩
    · exact fun _ hp => (List.not_mem_nil hp).elim
  · cases h
theorem pyxhand_Pick.fitR (s : St U) (y : Int) (h : pyxhand_Pick.re s = some y) : Fits s (pyxhand_Pick.fin y) := by
  unfold pyxhand_Pick.re at h
  split at h
  · cases h
    refine fits_ren [] ?_ ?_ ren_nil rfl
    · exact List.forall_mem_cons.2 ⟨FV.one (FV.same (by assumption) rfl), fun _ hp => (List.not_mem_nil hp).elim⟩
    · exact fun _ hp => (List.not_mem_nil hp).elim
  · cases h
theorem pyxhand_Pick.sound (k : Nat) : Sound Try.prog DD 25 (pyxhand_Pick.D k) :=
  fun_sound (E := pyxhand_Pick.E k) (fn := Try.f25) (c := codeOf Try.f25) (pyxhand_Pick.ok k) mixed rfl Try.func25 (by kernel_rfl) (by kernel_rfl) (allL_of (l := []) (by kernel_rfl) allL_nil) (pyxhand_Pick.D k) pyxhand_Pick.mk pyxhand_Pick.re (by kernel_rfl) (by kernel_rfl) pyxhand_Pick.fit pyxhand_Pick.fitR (pyxhand_Pick.eq k)
/-! ### pyx/pyxhand.Dec: function 21 -/
noncomputable def pyxhand_Dec.f (k : Nat) (a0 : Int) (a1 : Int) (a2 : Int) : Option Sapi_Dec := (pyxhand_Pick.f k a2 11).bind fun t1 => (cond (t1 == 0) ((pyxhand_Pick.f k a0 12).bind fun t2 => (some (⟨(Int.tmod a2 2) == 0, (IntKind.wrap .u64 (a0), IntKind.wrap .u64 (a1)), IntKind.wrap .i64 (t2 - 1)⟩ : Sapi_Dec))) (cond (t1 == 1) ((pyxhand_Pick.f k a1 54210108624).bind fun t3 => ((pyxhand_Pick.f k (IntKind.wrap .i64 (Int.tdiv a2 11)) 10).bind fun t4 => (some (⟨(Int.tmod a0 2) == 0, (IntKind.wrap .u64 (a0), IntKind.wrap .u64 (t3)), t4⟩ : Sapi_Dec)))) (cond (t1 == 2) ((pyxhand_Pick.f k a0 7).bind fun t5 => ((pyxhand_Pick.f k a1 10).bind fun t6 => ((pyxref1_Of.f k (IntKind.wrap .i64 (t5 - 3)) t6).bind fun t7 => (some (⟨t7.f_Neg, (t7.f_C.1, t7.f_C.2), t7.f_Scale⟩ : Sapi_Dec))))) (cond (t1 == 3) ((pyxhand_Pick.f k a1 10).bind fun t8 => ((pyxref1_Of.f k a0 t8).bind fun t9 => (some (⟨t9.f_Neg, (t9.f_C.1, t9.f_C.2), t9.f_Scale⟩ : Sapi_Dec)))) ((pyxhand_Pick.f k a0 2000000).bind fun t10 => ((pyxhand_Pick.f k a1 10).bind fun t11 => ((pyxref1_Of.f k (IntKind.wrap .i64 (t10 - 1000000)) t11).bind fun t12 => (some (⟨t12.f_Neg, (t12.f_C.1, t12.f_C.2), t12.f_Scale⟩ : Sapi_Dec)))))))))
noncomputable def pyxhand_Dec.un (s : St U) : Option (Int × Int × Int) := match s.get 0, s.get 1, s.get 2 with | .flat (.int .i64 x1), .flat (.int .i64 x2), .flat (.int .i64 x3) => some (x1, x2, x3) | _, _, _ => none
noncomputable def pyxhand_Dec.mk (x : (Int × Int × Int)) : St U := ⟨[(0, .flat (.int .i64 x.1)), (1, .flat (.int .i64 x.2.1)), (2, .flat (.int .i64 x.2.2))], []⟩
noncomputable def pyxhand_Dec.fin (y : Sapi_Dec) : St U := ⟨[(0, .agg [.flat (.bool y.f_Neg), .flat (.int .u64 y.f_C.1), .flat (.int .u64 y.f_C.2), .flat (.int .i64 y.f_Scale)])], []⟩
noncomputable def pyxhand_Dec.D (k : Nat) : FDen U := { X := (Int × Int × Int), Y := Sapi_Dec, nt := 58, gh := [], un := pyxhand_Dec.un, f := fun x => pyxhand_Dec.f k (x.1) (x.2.1) (x.2.2), fin := pyxhand_Dec.fin, cl := true, clo := fun _ _ => rfl }
noncomputable def pyxhand_Dec.re (s : St U) : Option Sapi_Dec := match s.get 0 with | .agg [.flat (.bool x1), .flat (.int .u64 x2), .flat (.int .u64 x3), .flat (.int .i64 x4)] => some (⟨x1, (x2, x3), x4⟩ : Sapi_Dec) | _ => none
noncomputable def pyxhand_Dec.jl : List (Nat × JDen U) := []
noncomputable def pyxhand_Dec.fl (k : Nat) : List (Nat × FDen U) := [(25, pyxhand_Pick.D k), (17, pyxref1_Of.D k)]
noncomputable def pyxhand_Dec.ll (k : Nat) : List (Nat × LDen U) := []
noncomputable def pyxhand_Dec.E (k : Nat) : Env U := { P := Try.prog, D := DD, fd := lk (pyxhand_Dec.fl k), ld := lk (pyxhand_Dec.ll k), jd := lk pyxhand_Dec.jl, mode := lk [], elc := lk ec, mpc := lk mc, rts := Try.f21.resultTypes.toList, dyn := fun t => false, vecs := fun d => false, results := Try.f21.results.toList, gh := [], own := false, io := fun g i => false }
theorem pyxhand_Dec.ok (k : Nat) : EnvOk (pyxhand_Dec.E k) := envOk lawful (pyxhand_Dec.fl k) (pyxhand_Dec.ll k) pyxhand_Dec.jl _ _ _ _ _ _ _ _ _ _ (by
  intro p hp
  simp only [pyxhand_Dec.fl, List.mem_cons, List.not_mem_nil, or_false] at hp
  rcases hp with rfl | rfl
  · exact ⟨pyxhand_Pick.sound k, enter_of Try.func25 (by kernel_rfl) (by kernel_rfl)⟩
  · exact ⟨pyxref1_Of.sound k, enter_of Try.func17 (by kernel_rfl) (by kernel_rfl)⟩) (by
  intro p hp
  simp [pyxhand_Dec.jl] at hp)
theorem pyxhand_Dec.eq (k : Nat) (x : (Int × Int × Int)) : runF (pyxhand_Dec.E k) (codeOf Try.f21) (pyxhand_Dec.mk x) pyxhand_Dec.re = (pyxhand_Dec.D k).f x := by kernel_rfl
theorem pyxhand_Dec.fit (s : St U) (x : (Int × Int × Int)) (h : pyxhand_Dec.un s = some x) : Fits s (pyxhand_Dec.mk x) := by
  unfold pyxhand_Dec.un at h
  split at h
  · cases h
    refine fits_ren [] ?_ ?_ ren_nil rfl
    · exact List.forall_mem_cons.2 ⟨FV.one (FV.same (by assumption) rfl), List.forall_mem_cons.2 ⟨FV.one (FV.same (by assumption) rfl), List.forall_mem_cons.2 ⟨FV.one (FV.same (by assumption) rfl), fun _ hp => (List.not_mem_nil hp).elim⟩⟩⟩
    · exact fun _ hp => (List.not_mem_nil hp).elim
  · cases h
theorem pyxhand_Dec.fitR (s : St U) (y : Sapi_Dec) (h : pyxhand_Dec.re s = some y) : Fits s (pyxhand_Dec.fin y) := by
  unfold pyxhand_Dec.re at h
  split at h
  · cases h
    refine fits_ren [] ?_ ?_ ren_nil rfl
    · exact List.forall_mem_cons.2 ⟨FV.one (FV.same (by assumption) rfl), fun _ hp => (List.not_mem_nil hp).elim⟩
    · exact fun _ hp => (List.not_mem_nil hp).elim
  · cases h
theorem pyxhand_Dec.sound (k : Nat) : Sound Try.prog DD 21 (pyxhand_Dec.D k) :=
  fun_sound (E := pyxhand_Dec.E k) (fn := Try.f21) (c := codeOf Try.f21) (pyxhand_Dec.ok k) mixed rfl Try.func21 (by kernel_rfl) (by kernel_rfl) (allL_of (l := []) (by kernel_rfl) allL_nil) (pyxhand_Dec.D k) pyxhand_Dec.mk pyxhand_Dec.re (by kernel_rfl) (by kernel_rfl) pyxhand_Dec.fit pyxhand_Dec.fitR (pyxhand_Dec.eq k)
/-! ### pyx/pyxlaw25.rule: function 22 -/
noncomputable def pyxlaw25_rule.f (k : Nat) (a0 : Spyxlaw25_Raw) : Option Sapi_Rule := (pyxhand_Pick.f k a0.f_Group 2).bind fun t1 => ((pyxhand_Pick.f k a0.f_Line 3).bind fun t2 => ((pyxref1_Of.f k 1 0).bind fun t3 => ((pyxref1_Of.f k 25 0).bind fun t4 => ((pyxref1_Of.f k 5 1).bind fun t5 => ((pyxref1_Of.f k 1 2).bind fun t6 => ((pyxhand_Pick.f k a0.f_Unit 4).bind fun t7 => (cond (inb t7 4) ((pyxhand_Pick.f k a0.f_To 4).bind fun t8 => ((pyxhand_Pick.f k (IntKind.wrap .i64 (Int.tdiv a0.f_To 4)) 3).bind fun t9 => ((pyxhand_Pick.f k a0.f_Bend 13).bind fun t10 => (cond (t10 == 10) ((pyxhand_Pick.f k (IntKind.wrap .i64 (Int.tdiv a0.f_Bend 13)) 5).bind fun t11 => (some (⟨t11, 0, 0, (-1), t1, t2, (⟨(List.getD [(⟨t3.f_Neg, (t3.f_C.1, t3.f_C.2), t3.f_Scale⟩ : Sapi_Dec), (⟨t4.f_Neg, (t4.f_C.1, t4.f_C.2), t4.f_Scale⟩ : Sapi_Dec), (⟨t5.f_Neg, (t5.f_C.1, t5.f_C.2), t5.f_Scale⟩ : Sapi_Dec), (⟨t6.f_Neg, (t6.f_C.1, t6.f_C.2), t6.f_Scale⟩ : Sapi_Dec)] (Int.toNat t7) Sapi_Dec.zero).f_Neg, (((List.getD [(⟨t3.f_Neg, (t3.f_C.1, t3.f_C.2), t3.f_Scale⟩ : Sapi_Dec), (⟨t4.f_Neg, (t4.f_C.1, t4.f_C.2), t4.f_Scale⟩ : Sapi_Dec), (⟨t5.f_Neg, (t5.f_C.1, t5.f_C.2), t5.f_Scale⟩ : Sapi_Dec), (⟨t6.f_Neg, (t6.f_C.1, t6.f_C.2), t6.f_Scale⟩ : Sapi_Dec)] (Int.toNat t7) Sapi_Dec.zero).f_C).1, ((List.getD [(⟨t3.f_Neg, (t3.f_C.1, t3.f_C.2), t3.f_Scale⟩ : Sapi_Dec), (⟨t4.f_Neg, (t4.f_C.1, t4.f_C.2), t4.f_Scale⟩ : Sapi_Dec), (⟨t5.f_Neg, (t5.f_C.1, t5.f_C.2), t5.f_Scale⟩ : Sapi_Dec), (⟨t6.f_Neg, (t6.f_C.1, t6.f_C.2), t6.f_Scale⟩ : Sapi_Dec)] (Int.toNat t7) Sapi_Dec.zero).f_C).2), (List.getD [(⟨t3.f_Neg, (t3.f_C.1, t3.f_C.2), t3.f_Scale⟩ : Sapi_Dec), (⟨t4.f_Neg, (t4.f_C.1, t4.f_C.2), t4.f_Scale⟩ : Sapi_Dec), (⟨t5.f_Neg, (t5.f_C.1, t5.f_C.2), t5.f_Scale⟩ : Sapi_Dec), (⟨t6.f_Neg, (t6.f_C.1, t6.f_C.2), t6.f_Scale⟩ : Sapi_Dec)] (Int.toNat t7) Sapi_Dec.zero).f_Scale⟩ : Sapi_Dec), (⟨IntKind.wrap .u64 (t8), t9⟩ : Sapi_Label)⟩ : Sapi_Rule))) (cond (t10 == 11) (some (⟨3, 0, 0, (-1), 7, t2, (⟨(List.getD [(⟨t3.f_Neg, (t3.f_C.1, t3.f_C.2), t3.f_Scale⟩ : Sapi_Dec), (⟨t4.f_Neg, (t4.f_C.1, t4.f_C.2), t4.f_Scale⟩ : Sapi_Dec), (⟨t5.f_Neg, (t5.f_C.1, t5.f_C.2), t5.f_Scale⟩ : Sapi_Dec), (⟨t6.f_Neg, (t6.f_C.1, t6.f_C.2), t6.f_Scale⟩ : Sapi_Dec)] (Int.toNat t7) Sapi_Dec.zero).f_Neg, (((List.getD [(⟨t3.f_Neg, (t3.f_C.1, t3.f_C.2), t3.f_Scale⟩ : Sapi_Dec), (⟨t4.f_Neg, (t4.f_C.1, t4.f_C.2), t4.f_Scale⟩ : Sapi_Dec), (⟨t5.f_Neg, (t5.f_C.1, t5.f_C.2), t5.f_Scale⟩ : Sapi_Dec), (⟨t6.f_Neg, (t6.f_C.1, t6.f_C.2), t6.f_Scale⟩ : Sapi_Dec)] (Int.toNat t7) Sapi_Dec.zero).f_C).1, ((List.getD [(⟨t3.f_Neg, (t3.f_C.1, t3.f_C.2), t3.f_Scale⟩ : Sapi_Dec), (⟨t4.f_Neg, (t4.f_C.1, t4.f_C.2), t4.f_Scale⟩ : Sapi_Dec), (⟨t5.f_Neg, (t5.f_C.1, t5.f_C.2), t5.f_Scale⟩ : Sapi_Dec), (⟨t6.f_Neg, (t6.f_C.1, t6.f_C.2), t6.f_Scale⟩ : Sapi_Dec)] (Int.toNat t7) Sapi_Dec.zero).f_C).2), (List.getD [(⟨t3.f_Neg, (t3.f_C.1, t3.f_C.2), t3.f_Scale⟩ : Sapi_Dec), (⟨t4.f_Neg, (t4.f_C.1, t4.f_C.2), t4.f_Scale⟩ : Sapi_Dec), (⟨t5.f_Neg, (t5.f_C.1, t5.f_C.2), t5.f_Scale⟩ : Sapi_Dec), (⟨t6.f_Neg, (t6.f_C.1, t6.f_C.2), t6.f_Scale⟩ : Sapi_Dec)] (Int.toNat t7) Sapi_Dec.zero).f_Scale⟩ : Sapi_Dec), (⟨IntKind.wrap .u64 (t8), t9⟩ : Sapi_Label)⟩ : Sapi_Rule)) (cond (t10 == 12) ((pyxhand_Dec.f k a0.f_N a0.f_Scale (IntKind.wrap .i64 (Int.tdiv a0.f_Bend 13))).bind fun t12 => (some (⟨3, 0, 0, (-1), t1, t2, (⟨t12.f_Neg, (t12.f_C.1, t12.f_C.2), t12.f_Scale⟩ : Sapi_Dec), (⟨IntKind.wrap .u64 (t8), t9⟩ : Sapi_Label)⟩ : Sapi_Rule))) (some (⟨3, 0, 0, (-1), t1, t2, (⟨(List.getD [(⟨t3.f_Neg, (t3.f_C.1, t3.f_C.2), t3.f_Scale⟩ : Sapi_Dec), (⟨t4.f_Neg, (t4.f_C.1, t4.f_C.2), t4.f_Scale⟩ : Sapi_Dec), (⟨t5.f_Neg, (t5.f_C.1, t5.f_C.2), t5.f_Scale⟩ : Sapi_Dec), (⟨t6.f_Neg, (t6.f_C.1, t6.f_C.2), t6.f_Scale⟩ : Sapi_Dec)] (Int.toNat t7) Sapi_Dec.zero).f_Neg, (((List.getD [(⟨t3.f_Neg, (t3.f_C.1, t3.f_C.2), t3.f_Scale⟩ : Sapi_Dec), (⟨t4.f_Neg, (t4.f_C.1, t4.f_C.2), t4.f_Scale⟩ : Sapi_Dec), (⟨t5.f_Neg, (t5.f_C.1, t5.f_C.2), t5.f_Scale⟩ : Sapi_Dec), (⟨t6.f_Neg, (t6.f_C.1, t6.f_C.2), t6.f_Scale⟩ : Sapi_Dec)] (Int.toNat t7) Sapi_Dec.zero).f_C).1, ((List.getD [(⟨t3.f_Neg, (t3.f_C.1, t3.f_C.2), t3.f_Scale⟩ : Sapi_Dec), (⟨t4.f_Neg, (t4.f_C.1, t4.f_C.2), t4.f_Scale⟩ : Sapi_Dec), (⟨t5.f_Neg, (t5.f_C.1, t5.f_C.2), t5.f_Scale⟩ : Sapi_Dec), (⟨t6.f_Neg, (t6.f_C.1, t6.f_C.2), t6.f_Scale⟩ : Sapi_Dec)] (Int.toNat t7) Sapi_Dec.zero).f_C).2), (List.getD [(⟨t3.f_Neg, (t3.f_C.1, t3.f_C.2), t3.f_Scale⟩ : Sapi_Dec), (⟨t4.f_Neg, (t4.f_C.1, t4.f_C.2), t4.f_Scale⟩ : Sapi_Dec), (⟨t5.f_Neg, (t5.f_C.1, t5.f_C.2), t5.f_Scale⟩ : Sapi_Dec), (⟨t6.f_Neg, (t6.f_C.1, t6.f_C.2), t6.f_Scale⟩ : Sapi_Dec)] (Int.toNat t7) Sapi_Dec.zero).f_Scale⟩ : Sapi_Dec), (⟨IntKind.wrap .u64 (t8), t9⟩ : Sapi_Label)⟩ : Sapi_Rule)))))))) none)))))))
noncomputable def pyxlaw25_rule.un (s : St U) : Option Spyxlaw25_Raw := match s.get 0 with | .agg x1 => (cd_Spyxlaw25_Raw.full x1).bind fun x2 => (some x2) | _ => none
noncomputable def pyxlaw25_rule.mk (x : Spyxlaw25_Raw) : St U := ⟨[(0, .agg (cd_Spyxlaw25_Raw.enc x))], []⟩
noncomputable def pyxlaw25_rule.fin (y : Sapi_Rule) : St U := ⟨[(0, .agg (cd_Sapi_Rule.enc y))], []⟩
noncomputable def pyxlaw25_rule.D (k : Nat) : FDen U := { X := Spyxlaw25_Raw, Y := Sapi_Rule, nt := 54, gh := [], un := pyxlaw25_rule.un, f := fun x => pyxlaw25_rule.f k (x), fin := pyxlaw25_rule.fin, cl := true, clo := fun _ _ => rfl }
noncomputable def pyxlaw25_rule.re (s : St U) : Option Sapi_Rule := match s.get 0 with | .agg x1 => (cd_Sapi_Rule.full x1).bind fun x2 => (some x2) | _ => none
noncomputable def pyxlaw25_rule.jl : List (Nat × JDen U) := []
noncomputable def pyxlaw25_rule.fl (k : Nat) : List (Nat × FDen U) := [(25, pyxhand_Pick.D k), (17, pyxref1_Of.D k), (21, pyxhand_Dec.D k)]
noncomputable def pyxlaw25_rule.ll (k : Nat) : List (Nat × LDen U) := []
noncomputable def pyxlaw25_rule.E (k : Nat) : Env U := { P := Try.prog, D := DD, fd := lk (pyxlaw25_rule.fl k), ld := lk (pyxlaw25_rule.ll k), jd := lk pyxlaw25_rule.jl, mode := lk [(136, (4, C.Sapi_Dec))], elc := lk ec, mpc := lk mc, rts := Try.f22.resultTypes.toList, dyn := fun t => false, vecs := fun d => false, results := Try.f22.results.toList, gh := [], own := false, io := fun g i => false }
theorem pyxlaw25_rule.ok (k : Nat) : EnvOk (pyxlaw25_rule.E k) := envOk lawful (pyxlaw25_rule.fl k) (pyxlaw25_rule.ll k) pyxlaw25_rule.jl _ _ _ _ _ _ _ _ _ _ (by
  intro p hp
  simp only [pyxlaw25_rule.fl, List.mem_cons, List.not_mem_nil, or_false] at hp
  rcases hp with rfl | rfl | rfl
  · exact ⟨pyxhand_Pick.sound k, enter_of Try.func25 (by kernel_rfl) (by kernel_rfl)⟩
  · exact ⟨pyxref1_Of.sound k, enter_of Try.func17 (by kernel_rfl) (by kernel_rfl)⟩
  · exact ⟨pyxhand_Dec.sound k, enter_of Try.func21 (by kernel_rfl) (by kernel_rfl)⟩) (by
  intro p hp
  simp [pyxlaw25_rule.jl] at hp)
theorem pyxlaw25_rule.eq (k : Nat) (x : Spyxlaw25_Raw) : runF (pyxlaw25_rule.E k) (codeOf Try.f22) (pyxlaw25_rule.mk x) pyxlaw25_rule.re = (pyxlaw25_rule.D k).f x := by kernel_rfl
theorem pyxlaw25_rule.fit (s : St U) (x : Spyxlaw25_Raw) (h : pyxlaw25_rule.un s = some x) : Fits s (pyxlaw25_rule.mk x) := by
  unfold pyxlaw25_rule.un at h
  split at h
  · obtain ⟨x2, hx2, hh1⟩ := Option.bind_eq_some_iff.1 h
    have hc1 := Cd.full_ok hx2
    clear hx2
    subst hc1
    cases hh1
    refine fits_ren [] ?_ ?_ ren_nil rfl
    · exact List.forall_mem_cons.2 ⟨FV.one (FV.same (by assumption) rfl), fun _ hp => (List.not_mem_nil hp).elim⟩
    · exact fun _ hp => (List.not_mem_nil hp).elim
  · cases h
theorem pyxlaw25_rule.fitR (s : St U) (y : Sapi_Rule) (h : pyxlaw25_rule.re s = some y) : Fits s (pyxlaw25_rule.fin y) := by
  unfold pyxlaw25_rule.re at h
  split at h
  · obtain ⟨x2, hx2, hh1⟩ := Option.bind_eq_some_iff.1 h
    have hc1 := Cd.full_ok hx2
    clear hx2
    subst hc1
    cases hh1
    refine fits_ren [] ?_ ?_ ren_nil rfl
    · exact List.forall_mem_cons.2 ⟨FV.one (FV.same (by assumption) rfl), fun _ hp => (List.not_mem_nil hp).elim⟩
    · exact fun _ hp => (List.not_mem_nil hp).elim
  · cases h
theorem pyxlaw25_rule.sound (k : Nat) : Sound Try.prog DD 22 (pyxlaw25_rule.D k) :=
  fun_sound (E := pyxlaw25_rule.E k) (fn := Try.f22) (c := codeOf Try.f22) (pyxlaw25_rule.ok k) mixed rfl Try.func22 (by kernel_rfl) (by kernel_rfl) (allL_of (l := []) (by kernel_rfl) allL_nil) (pyxlaw25_rule.D k) pyxlaw25_rule.mk pyxlaw25_rule.re (by kernel_rfl) (by kernel_rfl) pyxlaw25_rule.fit pyxlaw25_rule.fitR (pyxlaw25_rule.eq k)
/-! ### pyx/pyxlaw25.key: function 23 -/
noncomputable def pyxlaw25_key.f (k : Nat) (a0 : Spyxlaw25_Raw) : Option Sgate_Key := (pyxhand_Pick.f k a0.f_Group 2).bind fun t1 => ((pyxhand_Pick.f k a0.f_Line 3).bind fun t2 => ((pyxhand_Pick.f k a0.f_Period 2).bind fun t3 => ((pyxhand_Pick.f k a0.f_Version 2).bind fun t4 => (some (⟨t1, t2, t3, t4⟩ : Sgate_Key)))))
noncomputable def pyxlaw25_key.un (s : St U) : Option Spyxlaw25_Raw := match s.get 0 with | .agg x1 => (cd_Spyxlaw25_Raw.full x1).bind fun x2 => (some x2) | _ => none
noncomputable def pyxlaw25_key.mk (x : Spyxlaw25_Raw) : St U := ⟨[(0, .agg (cd_Spyxlaw25_Raw.enc x))], []⟩
noncomputable def pyxlaw25_key.fin (y : Sgate_Key) : St U := ⟨[(0, .agg [.flat (.int .i64 y.f_Group), .flat (.int .i64 y.f_Line), .flat (.int .i64 y.f_Period), .flat (.int .i64 y.f_Version)])], []⟩
noncomputable def pyxlaw25_key.D (k : Nat) : FDen U := { X := Spyxlaw25_Raw, Y := Sgate_Key, nt := 16, gh := [], un := pyxlaw25_key.un, f := fun x => pyxlaw25_key.f k (x), fin := pyxlaw25_key.fin, cl := true, clo := fun _ _ => rfl }
noncomputable def pyxlaw25_key.re (s : St U) : Option Sgate_Key := match s.get 0 with | .agg [.flat (.int .i64 x1), .flat (.int .i64 x2), .flat (.int .i64 x3), .flat (.int .i64 x4)] => some (⟨x1, x2, x3, x4⟩ : Sgate_Key) | _ => none
noncomputable def pyxlaw25_key.jl : List (Nat × JDen U) := []
noncomputable def pyxlaw25_key.fl (k : Nat) : List (Nat × FDen U) := [(25, pyxhand_Pick.D k)]
noncomputable def pyxlaw25_key.ll (k : Nat) : List (Nat × LDen U) := []
noncomputable def pyxlaw25_key.E (k : Nat) : Env U := { P := Try.prog, D := DD, fd := lk (pyxlaw25_key.fl k), ld := lk (pyxlaw25_key.ll k), jd := lk pyxlaw25_key.jl, mode := lk [], elc := lk ec, mpc := lk mc, rts := Try.f23.resultTypes.toList, dyn := fun t => false, vecs := fun d => false, results := Try.f23.results.toList, gh := [], own := false, io := fun g i => false }
theorem pyxlaw25_key.ok (k : Nat) : EnvOk (pyxlaw25_key.E k) := envOk lawful (pyxlaw25_key.fl k) (pyxlaw25_key.ll k) pyxlaw25_key.jl _ _ _ _ _ _ _ _ _ _ (by
  intro p hp
  simp only [pyxlaw25_key.fl, List.mem_cons, List.not_mem_nil, or_false] at hp
  rcases hp with rfl
  · exact ⟨pyxhand_Pick.sound k, enter_of Try.func25 (by kernel_rfl) (by kernel_rfl)⟩) (by
  intro p hp
  simp [pyxlaw25_key.jl] at hp)
theorem pyxlaw25_key.eq (k : Nat) (x : Spyxlaw25_Raw) : runF (pyxlaw25_key.E k) (codeOf Try.f23) (pyxlaw25_key.mk x) pyxlaw25_key.re = (pyxlaw25_key.D k).f x := by kernel_rfl
theorem pyxlaw25_key.fit (s : St U) (x : Spyxlaw25_Raw) (h : pyxlaw25_key.un s = some x) : Fits s (pyxlaw25_key.mk x) := by
  unfold pyxlaw25_key.un at h
  split at h
  · obtain ⟨x2, hx2, hh1⟩ := Option.bind_eq_some_iff.1 h
    have hc1 := Cd.full_ok hx2
    clear hx2
    subst hc1
    cases hh1
    refine fits_ren [] ?_ ?_ ren_nil rfl
    · exact List.forall_mem_cons.2 ⟨FV.one (FV.same (by assumption) rfl), fun _ hp => (List.not_mem_nil hp).elim⟩
    · exact fun _ hp => (List.not_mem_nil hp).elim
  · cases h
theorem pyxlaw25_key.fitR (s : St U) (y : Sgate_Key) (h : pyxlaw25_key.re s = some y) : Fits s (pyxlaw25_key.fin y) := by
  unfold pyxlaw25_key.re at h
  split at h
  · cases h
    refine fits_ren [] ?_ ?_ ren_nil rfl
    · exact List.forall_mem_cons.2 ⟨FV.one (FV.same (by assumption) rfl), fun _ hp => (List.not_mem_nil hp).elim⟩
    · exact fun _ hp => (List.not_mem_nil hp).elim
  · cases h
theorem pyxlaw25_key.sound (k : Nat) : Sound Try.prog DD 23 (pyxlaw25_key.D k) :=
  fun_sound (E := pyxlaw25_key.E k) (fn := Try.f23) (c := codeOf Try.f23) (pyxlaw25_key.ok k) mixed rfl Try.func23 (by kernel_rfl) (by kernel_rfl) (allL_of (l := []) (by kernel_rfl) allL_nil) (pyxlaw25_key.D k) pyxlaw25_key.mk pyxlaw25_key.re (by kernel_rfl) (by kernel_rfl) pyxlaw25_key.fit pyxlaw25_key.fitR (pyxlaw25_key.eq k)
/-! ### pyx/label.Join: function 49 -/
noncomputable def label_Join.f (k : Nat) (a0 : Sapi_Label) (a1 : Sapi_Label) : Option Sapi_Label := some (⟨bits .or .u64 a0.f_Set a1.f_Set, (if a1.f_Level > a0.f_Level then a1.f_Level else a0.f_Level)⟩ : Sapi_Label)
noncomputable def label_Join.un (s : St U) : Option (Sapi_Label × Sapi_Label) := match s.get 0, s.get 1 with | .agg [.flat (.int .u64 x1), .flat (.int .i64 x2)], .agg [.flat (.int .u64 x3), .flat (.int .i64 x4)] => some ((⟨x1, x2⟩ : Sapi_Label), (⟨x3, x4⟩ : Sapi_Label)) | _, _ => none
noncomputable def label_Join.mk (x : (Sapi_Label × Sapi_Label)) : St U := ⟨[(0, .agg [.flat (.int .u64 x.1.f_Set), .flat (.int .i64 x.1.f_Level)]), (1, .agg [.flat (.int .u64 x.2.f_Set), .flat (.int .i64 x.2.f_Level)])], []⟩
noncomputable def label_Join.fin (y : Sapi_Label) : St U := ⟨[(0, .agg [.flat (.int .u64 y.f_Set), .flat (.int .i64 y.f_Level)])], []⟩
noncomputable def label_Join.D (k : Nat) : FDen U := { X := (Sapi_Label × Sapi_Label), Y := Sapi_Label, nt := 16, gh := [], un := label_Join.un, f := fun x => label_Join.f k (x.1) (x.2), fin := label_Join.fin, cl := true, clo := fun _ _ => rfl }
noncomputable def label_Join.re (s : St U) : Option Sapi_Label := match s.get 0 with | .agg [.flat (.int .u64 x1), .flat (.int .i64 x2)] => some (⟨x1, x2⟩ : Sapi_Label) | _ => none
noncomputable def label_Join.jl : List (Nat × JDen U) := []
noncomputable def label_Join.fl (k : Nat) : List (Nat × FDen U) := []
noncomputable def label_Join.ll (k : Nat) : List (Nat × LDen U) := []
noncomputable def label_Join.E (k : Nat) : Env U := { P := Try.prog, D := DD, fd := lk (label_Join.fl k), ld := lk (label_Join.ll k), jd := lk label_Join.jl, mode := lk [], elc := lk ec, mpc := lk mc, rts := Try.f49.resultTypes.toList, dyn := fun t => false, vecs := fun d => false, results := Try.f49.results.toList, gh := [], own := false, io := fun g i => false }
theorem label_Join.ok (k : Nat) : EnvOk (label_Join.E k) := envOk lawful (label_Join.fl k) (label_Join.ll k) label_Join.jl _ _ _ _ _ _ _ _ _ _ (by
  intro p hp
  simp [label_Join.fl] at hp) (by
  intro p hp
  simp [label_Join.jl] at hp)
theorem label_Join.eq (k : Nat) (x : (Sapi_Label × Sapi_Label)) : runF (label_Join.E k) (codeOf Try.f49) (label_Join.mk x) label_Join.re = (label_Join.D k).f x := by kernel_rfl
theorem label_Join.fit (s : St U) (x : (Sapi_Label × Sapi_Label)) (h : label_Join.un s = some x) : Fits s (label_Join.mk x) := by
  unfold label_Join.un at h
  split at h
  · cases h
    refine fits_ren [] ?_ ?_ ren_nil rfl
    · exact List.forall_mem_cons.2 ⟨FV.one (FV.same (by assumption) rfl), List.forall_mem_cons.2 ⟨FV.one (FV.same (by assumption) rfl), fun _ hp => (List.not_mem_nil hp).elim⟩⟩
    · exact fun _ hp => (List.not_mem_nil hp).elim
  · cases h
theorem label_Join.fitR (s : St U) (y : Sapi_Label) (h : label_Join.re s = some y) : Fits s (label_Join.fin y) := by
  unfold label_Join.re at h
  split at h
  · cases h
    refine fits_ren [] ?_ ?_ ren_nil rfl
    · exact List.forall_mem_cons.2 ⟨FV.one (FV.same (by assumption) rfl), fun _ hp => (List.not_mem_nil hp).elim⟩
    · exact fun _ hp => (List.not_mem_nil hp).elim
  · cases h
theorem label_Join.sound (k : Nat) : Sound Try.prog DD 49 (label_Join.D k) :=
  fun_sound (E := label_Join.E k) (fn := Try.f49) (c := codeOf Try.f49) (label_Join.ok k) mixed rfl Try.func49 (by kernel_rfl) (by kernel_rfl) (allL_of (l := []) (by kernel_rfl) allL_nil) (label_Join.D k) label_Join.mk label_Join.re (by kernel_rfl) (by kernel_rfl) label_Join.fit label_Join.fitR (label_Join.eq k)
/-! ### pyx/label.Below: function 50 -/
noncomputable def label_Below.f (k : Nat) (a0 : Sapi_Label) (a1 : Sapi_Label) : Option Bool := cond ((bits .andNot .u64 a0.f_Set a1.f_Set) == 0) (some (decide (a0.f_Level ≤ a1.f_Level))) (some false)
noncomputable def label_Below.un (s : St U) : Option (Sapi_Label × Sapi_Label) := match s.get 0, s.get 1 with | .agg [.flat (.int .u64 x1), .flat (.int .i64 x2)], .agg [.flat (.int .u64 x3), .flat (.int .i64 x4)] => some ((⟨x1, x2⟩ : Sapi_Label), (⟨x3, x4⟩ : Sapi_Label)) | _, _ => none
noncomputable def label_Below.mk (x : (Sapi_Label × Sapi_Label)) : St U := ⟨[(0, .agg [.flat (.int .u64 x.1.f_Set), .flat (.int .i64 x.1.f_Level)]), (1, .agg [.flat (.int .u64 x.2.f_Set), .flat (.int .i64 x.2.f_Level)])], []⟩
noncomputable def label_Below.fin (y : Bool) : St U := ⟨[(0, .flat (.bool y))], []⟩
noncomputable def label_Below.D (k : Nat) : FDen U := { X := (Sapi_Label × Sapi_Label), Y := Bool, nt := 18, gh := [], un := label_Below.un, f := fun x => label_Below.f k (x.1) (x.2), fin := label_Below.fin, cl := true, clo := fun _ _ => rfl }
noncomputable def label_Below.re (s : St U) : Option Bool := match s.get 0 with | .flat (.bool x1) => some x1 | _ => none
noncomputable def label_Below.jl : List (Nat × JDen U) := []
noncomputable def label_Below.fl (k : Nat) : List (Nat × FDen U) := []
noncomputable def label_Below.ll (k : Nat) : List (Nat × LDen U) := []
noncomputable def label_Below.E (k : Nat) : Env U := { P := Try.prog, D := DD, fd := lk (label_Below.fl k), ld := lk (label_Below.ll k), jd := lk label_Below.jl, mode := lk [], elc := lk ec, mpc := lk mc, rts := Try.f50.resultTypes.toList, dyn := fun t => false, vecs := fun d => false, results := Try.f50.results.toList, gh := [], own := false, io := fun g i => false }
theorem label_Below.ok (k : Nat) : EnvOk (label_Below.E k) := envOk lawful (label_Below.fl k) (label_Below.ll k) label_Below.jl _ _ _ _ _ _ _ _ _ _ (by
  intro p hp
  simp [label_Below.fl] at hp) (by
  intro p hp
  simp [label_Below.jl] at hp)
theorem label_Below.eq (k : Nat) (x : (Sapi_Label × Sapi_Label)) : runF (label_Below.E k) (codeOf Try.f50) (label_Below.mk x) label_Below.re = (label_Below.D k).f x := by kernel_rfl
theorem label_Below.fit (s : St U) (x : (Sapi_Label × Sapi_Label)) (h : label_Below.un s = some x) : Fits s (label_Below.mk x) := by
  unfold label_Below.un at h
  split at h
  · cases h
    refine fits_ren [] ?_ ?_ ren_nil rfl
    · exact List.forall_mem_cons.2 ⟨FV.one (FV.same (by assumption) rfl), List.forall_mem_cons.2 ⟨FV.one (FV.same (by assumption) rfl), fun _ hp => (List.not_mem_nil hp).elim⟩⟩
    · exact fun _ hp => (List.not_mem_nil hp).elim
  · cases h
theorem label_Below.fitR (s : St U) (y : Bool) (h : label_Below.re s = some y) : Fits s (label_Below.fin y) := by
  unfold label_Below.re at h
  split at h
  · cases h
    refine fits_ren [] ?_ ?_ ren_nil rfl
    · exact List.forall_mem_cons.2 ⟨FV.one (FV.same (by assumption) rfl), fun _ hp => (List.not_mem_nil hp).elim⟩
    · exact fun _ hp => (List.not_mem_nil hp).elim
  · cases h
theorem label_Below.sound (k : Nat) : Sound Try.prog DD 50 (label_Below.D k) :=
  fun_sound (E := label_Below.E k) (fn := Try.f50) (c := codeOf Try.f50) (label_Below.ok k) mixed rfl Try.func50 (by kernel_rfl) (by kernel_rfl) (allL_of (l := []) (by kernel_rfl) allL_nil) (label_Below.D k) label_Below.mk label_Below.re (by kernel_rfl) (by kernel_rfl) label_Below.fit label_Below.fitR (label_Below.eq k)
/-! ### (*pyx/gate.Gate).Seen: function 20 -/
noncomputable def gate_Gate_Seen.l3.once (k : Nat) (x : (List Sgate_Out × List Sgate_Out × Int × Int × Int × Int × List Sgate_Out × List (Sgate_Key × Int))) : Option ((List Sgate_Out × List Sgate_Out × Int × Int × Int × Int × List Sgate_Out × List (Sgate_Key × Int)) ⊕ ((List Sgate_Out × List Sgate_Out × List (Sgate_Key × Int)))) := match x with | (x4, x5, x6, x7, x2, x3, x8, x9) => cond (decide (x7 < x6)) (cond (inb x7 (List.length x5)) ((label_Below.f k (⟨((List.getD x5 (Int.toNat x7) Sgate_Out.zero).f_To).f_Set, ((List.getD x5 (Int.toNat x7) Sgate_Out.zero).f_To).f_Level⟩ : Sapi_Label) (⟨x2, x3⟩ : Sapi_Label)).bind fun t10 => (cond (t10) (cond (okLen (List.length x4 + List.length [(⟨(⟨((List.getD x5 (Int.toNat x7) Sgate_Out.zero).f_K).f_Group, ((List.getD x5 (Int.toNat x7) Sgate_Out.zero).f_K).f_Line, ((List.getD x5 (Int.toNat x7) Sgate_Out.zero).f_K).f_Period, ((List.getD x5 (Int.toNat x7) Sgate_Out.zero).f_K).f_Version⟩ : Sgate_Key), (List.getD x5 (Int.toNat x7) Sgate_Out.zero).f_Rule, (⟨((List.getD x5 (Int.toNat x7) Sgate_Out.zero).f_Value).f_Neg, ((((List.getD x5 (Int.toNat x7) Sgate_Out.zero).f_Value).f_C).1, (((List.getD x5 (Int.toNat x7) Sgate_Out.zero).f_Value).f_C).2), ((List.getD x5 (Int.toNat x7) Sgate_Out.zero).f_Value).f_Scale⟩ : Sapi_Dec), (⟨((List.getD x5 (Int.toNat x7) Sgate_Out.zero).f_To).f_Set, ((List.getD x5 (Int.toNat x7) Sgate_Out.zero).f_To).f_Level⟩ : Sapi_Label)⟩ : Sgate_Out)]) 88) (some (.inl (x4 ++ [(⟨(⟨((List.getD x5 (Int.toNat x7) Sgate_Out.zero).f_K).f_Group, ((List.getD x5 (Int.toNat x7) Sgate_Out.zero).f_K).f_Line, ((List.getD x5 (Int.toNat x7) Sgate_Out.zero).f_K).f_Period, ((List.getD x5 (Int.toNat x7) Sgate_Out.zero).f_K).f_Version⟩ : Sgate_Key), (List.getD x5 (Int.toNat x7) Sgate_Out.zero).f_Rule, (⟨((List.getD x5 (Int.toNat x7) Sgate_Out.zero).f_Value).f_Neg, ((((List.getD x5 (Int.toNat x7) Sgate_Out.zero).f_Value).f_C).1, (((List.getD x5 (Int.toNat x7) Sgate_Out.zero).f_Value).f_C).2), ((List.getD x5 (Int.toNat x7) Sgate_Out.zero).f_Value).f_Scale⟩ : Sapi_Dec), (⟨((List.getD x5 (Int.toNat x7) Sgate_Out.zero).f_To).f_Set, ((List.getD x5 (Int.toNat x7) Sgate_Out.zero).f_To).f_Level⟩ : Sapi_Label)⟩ : Sgate_Out)], x5, x6, IntKind.wrap .i64 (x7 + 1), x2, x3, x8, x9))) none) (some (.inl (x4, x5, x6, IntKind.wrap .i64 (x7 + 1), x2, x3, x8, x9))))) none) (some (.inr (x4, x8, x9)))
noncomputable def gate_Gate_Seen.f (k : Nat) (a0 : Sgate_Gate) (a1 : Sapi_Label) : Option (List Sgate_Out × Sgate_Gate) := (gate_Gate_Log.f k (⟨a0.f_l, a0.f_at⟩ : Sgate_Gate)).bind fun t1 => ((iter (gate_Gate_Seen.l3.once k) k (([] : List Sgate_Out), t1.1, (List.length t1.1 : Int), 0, a1.f_Set, a1.f_Level, t1.2.f_l, t1.2.f_at)).bind fun y14 => ((slices_Clip_gate_Out.f k y14.1).bind fun t15 => (some (t15, (⟨y14.2.1, y14.2.2⟩ : Sgate_Gate)))))
noncomputable def gate_Gate_Seen.un (s : St U) : Option (Sgate_Gate × Sapi_Label) := match s.get 0, lk s.o 7000000000000, s.get 1, s.get 1000000000000000 with | .ptr 7000000000000 0, some (.lit [x3, x4]), .agg [.flat (.int .u64 x5), .flat (.int .i64 x6)], .ptr 7000000000000 0 => (tip_Sgate_Out s.o 11 x3).bind fun ex1 => ((map_Sgate_Key_i64_t s.o x4).bind fun ex2 => (cond (apart [ex1.1, ex2.1]) (some ((⟨ex1.2, ex2.2⟩ : Sgate_Gate), (⟨x5, x6⟩ : Sapi_Label))) none)) | _, _, _, _ => none
noncomputable def gate_Gate_Seen.mk (x : (Sgate_Gate × Sapi_Label)) : St U := ⟨[(0, .ptr 7000000000000 0), (1, .agg [.flat (.int .u64 x.2.f_Set), .flat (.int .i64 x.2.f_Level)]), (1000000000000000, .ptr 7000000000000 0)], [(7000000000000, .lit [.tip 7000000000001 C.Sgate_Out x.1.f_l, .mp 7000000000002]), (7000000000001, .tip 11), (7000000000002, .map true true false C.Sgate_Key C.i64 x.1.f_at)]⟩
noncomputable def gate_Gate_Seen.fin (y : (List Sgate_Out × Sgate_Gate)) : St U := ⟨[(0, .row C.Sgate_Out y.1), (1000000000000000, .ptr 7000000000000 0)], [(7000000000000, .lit [.tip 7000000000001 C.Sgate_Out y.2.f_l, .mp 7000000000002]), (7000000000001, .tip 11), (7000000000002, .map true true false C.Sgate_Key C.i64 y.2.f_at)]⟩
noncomputable def gate_Gate_Seen.D (k : Nat) : FDen U := { X := (Sgate_Gate × Sapi_Label), Y := (List Sgate_Out × Sgate_Gate), nt := 26, gh := [0], un := gate_Gate_Seen.un, f := fun x => gate_Gate_Seen.f k (x.1) (x.2), fin := gate_Gate_Seen.fin, cl := false, clo := fun h => by cases h }
noncomputable def gate_Gate_Seen.re (s : St U) : Option (List Sgate_Out × Sgate_Gate) := match s.get 0, s.get 1000000000000000, lk s.o 7000000000000 with | .row C.Sgate_Out x1, .ptr 7000000000000 0, some (.lit [x4, x5]) => (tip_Sgate_Out s.o 11 x4).bind fun ex2 => ((map_Sgate_Key_i64_t s.o x5).bind fun ex3 => (cond (apart [ex2.1, ex3.1]) (some (x1, (⟨ex2.2, ex3.2⟩ : Sgate_Gate))) none)) | _, _, _ => none
noncomputable def gate_Gate_Seen.l3.mk (x : (List Sgate_Out × List Sgate_Out × Int × Int × Int × Int × List Sgate_Out × List (Sgate_Key × Int))) : St U := match x with | (x4, x5, x6, x7, x2, x3, x8, x9) => ⟨[(3, .ptr 3 0), (1000000000000000, .ptr 7000000000000 0), (5, .tip 1003005 C.Sgate_Out x4), (9, .row C.Sgate_Out x5), (10, .flat (.int .i64 x6)), (11, .flat (.int .i64 x7))], [(3, .lit [.flat (.int .u64 x2), .flat (.int .i64 x3)]), (1003005, .tip 11), (7000000000000, .lit [.tip 700002000300000 C.Sgate_Out x8, .mp 700002000300001]), (700002000300000, .tip 11), (700002000300001, .map true true false C.Sgate_Key C.i64 x9)]⟩
noncomputable def gate_Gate_Seen.l3.un (s : St U) : Option (List Sgate_Out × List Sgate_Out × Int × Int × Int × Int × List Sgate_Out × List (Sgate_Key × Int)) := (tip_Sgate_Out s.o 11 (s.get 5)).bind fun q0 => ((row_Sgate_Out (s.get 9)).bind fun q1 => (match s.get 3, s.get 1000000000000000, s.get 10, s.get 11, lk s.o 3, lk s.o 7000000000000 with | .ptr 3 0, .ptr 7000000000000 0, .flat (.int .i64 x6), .flat (.int .i64 x7), some (.lit [.flat (.int .u64 x2), .flat (.int .i64 x3)]), some (.lit [u7000000000000_0, u7000000000000_1]) => (tip_Sgate_Out s.o 11 u7000000000000_0).bind fun w7000000000000_0 => ((map_Sgate_Key_i64_t s.o u7000000000000_1).bind fun w7000000000000_1 => (cond (apart [q0.1, w7000000000000_0.1, w7000000000000_1.1]) (some (q0.2, q1, x6, x7, x2, x3, w7000000000000_0.2, w7000000000000_1.2)) none)) | _, _, _, _, _, _ => none))
noncomputable def gate_Gate_Seen.l3.fin (y : (List Sgate_Out × List Sgate_Out × List (Sgate_Key × Int))) : Out U := match y with | (x11, x12, x13) => .exit 0 ⟨[(1000000000000000, .ptr 7000000000000 0), (5, .tip 1003005 C.Sgate_Out x11)], [(1003005, .tip 11), (7000000000000, .lit [.tip 700002000300000 C.Sgate_Out x12, .mp 700002000300001]), (700002000300000, .tip 11), (700002000300001, .map true true false C.Sgate_Key C.i64 x13)]⟩
noncomputable def gate_Gate_Seen.l3.finK {ρ : Type} (y : (List Sgate_Out × List Sgate_Out × List (Sgate_Key × Int))) (K : Out U → Option ρ) : Option ρ := match y with | (x11, x12, x13) => K (.exit 0 ⟨[(1000000000000000, .ptr 7000000000000 0), (5, .tip 1003005 C.Sgate_Out x11)], [(1003005, .tip 11), (7000000000000, .lit [.tip 700002000300000 C.Sgate_Out x12, .mp 700002000300001]), (700002000300000, .tip 11), (700002000300001, .map true true false C.Sgate_Key C.i64 x13)]⟩)
theorem gate_Gate_Seen.l3.finK_eq {ρ : Type} (y : (List Sgate_Out × List Sgate_Out × List (Sgate_Key × Int))) (K : Out U → Option ρ) : gate_Gate_Seen.l3.finK y K = K (gate_Gate_Seen.l3.fin y) := by
  unfold gate_Gate_Seen.l3.finK gate_Gate_Seen.l3.fin
  first | rfl | (split <;> rfl)
noncomputable def gate_Gate_Seen.l3.re : Out U → Option ((List Sgate_Out × List Sgate_Out × List (Sgate_Key × Int))) | .exit 0 s => ((tip_Sgate_Out s.o 11 (s.get 5)).bind fun q0 => (match s.get 1000000000000000, lk s.o 7000000000000 with | .ptr 7000000000000 0, some (.lit [u7000000000000_0, u7000000000000_1]) => (tip_Sgate_Out s.o 11 u7000000000000_0).bind fun w7000000000000_0 => ((map_Sgate_Key_i64_t s.o u7000000000000_1).bind fun w7000000000000_1 => (cond (apart [q0.1, w7000000000000_0.1, w7000000000000_1.1]) (some (q0.2, w7000000000000_0.2, w7000000000000_1.2)) none)) | _, _ => none)) | _ => none
noncomputable def gate_Gate_Seen.l3.L (k : Nat) : LDen U := { X := (List Sgate_Out × List Sgate_Out × Int × Int × Int × Int × List Sgate_Out × List (Sgate_Key × Int)), Y := (List Sgate_Out × List Sgate_Out × List (Sgate_Key × Int)), un := gate_Gate_Seen.l3.un, f := iter (gate_Gate_Seen.l3.once k) k, fin := gate_Gate_Seen.l3.fin, finK := gate_Gate_Seen.l3.finK, finK_eq := gate_Gate_Seen.l3.finK_eq }
noncomputable def gate_Gate_Seen.jl : List (Nat × JDen U) := []
noncomputable def gate_Gate_Seen.fl (k : Nat) : List (Nat × FDen U) := [(19, gate_Gate_Log.D k), (50, label_Below.D k), (62, slices_Clip_gate_Out.D k)]
noncomputable def gate_Gate_Seen.ll (k : Nat) : List (Nat × LDen U) := [(3, gate_Gate_Seen.l3.L k)]
noncomputable def gate_Gate_Seen.E (k : Nat) : Env U := { P := Try.prog, D := DD, fd := lk (gate_Gate_Seen.fl k), ld := lk (gate_Gate_Seen.ll k), jd := lk gate_Gate_Seen.jl, mode := lk [], elc := lk ec, mpc := lk mc, rts := Try.f20.resultTypes.toList, dyn := fun t => false, vecs := fun d => false, results := Try.f20.results.toList, gh := [0], own := false, io := fun g i => false }
theorem gate_Gate_Seen.ok (k : Nat) : EnvOk (gate_Gate_Seen.E k) := envOk lawful (gate_Gate_Seen.fl k) (gate_Gate_Seen.ll k) gate_Gate_Seen.jl _ _ _ _ _ _ _ _ _ _ (by
  intro p hp
  simp only [gate_Gate_Seen.fl, List.mem_cons, List.not_mem_nil, or_false] at hp
  rcases hp with rfl | rfl | rfl
  · exact ⟨gate_Gate_Log.sound k, enter_of Try.func19 (by kernel_rfl) (by kernel_rfl)⟩
  · exact ⟨label_Below.sound k, enter_of Try.func50 (by kernel_rfl) (by kernel_rfl)⟩
  · exact ⟨slices_Clip_gate_Out.sound k, enter_of Try.func62 (by kernel_rfl) (by kernel_rfl)⟩) (by
  intro p hp
  simp [gate_Gate_Seen.jl] at hp)
theorem gate_Gate_Seen.l3.eq (k : Nat) (x : (List Sgate_Out × List Sgate_Out × Int × Int × Int × Int × List Sgate_Out × List (Sgate_Key × Int))) : evC (gate_Gate_Seen.E k) (loopAt Try.f20 3) (gate_Gate_Seen.l3.mk x) (headK gate_Gate_Seen.l3.un gate_Gate_Seen.l3.re) = gate_Gate_Seen.l3.once k x := by kernel_rfl
theorem gate_Gate_Seen.l3.fit (s : St U) (x : (List Sgate_Out × List Sgate_Out × Int × Int × Int × Int × List Sgate_Out × List (Sgate_Key × Int))) (h : gate_Gate_Seen.l3.un s = some x) : Fits s (gate_Gate_Seen.l3.mk x) := by
  unfold gate_Gate_Seen.l3.un at h
  obtain ⟨q0, eq0, h1⟩ := Option.bind_eq_some_iff.1 h
  obtain ⟨q1, eq1, h2⟩ := Option.bind_eq_some_iff.1 h1
  split at h2
  · obtain ⟨w7000000000000_0, ew7000000000000_0, h3⟩ := Option.bind_eq_some_iff.1 h2
    obtain ⟨w7000000000000_1, ew7000000000000_1, h4⟩ := Option.bind_eq_some_iff.1 h3
    obtain ⟨hap, h5⟩ := cond_none h4
    cases h5
    refine fits_ren [(1003005, q0.1), (700002000300000, w7000000000000_0.1), (700002000300001, w7000000000000_1.1)] ?_ ?_ (ren_apart hap) rfl
    · exact List.forall_mem_cons.2 ⟨FV.one (FV.ptr (by assumption)), List.forall_mem_cons.2 ⟨FV.one (FV.ptr (by assumption)), List.forall_mem_cons.2 ⟨FV.one (tip_Sgate_Out_fit eq0 rfl).1, List.forall_mem_cons.2 ⟨FV.one (row_Sgate_Out_fit eq1), List.forall_mem_cons.2 ⟨FV.one (FV.same (by assumption) rfl), List.forall_mem_cons.2 ⟨FV.one (FV.same (by assumption) rfl), fun _ hp => (List.not_mem_nil hp).elim⟩⟩⟩⟩⟩⟩
    · exact List.forall_mem_cons.2 ⟨(FO.same (show lk (St.o _) 3 = some _ from by assumption) rfl), List.forall_mem_cons.2 ⟨(tip_Sgate_Out_fit eq0 rfl).2, List.forall_mem_cons.2 ⟨(FO.cells (show lk (St.o _) 7000000000000 = some _ from by assumption) (FCs.cons ((tip_Sgate_Out_fit ew7000000000000_0 rfl).1) (FCs.cons ((map_Sgate_Key_i64_t_fit ew7000000000000_1 rfl).1) (FCs.nil)))), List.forall_mem_cons.2 ⟨(tip_Sgate_Out_fit ew7000000000000_0 rfl).2, List.forall_mem_cons.2 ⟨(map_Sgate_Key_i64_t_fit ew7000000000000_1 rfl).2, fun _ hp => (List.not_mem_nil hp).elim⟩⟩⟩⟩⟩
  · cases h2
theorem gate_Gate_Seen.l3.fitO (o : Out U) (y : (List Sgate_Out × List Sgate_Out × List (Sgate_Key × Int))) (h : gate_Gate_Seen.l3.re o = some y) : FitsO o (gate_Gate_Seen.l3.fin y) := by
  unfold gate_Gate_Seen.l3.re at h
  split at h
  · obtain ⟨q0, eq0, h1⟩ := Option.bind_eq_some_iff.1 h
    split at h1
    · obtain ⟨w7000000000000_0, ew7000000000000_0, h2⟩ := Option.bind_eq_some_iff.1 h1
      obtain ⟨w7000000000000_1, ew7000000000000_1, h3⟩ := Option.bind_eq_some_iff.1 h2
      obtain ⟨hap, h4⟩ := cond_none h3
      cases h4
      refine fitsO_exit (fits_ren [(1003005, q0.1), (700002000300000, w7000000000000_0.1), (700002000300001, w7000000000000_1.1)] ?_ ?_ (ren_apart hap) rfl)
      · exact List.forall_mem_cons.2 ⟨FV.one (FV.ptr (by assumption)), List.forall_mem_cons.2 ⟨FV.one (tip_Sgate_Out_fit eq0 rfl).1, fun _ hp => (List.not_mem_nil hp).elim⟩⟩
      · exact List.forall_mem_cons.2 ⟨(tip_Sgate_Out_fit eq0 rfl).2, List.forall_mem_cons.2 ⟨(FO.cells (show lk (St.o _) 7000000000000 = some _ from by assumption) (FCs.cons ((tip_Sgate_Out_fit ew7000000000000_0 rfl).1) (FCs.cons ((map_Sgate_Key_i64_t_fit ew7000000000000_1 rfl).1) (FCs.nil)))), List.forall_mem_cons.2 ⟨(tip_Sgate_Out_fit ew7000000000000_0 rfl).2, List.forall_mem_cons.2 ⟨(map_Sgate_Key_i64_t_fit ew7000000000000_1 rfl).2, fun _ hp => (List.not_mem_nil hp).elim⟩⟩⟩⟩
    · cases h1
  · cases h
theorem gate_Gate_Seen.l3.sound (k : Nat) : LSound (gate_Gate_Seen.E k) Try.f20.ntmps Try.f20 (loopAt Try.f20 3) (gate_Gate_Seen.l3.L k) :=
  loop_sound (gate_Gate_Seen.ok k) mixed rfl (by kernel_rfl) (allL_of (l := []) (by kernel_rfl) allL_nil) gate_Gate_Seen.l3.un gate_Gate_Seen.l3.mk gate_Gate_Seen.l3.fin gate_Gate_Seen.l3.re (gate_Gate_Seen.l3.once k) k gate_Gate_Seen.l3.fit gate_Gate_Seen.l3.fitO (gate_Gate_Seen.l3.eq k) gate_Gate_Seen.l3.finK gate_Gate_Seen.l3.finK_eq
theorem gate_Gate_Seen.eq (k : Nat) (x : (Sgate_Gate × Sapi_Label)) : runF (gate_Gate_Seen.E k) (codeOf Try.f20) (gate_Gate_Seen.mk x) gate_Gate_Seen.re = (gate_Gate_Seen.D k).f x := by kernel_rfl
theorem gate_Gate_Seen.fit (s : St U) (x : (Sgate_Gate × Sapi_Label)) (h : gate_Gate_Seen.un s = some x) : Fits s (gate_Gate_Seen.mk x) := by
  unfold gate_Gate_Seen.un at h
  split at h
  · obtain ⟨ex1, hex1, hh1⟩ := Option.bind_eq_some_iff.1 h
    obtain ⟨ex2, hex2, hh2⟩ := Option.bind_eq_some_iff.1 hh1
    obtain ⟨hap, hh0⟩ := cond_none hh2
    cases hh0
    refine fits_ren [(7000000000001, ex1.1), (7000000000002, ex2.1)] ?_ ?_ (ren_apart hap) rfl
    · exact List.forall_mem_cons.2 ⟨FV.one (FV.ptr (by assumption)), List.forall_mem_cons.2 ⟨FV.one (FV.same (by assumption) rfl), List.forall_mem_cons.2 ⟨FV.one (FV.ptr (by assumption)), fun _ hp => (List.not_mem_nil hp).elim⟩⟩⟩
    · exact List.forall_mem_cons.2 ⟨FO.cells (show lk (St.o _) 7000000000000 = some _ from by assumption) (FCs.cons ((tip_Sgate_Out_fit hex1 rfl).1) (FCs.cons ((map_Sgate_Key_i64_t_fit hex2 rfl).1) (FCs.nil))), List.forall_mem_cons.2 ⟨(tip_Sgate_Out_fit hex1 rfl).2, List.forall_mem_cons.2 ⟨(map_Sgate_Key_i64_t_fit hex2 rfl).2, fun _ hp => (List.not_mem_nil hp).elim⟩⟩⟩
  · cases h
theorem gate_Gate_Seen.fitR (s : St U) (y : (List Sgate_Out × Sgate_Gate)) (h : gate_Gate_Seen.re s = some y) : Fits s (gate_Gate_Seen.fin y) := by
  unfold gate_Gate_Seen.re at h
  split at h
  · obtain ⟨ex2, hex2, hh1⟩ := Option.bind_eq_some_iff.1 h
    obtain ⟨ex3, hex3, hh2⟩ := Option.bind_eq_some_iff.1 hh1
    obtain ⟨hap, hh0⟩ := cond_none hh2
    cases hh0
    refine fits_ren [(7000000000001, ex2.1), (7000000000002, ex3.1)] ?_ ?_ (ren_apart hap) rfl
    · exact List.forall_mem_cons.2 ⟨FV.one (FV.same (by assumption) rfl), List.forall_mem_cons.2 ⟨FV.one (FV.ptr (by assumption)), fun _ hp => (List.not_mem_nil hp).elim⟩⟩
    · exact List.forall_mem_cons.2 ⟨FO.cells (show lk (St.o _) 7000000000000 = some _ from by assumption) (FCs.cons ((tip_Sgate_Out_fit hex2 rfl).1) (FCs.cons ((map_Sgate_Key_i64_t_fit hex3 rfl).1) (FCs.nil))), List.forall_mem_cons.2 ⟨(tip_Sgate_Out_fit hex2 rfl).2, List.forall_mem_cons.2 ⟨(map_Sgate_Key_i64_t_fit hex3 rfl).2, fun _ hp => (List.not_mem_nil hp).elim⟩⟩⟩
  · cases h
theorem gate_Gate_Seen.sound (k : Nat) : Sound Try.prog DD 20 (gate_Gate_Seen.D k) :=
  fun_sound (E := gate_Gate_Seen.E k) (fn := Try.f20) (c := codeOf Try.f20) (gate_Gate_Seen.ok k) mixed rfl Try.func20 (by kernel_rfl) (by kernel_rfl) (allL_of (l := [loopAt Try.f20 3]) (by kernel_rfl) (allL_cons (key := 3) (by kernel_rfl) rfl (gate_Gate_Seen.l3.sound k) allL_nil)) (gate_Gate_Seen.D k) gate_Gate_Seen.mk gate_Gate_Seen.re (by kernel_rfl) (by kernel_rfl) gate_Gate_Seen.fit gate_Gate_Seen.fitR (gate_Gate_Seen.eq k)
/-! ### pyx/pyxlaw25.GateOnce: function 9 -/
noncomputable def pyxlaw25_GateOnce.l6.once (k : Nat) (x : (Int × Int × Int × Int × List Spyxlaw25_Raw × Int × Int × List Sgate_Out × List (Sgate_Key × Int) × List (Sgate_Key × Sapi_Dec))) : Option ((Int × Int × Int × Int × List Spyxlaw25_Raw × Int × Int × List Sgate_Out × List (Sgate_Key × Int) × List (Sgate_Key × Sapi_Dec)) ⊕ ((Int × Int × Int × Int × List Sgate_Out × List (Sgate_Key × Int) × List (Sgate_Key × Sapi_Dec)) ⊕ Bool)) := match x with | (x12, x13, x14, x15, x19, x20, x21, x16, x17, x18) => cond (decide (x21 < x20)) (cond (inb x21 (List.length x19)) ((pyxlaw25_rule.f k (⟨(List.getD x19 (Int.toNat x21) Spyxlaw25_Raw.zero).f_Group, (List.getD x19 (Int.toNat x21) Spyxlaw25_Raw.zero).f_Line, (List.getD x19 (Int.toNat x21) Spyxlaw25_Raw.zero).f_Period, (List.getD x19 (Int.toNat x21) Spyxlaw25_Raw.zero).f_Version, (List.getD x19 (Int.toNat x21) Spyxlaw25_Raw.zero).f_Unit, (List.getD x19 (Int.toNat x21) Spyxlaw25_Raw.zero).f_To, (List.getD x19 (Int.toNat x21) Spyxlaw25_Raw.zero).f_N, (List.getD x19 (Int.toNat x21) Spyxlaw25_Raw.zero).f_Scale, 0⟩ : Spyxlaw25_Raw)).bind fun t22 => ((pyxhand_Pick.f k ((List.getD x19 (Int.toNat x21) Spyxlaw25_Raw.zero).f_Scale) 3).bind fun t23 => ((pyxref1_Of.f k (Int.tmod ((List.getD x19 (Int.toNat x21) Spyxlaw25_Raw.zero).f_N) 100000000) t23).bind fun t24 => ((pyxlaw25_key.f k (⟨(List.getD x19 (Int.toNat x21) Spyxlaw25_Raw.zero).f_Group, (List.getD x19 (Int.toNat x21) Spyxlaw25_Raw.zero).f_Line, (List.getD x19 (Int.toNat x21) Spyxlaw25_Raw.zero).f_Period, (List.getD x19 (Int.toNat x21) Spyxlaw25_Raw.zero).f_Version, (List.getD x19 (Int.toNat x21) Spyxlaw25_Raw.zero).f_Unit, (List.getD x19 (Int.toNat x21) Spyxlaw25_Raw.zero).f_To, (List.getD x19 (Int.toNat x21) Spyxlaw25_Raw.zero).f_N, (List.getD x19 (Int.toNat x21) Spyxlaw25_Raw.zero).f_Scale, 0⟩ : Spyxlaw25_Raw)).bind fun t25 => ((gate_Gate_Release.f k (⟨x16, x17⟩ : Sgate_Gate) (⟨t22.f_Tag, t22.f_Role, t22.f_Verb, t22.f_Ent, t22.f_Group, t22.f_Line, (⟨t22.f_Unit.f_Neg, (t22.f_Unit.f_C.1, t22.f_Unit.f_C.2), t22.f_Unit.f_Scale⟩ : Sapi_Dec), (⟨t22.f_To.f_Set, t22.f_To.f_Level⟩ : Sapi_Label)⟩ : Sapi_Rule) x21 (⟨t25.f_Group, t25.f_Line, t25.f_Period, t25.f_Version⟩ : Sgate_Key) (⟨t24.f_Neg, (t24.f_C.1, t24.f_C.2), t24.f_Scale⟩ : Sapi_Dec)).bind fun t26 => ((pyxlaw25_key.f k (⟨(List.getD x19 (Int.toNat x21) Spyxlaw25_Raw.zero).f_Group, (List.getD x19 (Int.toNat x21) Spyxlaw25_Raw.zero).f_Line, (List.getD x19 (Int.toNat x21) Spyxlaw25_Raw.zero).f_Period, (List.getD x19 (Int.toNat x21) Spyxlaw25_Raw.zero).f_Version, (List.getD x19 (Int.toNat x21) Spyxlaw25_Raw.zero).f_Unit, (List.getD x19 (Int.toNat x21) Spyxlaw25_Raw.zero).f_To, (List.getD x19 (Int.toNat x21) Spyxlaw25_Raw.zero).f_N, (List.getD x19 (Int.toNat x21) Spyxlaw25_Raw.zero).f_Scale, 0⟩ : Spyxlaw25_Raw)).bind fun t27 => ((some (mget (keq_Sgate_Key (⟨t27.f_Group, t27.f_Line, t27.f_Period, t27.f_Version⟩ : Sgate_Key)) x18)).bind fun t28 => ((some (Option.getD t28 (⟨false, (0, 0), 0⟩ : Sapi_Dec))).bind fun t29 => (((cond (t26.2.2.1 != 0) (some (x12, x13, x14, x15, Option.isSome t28, x19, x20, x21, true, t26.2.2.2.f_l, t26.2.2.2.f_at, x18, (⟨(List.getD x19 (Int.toNat x21) Spyxlaw25_Raw.zero).f_Group, (List.getD x19 (Int.toNat x21) Spyxlaw25_Raw.zero).f_Line, (List.getD x19 (Int.toNat x21) Spyxlaw25_Raw.zero).f_Period, (List.getD x19 (Int.toNat x21) Spyxlaw25_Raw.zero).f_Version, (List.getD x19 (Int.toNat x21) Spyxlaw25_Raw.zero).f_Unit, (List.getD x19 (Int.toNat x21) Spyxlaw25_Raw.zero).f_To, (List.getD x19 (Int.toNat x21) Spyxlaw25_Raw.zero).f_N, (List.getD x19 (Int.toNat x21) Spyxlaw25_Raw.zero).f_Scale, 0⟩ : Spyxlaw25_Raw), (⟨t22.f_Tag, t22.f_Role, t22.f_Verb, t22.f_Ent, t22.f_Group, t22.f_Line, (⟨t22.f_Unit.f_Neg, (t22.f_Unit.f_C.1, t22.f_Unit.f_C.2), t22.f_Unit.f_Scale⟩ : Sapi_Dec), (⟨t22.f_To.f_Set, t22.f_To.f_Level⟩ : Sapi_Label)⟩ : Sapi_Rule), t24.f_Neg, t24.f_C.1, t24.f_C.2, t24.f_Scale, t26.1.f_Neg, t26.1.f_C.1, t26.1.f_C.2, t26.1.f_Scale)) (cond (t26.2.1 == (Option.isSome t28)) (some (x12, x13, x14, x15, Option.isSome t28, x19, x20, x21, true, t26.2.2.2.f_l, t26.2.2.2.f_at, x18, (⟨(List.getD x19 (Int.toNat x21) Spyxlaw25_Raw.zero).f_Group, (List.getD x19 (Int.toNat x21) Spyxlaw25_Raw.zero).f_Line, (List.getD x19 (Int.toNat x21) Spyxlaw25_Raw.zero).f_Period, (List.getD x19 (Int.toNat x21) Spyxlaw25_Raw.zero).f_Version, (List.getD x19 (Int.toNat x21) Spyxlaw25_Raw.zero).f_Unit, (List.getD x19 (Int.toNat x21) Spyxlaw25_Raw.zero).f_To, (List.getD x19 (Int.toNat x21) Spyxlaw25_Raw.zero).f_N, (List.getD x19 (Int.toNat x21) Spyxlaw25_Raw.zero).f_Scale, 0⟩ : Spyxlaw25_Raw), (⟨t22.f_Tag, t22.f_Role, t22.f_Verb, t22.f_Ent, t22.f_Group, t22.f_Line, (⟨t22.f_Unit.f_Neg, (t22.f_Unit.f_C.1, t22.f_Unit.f_C.2), t22.f_Unit.f_Scale⟩ : Sapi_Dec), (⟨t22.f_To.f_Set, t22.f_To.f_Level⟩ : Sapi_Label)⟩ : Sapi_Rule), t24.f_Neg, t24.f_C.1, t24.f_C.2, t24.f_Scale, t26.1.f_Neg, t26.1.f_C.1, t26.1.f_C.2, t26.1.f_Scale)) (cond (Option.isSome t28) (some (x12, x13, x14, x15, Option.isSome t28, x19, x20, x21, !((t26.1.f_Neg == t29.f_Neg) && ((t26.1.f_C.1 == t29.f_C.1) && ((t26.1.f_C.2 == t29.f_C.2) && (t26.1.f_Scale == t29.f_Scale)))), t26.2.2.2.f_l, t26.2.2.2.f_at, x18, (⟨(List.getD x19 (Int.toNat x21) Spyxlaw25_Raw.zero).f_Group, (List.getD x19 (Int.toNat x21) Spyxlaw25_Raw.zero).f_Line, (List.getD x19 (Int.toNat x21) Spyxlaw25_Raw.zero).f_Period, (List.getD x19 (Int.toNat x21) Spyxlaw25_Raw.zero).f_Version, (List.getD x19 (Int.toNat x21) Spyxlaw25_Raw.zero).f_Unit, (List.getD x19 (Int.toNat x21) Spyxlaw25_Raw.zero).f_To, (List.getD x19 (Int.toNat x21) Spyxlaw25_Raw.zero).f_N, (List.getD x19 (Int.toNat x21) Spyxlaw25_Raw.zero).f_Scale, 0⟩ : Spyxlaw25_Raw), (⟨t22.f_Tag, t22.f_Role, t22.f_Verb, t22.f_Ent, t22.f_Group, t22.f_Line, (⟨t22.f_Unit.f_Neg, (t22.f_Unit.f_C.1, t22.f_Unit.f_C.2), t22.f_Unit.f_Scale⟩ : Sapi_Dec), (⟨t22.f_To.f_Set, t22.f_To.f_Level⟩ : Sapi_Label)⟩ : Sapi_Rule), t24.f_Neg, t24.f_C.1, t24.f_C.2, t24.f_Scale, t26.1.f_Neg, t26.1.f_C.1, t26.1.f_C.2, t26.1.f_Scale)) (some (x12, x13, x14, x15, Option.isSome t28, x19, x20, x21, false, t26.2.2.2.f_l, t26.2.2.2.f_at, x18, (⟨(List.getD x19 (Int.toNat x21) Spyxlaw25_Raw.zero).f_Group, (List.getD x19 (Int.toNat x21) Spyxlaw25_Raw.zero).f_Line, (List.getD x19 (Int.toNat x21) Spyxlaw25_Raw.zero).f_Period, (List.getD x19 (Int.toNat x21) Spyxlaw25_Raw.zero).f_Version, (List.getD x19 (Int.toNat x21) Spyxlaw25_Raw.zero).f_Unit, (List.getD x19 (Int.toNat x21) Spyxlaw25_Raw.zero).f_To, (List.getD x19 (Int.toNat x21) Spyxlaw25_Raw.zero).f_N, (List.getD x19 (Int.toNat x21) Spyxlaw25_Raw.zero).f_Scale, 0⟩ : Spyxlaw25_Raw), (⟨t22.f_Tag, t22.f_Role, t22.f_Verb, t22.f_Ent, t22.f_Group, t22.f_Line, (⟨t22.f_Unit.f_Neg, (t22.f_Unit.f_C.1, t22.f_Unit.f_C.2), t22.f_Unit.f_Scale⟩ : Sapi_Dec), (⟨t22.f_To.f_Set, t22.f_To.f_Level⟩ : Sapi_Label)⟩ : Sapi_Rule), t24.f_Neg, t24.f_C.1, t24.f_C.2, t24.f_Scale, t26.1.f_Neg, t26.1.f_C.1, t26.1.f_C.2, t26.1.f_Scale))))) : Option (Int × Int × Int × Int × Bool × List Spyxlaw25_Raw × Int × Int × Bool × List Sgate_Out × List (Sgate_Key × Int) × List (Sgate_Key × Sapi_Dec) × Spyxlaw25_Raw × Sapi_Rule × Bool × Int × Int × Int × Bool × Int × Int × Int)).bind fun y52 => (cond (y52.2.2.2.2.2.2.2.2.1) (some (.inr (.inr false))) (cond (y52.2.2.2.2.1) (some (.inl (y52.1, y52.2.1, y52.2.2.1, y52.2.2.2.1, y52.2.2.2.2.2.1, y52.2.2.2.2.2.2.1, IntKind.wrap .i64 (y52.2.2.2.2.2.2.2.1 + 1), y52.2.2.2.2.2.2.2.2.2.1, y52.2.2.2.2.2.2.2.2.2.2.1, y52.2.2.2.2.2.2.2.2.2.2.2.1))) ((pyxlaw25_key.f k (⟨y52.2.2.2.2.2.2.2.2.2.2.2.2.1.f_Group, y52.2.2.2.2.2.2.2.2.2.2.2.2.1.f_Line, y52.2.2.2.2.2.2.2.2.2.2.2.2.1.f_Period, y52.2.2.2.2.2.2.2.2.2.2.2.2.1.f_Version, y52.2.2.2.2.2.2.2.2.2.2.2.2.1.f_Unit, y52.2.2.2.2.2.2.2.2.2.2.2.2.1.f_To, y52.2.2.2.2.2.2.2.2.2.2.2.2.1.f_N, y52.2.2.2.2.2.2.2.2.2.2.2.2.1.f_Scale, y52.2.2.2.2.2.2.2.2.2.2.2.2.1.f_Bend⟩ : Spyxlaw25_Raw)).bind fun t53 => ((dec_Sub.f k (⟨y52.2.2.2.2.2.2.2.2.2.2.2.2.2.2.2.2.2.2.1, (y52.2.2.2.2.2.2.2.2.2.2.2.2.2.2.2.2.2.2.2.1, y52.2.2.2.2.2.2.2.2.2.2.2.2.2.2.2.2.2.2.2.2.1), y52.2.2.2.2.2.2.2.2.2.2.2.2.2.2.2.2.2.2.2.2.2⟩ : Sapi_Dec) (⟨y52.2.2.2.2.2.2.2.2.2.2.2.2.2.2.1, (y52.2.2.2.2.2.2.2.2.2.2.2.2.2.2.2.1, y52.2.2.2.2.2.2.2.2.2.2.2.2.2.2.2.2.1), y52.2.2.2.2.2.2.2.2.2.2.2.2.2.2.2.2.2.1⟩ : Sapi_Dec)).bind fun t54 => ((dec_Sign.f k (⟨t54.1.f_Neg, (t54.1.f_C.1, t54.1.f_C.2), t54.1.f_Scale⟩ : Sapi_Dec)).bind fun t55 => (((cond (decide (t55 < 0)) ((dec_Neg.f k (⟨t54.1.f_Neg, (t54.1.f_C.1, t54.1.f_C.2), t54.1.f_Scale⟩ : Sapi_Dec)).bind fun t56 => (some (y52.1, y52.2.1, y52.2.2.1, y52.2.2.2.1, y52.2.2.2.2.2.1, y52.2.2.2.2.2.2.1, y52.2.2.2.2.2.2.2.1, y52.2.2.2.2.2.2.2.2.2.1, y52.2.2.2.2.2.2.2.2.2.2.1, mput (keq_Sgate_Key (⟨t53.f_Group, t53.f_Line, t53.f_Period, t53.f_Version⟩ : Sgate_Key)) (⟨t53.f_Group, t53.f_Line, t53.f_Period, t53.f_Version⟩ : Sgate_Key) (⟨y52.2.2.2.2.2.2.2.2.2.2.2.2.2.2.2.2.2.2.1, (y52.2.2.2.2.2.2.2.2.2.2.2.2.2.2.2.2.2.2.2.1, y52.2.2.2.2.2.2.2.2.2.2.2.2.2.2.2.2.2.2.2.2.1), y52.2.2.2.2.2.2.2.2.2.2.2.2.2.2.2.2.2.2.2.2.2⟩ : Sapi_Dec) y52.2.2.2.2.2.2.2.2.2.2.2.1, (⟨y52.2.2.2.2.2.2.2.2.2.2.2.2.2.1.f_Tag, y52.2.2.2.2.2.2.2.2.2.2.2.2.2.1.f_Role, y52.2.2.2.2.2.2.2.2.2.2.2.2.2.1.f_Verb, y52.2.2.2.2.2.2.2.2.2.2.2.2.2.1.f_Ent, y52.2.2.2.2.2.2.2.2.2.2.2.2.2.1.f_Group, y52.2.2.2.2.2.2.2.2.2.2.2.2.2.1.f_Line, (⟨y52.2.2.2.2.2.2.2.2.2.2.2.2.2.1.f_Unit.f_Neg, (y52.2.2.2.2.2.2.2.2.2.2.2.2.2.1.f_Unit.f_C.1, y52.2.2.2.2.2.2.2.2.2.2.2.2.2.1.f_Unit.f_C.2), y52.2.2.2.2.2.2.2.2.2.2.2.2.2.1.f_Unit.f_Scale⟩ : Sapi_Dec), (⟨y52.2.2.2.2.2.2.2.2.2.2.2.2.2.1.f_To.f_Set, y52.2.2.2.2.2.2.2.2.2.2.2.2.2.1.f_To.f_Level⟩ : Sapi_Label)⟩ : Sapi_Rule), y52.2.2.2.2.2.2.2.2.2.2.2.2.2.2.2.2.2.2.1, y52.2.2.2.2.2.2.2.2.2.2.2.2.2.2.2.2.2.2.2.1, y52.2.2.2.2.2.2.2.2.2.2.2.2.2.2.2.2.2.2.2.2.1, y52.2.2.2.2.2.2.2.2.2.2.2.2.2.2.2.2.2.2.2.2.2, t56.f_Neg, t56.f_C.1, t56.f_C.2, t56.f_Scale))) (some (y52.1, y52.2.1, y52.2.2.1, y52.2.2.2.1, y52.2.2.2.2.2.1, y52.2.2.2.2.2.2.1, y52.2.2.2.2.2.2.2.1, y52.2.2.2.2.2.2.2.2.2.1, y52.2.2.2.2.2.2.2.2.2.2.1, mput (keq_Sgate_Key (⟨t53.f_Group, t53.f_Line, t53.f_Period, t53.f_Version⟩ : Sgate_Key)) (⟨t53.f_Group, t53.f_Line, t53.f_Period, t53.f_Version⟩ : Sgate_Key) (⟨y52.2.2.2.2.2.2.2.2.2.2.2.2.2.2.2.2.2.2.1, (y52.2.2.2.2.2.2.2.2.2.2.2.2.2.2.2.2.2.2.2.1, y52.2.2.2.2.2.2.2.2.2.2.2.2.2.2.2.2.2.2.2.2.1), y52.2.2.2.2.2.2.2.2.2.2.2.2.2.2.2.2.2.2.2.2.2⟩ : Sapi_Dec) y52.2.2.2.2.2.2.2.2.2.2.2.1, (⟨y52.2.2.2.2.2.2.2.2.2.2.2.2.2.1.f_Tag, y52.2.2.2.2.2.2.2.2.2.2.2.2.2.1.f_Role, y52.2.2.2.2.2.2.2.2.2.2.2.2.2.1.f_Verb, y52.2.2.2.2.2.2.2.2.2.2.2.2.2.1.f_Ent, y52.2.2.2.2.2.2.2.2.2.2.2.2.2.1.f_Group, y52.2.2.2.2.2.2.2.2.2.2.2.2.2.1.f_Line, (⟨y52.2.2.2.2.2.2.2.2.2.2.2.2.2.1.f_Unit.f_Neg, (y52.2.2.2.2.2.2.2.2.2.2.2.2.2.1.f_Unit.f_C.1, y52.2.2.2.2.2.2.2.2.2.2.2.2.2.1.f_Unit.f_C.2), y52.2.2.2.2.2.2.2.2.2.2.2.2.2.1.f_Unit.f_Scale⟩ : Sapi_Dec), (⟨y52.2.2.2.2.2.2.2.2.2.2.2.2.2.1.f_To.f_Set, y52.2.2.2.2.2.2.2.2.2.2.2.2.2.1.f_To.f_Level⟩ : Sapi_Label)⟩ : Sapi_Rule), y52.2.2.2.2.2.2.2.2.2.2.2.2.2.2.2.2.2.2.1, y52.2.2.2.2.2.2.2.2.2.2.2.2.2.2.2.2.2.2.2.1, y52.2.2.2.2.2.2.2.2.2.2.2.2.2.2.2.2.2.2.2.2.1, y52.2.2.2.2.2.2.2.2.2.2.2.2.2.2.2.2.2.2.2.2.2, t54.1.f_Neg, t54.1.f_C.1, t54.1.f_C.2, t54.1.f_Scale))) : Option (Int × Int × Int × Int × List Spyxlaw25_Raw × Int × Int × List Sgate_Out × List (Sgate_Key × Int) × List (Sgate_Key × Sapi_Dec) × Sapi_Rule × Bool × Int × Int × Int × Bool × Int × Int × Int)).bind fun y76 => ((dec_Add.f k (⟨y76.2.2.2.2.2.2.2.2.2.2.2.2.2.2.2.1, (y76.2.2.2.2.2.2.2.2.2.2.2.2.2.2.2.2.1, y76.2.2.2.2.2.2.2.2.2.2.2.2.2.2.2.2.2.1), y76.2.2.2.2.2.2.2.2.2.2.2.2.2.2.2.2.2.2⟩ : Sapi_Dec) (⟨y76.2.2.2.2.2.2.2.2.2.2.2.2.2.2.2.1, (y76.2.2.2.2.2.2.2.2.2.2.2.2.2.2.2.2.1, y76.2.2.2.2.2.2.2.2.2.2.2.2.2.2.2.2.2.1), y76.2.2.2.2.2.2.2.2.2.2.2.2.2.2.2.2.2.2⟩ : Sapi_Dec)).bind fun t77 => ((((dec_Cmp.f k (⟨t77.1.f_Neg, (t77.1.f_C.1, t77.1.f_C.2), t77.1.f_Scale⟩ : Sapi_Dec) (⟨y76.2.2.2.2.2.2.2.2.2.2.1.f_Unit.f_Neg, (y76.2.2.2.2.2.2.2.2.2.2.1.f_Unit.f_C.1, y76.2.2.2.2.2.2.2.2.2.2.1.f_Unit.f_C.2), y76.2.2.2.2.2.2.2.2.2.2.1.f_Unit.f_Scale⟩ : Sapi_Dec)).bind fun t78 => (cond (decide (t78 > 0)) (some (y76.1, y76.2.1, y76.2.2.1, y76.2.2.2.1, y76.2.2.2.2.1, y76.2.2.2.2.2.1, y76.2.2.2.2.2.2.1, true, y76.2.2.2.2.2.2.2.1, y76.2.2.2.2.2.2.2.2.1, y76.2.2.2.2.2.2.2.2.2.1)) (some (y76.1, y76.2.1, y76.2.2.1, y76.2.2.2.1, y76.2.2.2.2.1, y76.2.2.2.2.2.1, y76.2.2.2.2.2.2.1, y76.2.2.2.2.2.2.2.2.2.2.2.2.2.2.1 != y76.2.2.2.2.2.2.2.2.2.2.1.f_Unit.f_Scale, y76.2.2.2.2.2.2.2.1, y76.2.2.2.2.2.2.2.2.1, y76.2.2.2.2.2.2.2.2.2.1)))) : Option (Int × Int × Int × Int × List Spyxlaw25_Raw × Int × Int × Bool × List Sgate_Out × List (Sgate_Key × Int) × List (Sgate_Key × Sapi_Dec))).bind fun y90 => (cond (y90.2.2.2.2.2.2.2.1) (some (.inr (.inr false))) (some (.inl (y90.1, y90.2.1, y90.2.2.1, y90.2.2.2.1, y90.2.2.2.2.1, y90.2.2.2.2.2.1, IntKind.wrap .i64 (y90.2.2.2.2.2.2.1 + 1), y90.2.2.2.2.2.2.2.2.1, y90.2.2.2.2.2.2.2.2.2.1, y90.2.2.2.2.2.2.2.2.2.2))))))))))))))))))))) none) (some (.inr (.inl (x12, x13, x14, x15, x16, x17, x18))))
noncomputable def pyxlaw25_GateOnce.l33.once (k : Nat) (x : (List Sgate_Out × Int × List Sgate_Out × Int × Int × List (Sgate_Key × Sapi_Dec) × Int × Int × Int × Int)) : Option ((List Sgate_Out × Int × List Sgate_Out × Int × Int × List (Sgate_Key × Sapi_Dec) × Int × Int × Int × Int) ⊕ ((List Sgate_Out × Int) ⊕ Bool)) := match x with | (x113, x114, x115, x116, x117, x108, x109, x110, x111, x112) => cond (decide (x117 < x116)) (cond (inb x117 (List.length x115)) (((cond (decide (x114 < (List.length x113 : Int))) (cond (inb x114 (List.length x113)) (some (x113, x114, x115, x116, x117, ((((List.getD x113 (Int.toNat x114) Sgate_Out.zero).f_K).f_Group) == (((List.getD x115 (Int.toNat x117) Sgate_Out.zero).f_K).f_Group)) && (((((List.getD x113 (Int.toNat x114) Sgate_Out.zero).f_K).f_Line) == (((List.getD x115 (Int.toNat x117) Sgate_Out.zero).f_K).f_Line)) && (((((List.getD x113 (Int.toNat x114) Sgate_Out.zero).f_K).f_Period) == (((List.getD x115 (Int.toNat x117) Sgate_Out.zero).f_K).f_Period)) && (((((List.getD x113 (Int.toNat x114) Sgate_Out.zero).f_K).f_Version) == (((List.getD x115 (Int.toNat x117) Sgate_Out.zero).f_K).f_Version)) && ((((List.getD x113 (Int.toNat x114) Sgate_Out.zero).f_Rule) == ((List.getD x115 (Int.toNat x117) Sgate_Out.zero).f_Rule)) && (((((List.getD x113 (Int.toNat x114) Sgate_Out.zero).f_Value).f_Neg) == (((List.getD x115 (Int.toNat x117) Sgate_Out.zero).f_Value).f_Neg)) && ((((((List.getD x113 (Int.toNat x114) Sgate_Out.zero).f_Value).f_C).1) == ((((List.getD x115 (Int.toNat x117) Sgate_Out.zero).f_Value).f_C).1)) && ((((((List.getD x113 (Int.toNat x114) Sgate_Out.zero).f_Value).f_C).2) == ((((List.getD x115 (Int.toNat x117) Sgate_Out.zero).f_Value).f_C).2)) && (((((List.getD x113 (Int.toNat x114) Sgate_Out.zero).f_Value).f_Scale) == (((List.getD x115 (Int.toNat x117) Sgate_Out.zero).f_Value).f_Scale)) && (((((List.getD x113 (Int.toNat x114) Sgate_Out.zero).f_To).f_Set) == (((List.getD x115 (Int.toNat x117) Sgate_Out.zero).f_To).f_Set)) && ((((List.getD x113 (Int.toNat x114) Sgate_Out.zero).f_To).f_Level) == (((List.getD x115 (Int.toNat x117) Sgate_Out.zero).f_To).f_Level))))))))))), x108, x109, x110, x111, x112, (⟨(⟨((List.getD x115 (Int.toNat x117) Sgate_Out.zero).f_K).f_Group, ((List.getD x115 (Int.toNat x117) Sgate_Out.zero).f_K).f_Line, ((List.getD x115 (Int.toNat x117) Sgate_Out.zero).f_K).f_Period, ((List.getD x115 (Int.toNat x117) Sgate_Out.zero).f_K).f_Version⟩ : Sgate_Key), (List.getD x115 (Int.toNat x117) Sgate_Out.zero).f_Rule, (⟨((List.getD x115 (Int.toNat x117) Sgate_Out.zero).f_Value).f_Neg, ((((List.getD x115 (Int.toNat x117) Sgate_Out.zero).f_Value).f_C).1, (((List.getD x115 (Int.toNat x117) Sgate_Out.zero).f_Value).f_C).2), ((List.getD x115 (Int.toNat x117) Sgate_Out.zero).f_Value).f_Scale⟩ : Sapi_Dec), (⟨((List.getD x115 (Int.toNat x117) Sgate_Out.zero).f_To).f_Set, ((List.getD x115 (Int.toNat x117) Sgate_Out.zero).f_To).f_Level⟩ : Sapi_Label)⟩ : Sgate_Out))) none) (some (x113, x114, x115, x116, x117, false, x108, x109, x110, x111, x112, (⟨(⟨((List.getD x115 (Int.toNat x117) Sgate_Out.zero).f_K).f_Group, ((List.getD x115 (Int.toNat x117) Sgate_Out.zero).f_K).f_Line, ((List.getD x115 (Int.toNat x117) Sgate_Out.zero).f_K).f_Period, ((List.getD x115 (Int.toNat x117) Sgate_Out.zero).f_K).f_Version⟩ : Sgate_Key), (List.getD x115 (Int.toNat x117) Sgate_Out.zero).f_Rule, (⟨((List.getD x115 (Int.toNat x117) Sgate_Out.zero).f_Value).f_Neg, ((((List.getD x115 (Int.toNat x117) Sgate_Out.zero).f_Value).f_C).1, (((List.getD x115 (Int.toNat x117) Sgate_Out.zero).f_Value).f_C).2), ((List.getD x115 (Int.toNat x117) Sgate_Out.zero).f_Value).f_Scale⟩ : Sapi_Dec), (⟨((List.getD x115 (Int.toNat x117) Sgate_Out.zero).f_To).f_Set, ((List.getD x115 (Int.toNat x117) Sgate_Out.zero).f_To).f_Level⟩ : Sapi_Label)⟩ : Sgate_Out)))) : Option (List Sgate_Out × Int × List Sgate_Out × Int × Int × Bool × List (Sgate_Key × Sapi_Dec) × Int × Int × Int × Int × Sgate_Out)).bind fun y130 => (((cond (y130.2.2.2.2.2.1) (some (.inl (y130.1, IntKind.wrap .i64 (y130.2.1 + 1), y130.2.2.1, y130.2.2.2.1, y130.2.2.2.2.1, y130.2.2.2.2.2.2.1, y130.2.2.2.2.2.2.2.1, y130.2.2.2.2.2.2.2.2.1, y130.2.2.2.2.2.2.2.2.2.1, y130.2.2.2.2.2.2.2.2.2.2.1, (⟨(⟨y130.2.2.2.2.2.2.2.2.2.2.2.f_K.f_Group, y130.2.2.2.2.2.2.2.2.2.2.2.f_K.f_Line, y130.2.2.2.2.2.2.2.2.2.2.2.f_K.f_Period, y130.2.2.2.2.2.2.2.2.2.2.2.f_K.f_Version⟩ : Sgate_Key), y130.2.2.2.2.2.2.2.2.2.2.2.f_Rule, (⟨y130.2.2.2.2.2.2.2.2.2.2.2.f_Value.f_Neg, (y130.2.2.2.2.2.2.2.2.2.2.2.f_Value.f_C.1, y130.2.2.2.2.2.2.2.2.2.2.2.f_Value.f_C.2), y130.2.2.2.2.2.2.2.2.2.2.2.f_Value.f_Scale⟩ : Sapi_Dec), (⟨y130.2.2.2.2.2.2.2.2.2.2.2.f_To.f_Set, y130.2.2.2.2.2.2.2.2.2.2.2.f_To.f_Level⟩ : Sapi_Label)⟩ : Sgate_Out)))) ((label_Below.f k (⟨y130.2.2.2.2.2.2.2.2.2.2.2.f_To.f_Set, y130.2.2.2.2.2.2.2.2.2.2.2.f_To.f_Level⟩ : Sapi_Label) (⟨y130.2.2.2.2.2.2.2.1, y130.2.2.2.2.2.2.2.2.1⟩ : Sapi_Label)).bind fun t142 => (cond (t142) (some (.inr false)) (some (.inl (y130.1, y130.2.1, y130.2.2.1, y130.2.2.2.1, y130.2.2.2.2.1, y130.2.2.2.2.2.2.1, y130.2.2.2.2.2.2.2.1, y130.2.2.2.2.2.2.2.2.1, y130.2.2.2.2.2.2.2.2.2.1, y130.2.2.2.2.2.2.2.2.2.2.1, (⟨(⟨y130.2.2.2.2.2.2.2.2.2.2.2.f_K.f_Group, y130.2.2.2.2.2.2.2.2.2.2.2.f_K.f_Line, y130.2.2.2.2.2.2.2.2.2.2.2.f_K.f_Period, y130.2.2.2.2.2.2.2.2.2.2.2.f_K.f_Version⟩ : Sgate_Key), y130.2.2.2.2.2.2.2.2.2.2.2.f_Rule, (⟨y130.2.2.2.2.2.2.2.2.2.2.2.f_Value.f_Neg, (y130.2.2.2.2.2.2.2.2.2.2.2.f_Value.f_C.1, y130.2.2.2.2.2.2.2.2.2.2.2.f_Value.f_C.2), y130.2.2.2.2.2.2.2.2.2.2.2.f_Value.f_Scale⟩ : Sapi_Dec), (⟨y130.2.2.2.2.2.2.2.2.2.2.2.f_To.f_Set, y130.2.2.2.2.2.2.2.2.2.2.2.f_To.f_Level⟩ : Sapi_Label)⟩ : Sgate_Out))))))) : Option ((List Sgate_Out × Int × List Sgate_Out × Int × Int × List (Sgate_Key × Sapi_Dec) × Int × Int × Int × Int × Sgate_Out) ⊕ Bool)).bind fun | .inl y144 => ((((label_Below.f k (⟨y144.2.2.2.2.2.2.2.2.2.2.f_To.f_Set, y144.2.2.2.2.2.2.2.2.2.2.f_To.f_Level⟩ : Sapi_Label) (⟨y144.2.2.2.2.2.2.2.2.1, y144.2.2.2.2.2.2.2.2.2.1⟩ : Sapi_Label)).bind fun t145 => (cond (!t145) (some (y144.1, y144.2.1, y144.2.2.1, y144.2.2.2.1, y144.2.2.2.2.1, true, y144.2.2.2.2.2.1, y144.2.2.2.2.2.2.1, y144.2.2.2.2.2.2.2.1, y144.2.2.2.2.2.2.2.2.1, y144.2.2.2.2.2.2.2.2.2.1)) ((some (mget (keq_Sgate_Key (⟨y144.2.2.2.2.2.2.2.2.2.2.f_K.f_Group, y144.2.2.2.2.2.2.2.2.2.2.f_K.f_Line, y144.2.2.2.2.2.2.2.2.2.2.f_K.f_Period, y144.2.2.2.2.2.2.2.2.2.2.f_K.f_Version⟩ : Sgate_Key)) y144.2.2.2.2.2.1)).bind fun t157 => ((some (Option.getD t157 (⟨false, (0, 0), 0⟩ : Sapi_Dec))).bind fun t158 => (some (y144.1, y144.2.1, y144.2.2.1, y144.2.2.2.1, y144.2.2.2.2.1, !((t158.f_Neg == y144.2.2.2.2.2.2.2.2.2.2.f_Value.f_Neg) && ((t158.f_C.1 == y144.2.2.2.2.2.2.2.2.2.2.f_Value.f_C.1) && ((t158.f_C.2 == y144.2.2.2.2.2.2.2.2.2.2.f_Value.f_C.2) && (t158.f_Scale == y144.2.2.2.2.2.2.2.2.2.2.f_Value.f_Scale)))), y144.2.2.2.2.2.1, y144.2.2.2.2.2.2.1, y144.2.2.2.2.2.2.2.1, y144.2.2.2.2.2.2.2.2.1, y144.2.2.2.2.2.2.2.2.2.1)))))) : Option (List Sgate_Out × Int × List Sgate_Out × Int × Int × Bool × List (Sgate_Key × Sapi_Dec) × Int × Int × Int × Int)).bind fun y159 => (cond (y159.2.2.2.2.2.1) (some (.inr (.inr false))) (some (.inl (y159.1, y159.2.1, y159.2.2.1, y159.2.2.2.1, IntKind.wrap .i64 (y159.2.2.2.2.1 + 1), y159.2.2.2.2.2.2.1, y159.2.2.2.2.2.2.2.1, y159.2.2.2.2.2.2.2.2.1, y159.2.2.2.2.2.2.2.2.2.1, y159.2.2.2.2.2.2.2.2.2.2))))) | .inr y160 => (some (.inr (.inr y160))))) none) (some (.inr (.inl (x113, x114))))
noncomputable def pyxlaw25_GateOnce.f (k : Nat) (a0 : List Spyxlaw25_Raw) (a1 : Int) (a2 : Int) (a3 : Int) (a4 : Int) : Option Bool := (gate_New.f k).bind fun t1 => ((((pyxlaw25_known.f k).bind fun t2 => (cond (!t2) (some (a0, a1, a2, a3, a4, true, t1.f_l, t1.f_at)) (some (a0, a1, a2, a3, a4, false, t1.f_l, t1.f_at)))) : Option (List Spyxlaw25_Raw × Int × Int × Int × Int × Bool × List Sgate_Out × List (Sgate_Key × Int))).bind fun y11 => (cond (y11.2.2.2.2.2.1) (some false) ((iter (pyxlaw25_GateOnce.l6.once k) k (y11.2.1, y11.2.2.1, y11.2.2.2.1, y11.2.2.2.2.1, y11.1, (List.length y11.1 : Int), 0, y11.2.2.2.2.2.2.1, y11.2.2.2.2.2.2.2, ([] : List (Sgate_Key × Sapi_Dec)))).bind fun | .inl y99 => ((gate_Gate_Log.f k (⟨y99.2.2.2.2.1, y99.2.2.2.2.2.1⟩ : Sgate_Gate)).bind fun t100 => (cond ((List.length t100.1 : Int) != (List.length y99.2.2.2.2.2.2 : Int)) (some false) ((pyxhand_Pick.f k y99.1 4).bind fun t101 => ((pyxhand_Pick.f k y99.2.1 4).bind fun t102 => ((pyxhand_Pick.f k y99.2.2.1 4).bind fun t103 => ((pyxhand_Pick.f k y99.2.2.2.1 4).bind fun t104 => ((label_Join.f k (⟨IntKind.wrap .u64 (t101), t102⟩ : Sapi_Label) (⟨IntKind.wrap .u64 (t103), t104⟩ : Sapi_Label)).bind fun t105 => ((gate_Gate_Seen.f k (⟨t100.2.f_l, t100.2.f_at⟩ : Sgate_Gate) (⟨IntKind.wrap .u64 (t101), t102⟩ : Sapi_Label)).bind fun t106 => ((gate_Gate_Seen.f k (⟨t106.2.f_l, t106.2.f_at⟩ : Sgate_Gate) (⟨t105.f_Set, t105.f_Level⟩ : Sapi_Label)).bind fun t107 => ((iter (pyxlaw25_GateOnce.l33.once k) k (t106.1, 0, t107.1, (List.length t107.1 : Int), 0, y99.2.2.2.2.2.2, IntKind.wrap .u64 (t101), t102, t105.f_Set, t105.f_Level)).bind fun | .inl y164 => (some (y164.2 == (List.length y164.1 : Int))) | .inr y165 => (some y165))))))))))) | .inr y166 => (some y166))))
noncomputable def pyxlaw25_GateOnce.un (s : St U) : Option (List Spyxlaw25_Raw × Int × Int × Int × Int) := match s.get 0, s.get 1, s.get 2, s.get 3, s.get 4 with | .row C.Spyxlaw25_Raw x1, .flat (.int .i64 x2), .flat (.int .i64 x3), .flat (.int .i64 x4), .flat (.int .i64 x5) => some (x1, x2, x3, x4, x5) | _, _, _, _, _ => none
noncomputable def pyxlaw25_GateOnce.mk (x : (List Spyxlaw25_Raw × Int × Int × Int × Int)) : St U := ⟨[(0, .row C.Spyxlaw25_Raw x.1), (1, .flat (.int .i64 x.2.1)), (2, .flat (.int .i64 x.2.2.1)), (3, .flat (.int .i64 x.2.2.2.1)), (4, .flat (.int .i64 x.2.2.2.2))], []⟩
noncomputable def pyxlaw25_GateOnce.fin (y : Bool) : St U := ⟨[(0, .flat (.bool y))], []⟩
noncomputable def pyxlaw25_GateOnce.D (k : Nat) : FDen U := { X := (List Spyxlaw25_Raw × Int × Int × Int × Int), Y := Bool, nt := 198, gh := [], un := pyxlaw25_GateOnce.un, f := fun x => pyxlaw25_GateOnce.f k (x.1) (x.2.1) (x.2.2.1) (x.2.2.2.1) (x.2.2.2.2), fin := pyxlaw25_GateOnce.fin, cl := true, clo := fun _ _ => rfl }
noncomputable def pyxlaw25_GateOnce.re (s : St U) : Option Bool := match s.get 0 with | .flat (.bool x1) => some x1 | _ => none
noncomputable def pyxlaw25_GateOnce.l6.mk (x : (Int × Int × Int × Int × List Spyxlaw25_Raw × Int × Int × List Sgate_Out × List (Sgate_Key × Int) × List (Sgate_Key × Sapi_Dec))) : St U := match x with | (x12, x13, x14, x15, x19, x20, x21, x16, x17, x18) => ⟨[(11, .ptr 350000000000003 0), (1, .flat (.int .i64 x12)), (2, .flat (.int .i64 x13)), (3, .flat (.int .i64 x14)), (4, .flat (.int .i64 x15)), (12, .mp 1006012), (42, .row C.Spyxlaw25_Raw x19), (43, .flat (.int .i64 x20)), (44, .flat (.int .i64 x21))], [(350000000000003, .lit [.tip 35000002000600300 C.Sgate_Out x16, .mp 35000002000600301]), (35000002000600300, .tip 11), (35000002000600301, .map true true false C.Sgate_Key C.i64 x17), (1006012, .map true true true C.Sgate_Key C.Sapi_Dec x18)]⟩
noncomputable def pyxlaw25_GateOnce.l6.un (s : St U) : Option (Int × Int × Int × Int × List Spyxlaw25_Raw × Int × Int × List Sgate_Out × List (Sgate_Key × Int) × List (Sgate_Key × Sapi_Dec)) := (map_Sgate_Key_Sapi_Dec_t s.o (s.get 12)).bind fun q0 => ((row_Spyxlaw25_Raw (s.get 42)).bind fun q1 => (match s.get 11, s.get 1, s.get 2, s.get 3, s.get 4, s.get 43, s.get 44, lk s.o 350000000000003 with | .ptr 350000000000003 0, .flat (.int .i64 x12), .flat (.int .i64 x13), .flat (.int .i64 x14), .flat (.int .i64 x15), .flat (.int .i64 x20), .flat (.int .i64 x21), some (.lit [u350000000000003_0, u350000000000003_1]) => (tip_Sgate_Out s.o 11 u350000000000003_0).bind fun w350000000000003_0 => ((map_Sgate_Key_i64_t s.o u350000000000003_1).bind fun w350000000000003_1 => (cond (apart [q0.1, w350000000000003_0.1, w350000000000003_1.1]) (some (x12, x13, x14, x15, q1, x20, x21, w350000000000003_0.2, w350000000000003_1.2, q0.2)) none)) | _, _, _, _, _, _, _, _ => none))
noncomputable def pyxlaw25_GateOnce.l6.fin (y : (Int × Int × Int × Int × List Sgate_Out × List (Sgate_Key × Int) × List (Sgate_Key × Sapi_Dec)) ⊕ Bool) : Out U := match y with | .inl (x91, x92, x93, x94, x95, x96, x97) => .exit 0 ⟨[(11, .ptr 350000000000003 0), (1, .flat (.int .i64 x91)), (2, .flat (.int .i64 x92)), (3, .flat (.int .i64 x93)), (4, .flat (.int .i64 x94)), (12, .mp 1006012)], [(350000000000003, .lit [.tip 35000002000600300 C.Sgate_Out x95, .mp 35000002000600301]), (35000002000600300, .tip 11), (35000002000600301, .map true true false C.Sgate_Key C.i64 x96), (1006012, .map true true true C.Sgate_Key C.Sapi_Dec x97)]⟩ | .inr z => .ret (⟨[(0, .flat (.bool z))], []⟩)
noncomputable def pyxlaw25_GateOnce.l6.finK {ρ : Type} (y : (Int × Int × Int × Int × List Sgate_Out × List (Sgate_Key × Int) × List (Sgate_Key × Sapi_Dec)) ⊕ Bool) (K : Out U → Option ρ) : Option ρ := match y with | .inl (x91, x92, x93, x94, x95, x96, x97) => K (.exit 0 ⟨[(11, .ptr 350000000000003 0), (1, .flat (.int .i64 x91)), (2, .flat (.int .i64 x92)), (3, .flat (.int .i64 x93)), (4, .flat (.int .i64 x94)), (12, .mp 1006012)], [(350000000000003, .lit [.tip 35000002000600300 C.Sgate_Out x95, .mp 35000002000600301]), (35000002000600300, .tip 11), (35000002000600301, .map true true false C.Sgate_Key C.i64 x96), (1006012, .map true true true C.Sgate_Key C.Sapi_Dec x97)]⟩) | .inr z => K (.ret (⟨[(0, .flat (.bool z))], []⟩))
theorem pyxlaw25_GateOnce.l6.finK_eq {ρ : Type} (y : (Int × Int × Int × Int × List Sgate_Out × List (Sgate_Key × Int) × List (Sgate_Key × Sapi_Dec)) ⊕ Bool) (K : Out U → Option ρ) : pyxlaw25_GateOnce.l6.finK y K = K (pyxlaw25_GateOnce.l6.fin y) := by
  unfold pyxlaw25_GateOnce.l6.finK pyxlaw25_GateOnce.l6.fin
  first | rfl | (split <;> rfl)
noncomputable def pyxlaw25_GateOnce.l6.re : Out U → Option ((Int × Int × Int × Int × List Sgate_Out × List (Sgate_Key × Int) × List (Sgate_Key × Sapi_Dec)) ⊕ Bool) | .exit 0 s => ((map_Sgate_Key_Sapi_Dec_t s.o (s.get 12)).bind fun q0 => (match s.get 11, s.get 1, s.get 2, s.get 3, s.get 4, lk s.o 350000000000003 with | .ptr 350000000000003 0, .flat (.int .i64 x91), .flat (.int .i64 x92), .flat (.int .i64 x93), .flat (.int .i64 x94), some (.lit [u350000000000003_0, u350000000000003_1]) => (tip_Sgate_Out s.o 11 u350000000000003_0).bind fun w350000000000003_0 => ((map_Sgate_Key_i64_t s.o u350000000000003_1).bind fun w350000000000003_1 => (cond (apart [q0.1, w350000000000003_0.1, w350000000000003_1.1]) (some (.inl (x91, x92, x93, x94, w350000000000003_0.2, w350000000000003_1.2, q0.2))) none)) | _, _, _, _, _, _ => none)) | .ret s => (match s.get 0 with | .flat (.bool x1) => some (.inr x1) | _ => none) | _ => none
noncomputable def pyxlaw25_GateOnce.l6.L (k : Nat) : LDen U := { X := (Int × Int × Int × Int × List Spyxlaw25_Raw × Int × Int × List Sgate_Out × List (Sgate_Key × Int) × List (Sgate_Key × Sapi_Dec)), Y := (Int × Int × Int × Int × List Sgate_Out × List (Sgate_Key × Int) × List (Sgate_Key × Sapi_Dec)) ⊕ Bool, un := pyxlaw25_GateOnce.l6.un, f := iter (pyxlaw25_GateOnce.l6.once k) k, fin := pyxlaw25_GateOnce.l6.fin, finK := pyxlaw25_GateOnce.l6.finK, finK_eq := pyxlaw25_GateOnce.l6.finK_eq }
noncomputable def pyxlaw25_GateOnce.l33.mk (x : (List Sgate_Out × Int × List Sgate_Out × Int × Int × List (Sgate_Key × Sapi_Dec) × Int × Int × Int × Int)) : St U := match x with | (x113, x114, x115, x116, x117, x108, x109, x110, x111, x112) => ⟨[(27, .ptr 27 0), (28, .ptr 28 0), (12, .mp 1033012), (29, .row C.Sgate_Out x113), (31, .flat (.int .i64 x114)), (155, .row C.Sgate_Out x115), (156, .flat (.int .i64 x116)), (157, .flat (.int .i64 x117))], [(1033012, .map true true true C.Sgate_Key C.Sapi_Dec x108), (27, .lit [.flat (.int .u64 x109), .flat (.int .i64 x110)]), (28, .lit [.flat (.int .u64 x111), .flat (.int .i64 x112)])]⟩
noncomputable def pyxlaw25_GateOnce.l33.un (s : St U) : Option (List Sgate_Out × Int × List Sgate_Out × Int × Int × List (Sgate_Key × Sapi_Dec) × Int × Int × Int × Int) := (map_Sgate_Key_Sapi_Dec_t s.o (s.get 12)).bind fun q0 => ((row_Sgate_Out (s.get 29)).bind fun q1 => ((row_Sgate_Out (s.get 155)).bind fun q2 => (match s.get 27, s.get 28, s.get 31, s.get 156, s.get 157, lk s.o 27, lk s.o 28 with | .ptr 27 0, .ptr 28 0, .flat (.int .i64 x114), .flat (.int .i64 x116), .flat (.int .i64 x117), some (.lit [.flat (.int .u64 x109), .flat (.int .i64 x110)]), some (.lit [.flat (.int .u64 x111), .flat (.int .i64 x112)]) => some (q1, x114, q2, x116, x117, q0.2, x109, x110, x111, x112) | _, _, _, _, _, _, _ => none)))
noncomputable def pyxlaw25_GateOnce.l33.fin (y : (List Sgate_Out × Int) ⊕ Bool) : Out U := match y with | .inl (x161, x162) => .exit 2 ⟨[(29, .row C.Sgate_Out x161), (31, .flat (.int .i64 x162))], []⟩ | .inr z => .ret (⟨[(0, .flat (.bool z))], []⟩)
noncomputable def pyxlaw25_GateOnce.l33.finK {ρ : Type} (y : (List Sgate_Out × Int) ⊕ Bool) (K : Out U → Option ρ) : Option ρ := match y with | .inl (x161, x162) => K (.exit 2 ⟨[(29, .row C.Sgate_Out x161), (31, .flat (.int .i64 x162))], []⟩) | .inr z => K (.ret (⟨[(0, .flat (.bool z))], []⟩))
theorem pyxlaw25_GateOnce.l33.finK_eq {ρ : Type} (y : (List Sgate_Out × Int) ⊕ Bool) (K : Out U → Option ρ) : pyxlaw25_GateOnce.l33.finK y K = K (pyxlaw25_GateOnce.l33.fin y) := by
  unfold pyxlaw25_GateOnce.l33.finK pyxlaw25_GateOnce.l33.fin
  first | rfl | (split <;> rfl)
noncomputable def pyxlaw25_GateOnce.l33.re : Out U → Option ((List Sgate_Out × Int) ⊕ Bool) | .exit 2 s => ((row_Sgate_Out (s.get 29)).bind fun q0 => (match s.get 31 with | .flat (.int .i64 x162) => some (.inl (q0, x162)) | _ => none)) | .ret s => (match s.get 0 with | .flat (.bool x1) => some (.inr x1) | _ => none) | _ => none
noncomputable def pyxlaw25_GateOnce.l33.L (k : Nat) : LDen U := { X := (List Sgate_Out × Int × List Sgate_Out × Int × Int × List (Sgate_Key × Sapi_Dec) × Int × Int × Int × Int), Y := (List Sgate_Out × Int) ⊕ Bool, un := pyxlaw25_GateOnce.l33.un, f := iter (pyxlaw25_GateOnce.l33.once k) k, fin := pyxlaw25_GateOnce.l33.fin, finK := pyxlaw25_GateOnce.l33.finK, finK_eq := pyxlaw25_GateOnce.l33.finK_eq }
noncomputable def pyxlaw25_GateOnce.j2000.fin (y : (List Spyxlaw25_Raw × Int × Int × Int × Int × Bool × List Sgate_Out × List (Sgate_Key × Int))) : Out U := match y with | (x3, x4, x5, x6, x7, x10, x8, x9) => .norm ⟨[(11, .ptr 350000000000003 0), (0, .row C.Spyxlaw25_Raw x3), (1, .flat (.int .i64 x4)), (2, .flat (.int .i64 x5)), (3, .flat (.int .i64 x6)), (4, .flat (.int .i64 x7)), (40, .flat (.bool x10))], [(350000000000003, .lit [.tip 35000102200000300 C.Sgate_Out x8, .mp 35000102200000301]), (35000102200000300, .tip 11), (35000102200000301, .map true true false C.Sgate_Key C.i64 x9)]⟩
noncomputable def pyxlaw25_GateOnce.j2000.finK {ρ : Type} (y : (List Spyxlaw25_Raw × Int × Int × Int × Int × Bool × List Sgate_Out × List (Sgate_Key × Int))) (K : Out U → Option ρ) : Option ρ := match y with | (x3, x4, x5, x6, x7, x10, x8, x9) => K (.norm ⟨[(11, .ptr 350000000000003 0), (0, .row C.Spyxlaw25_Raw x3), (1, .flat (.int .i64 x4)), (2, .flat (.int .i64 x5)), (3, .flat (.int .i64 x6)), (4, .flat (.int .i64 x7)), (40, .flat (.bool x10))], [(350000000000003, .lit [.tip 35000102200000300 C.Sgate_Out x8, .mp 35000102200000301]), (35000102200000300, .tip 11), (35000102200000301, .map true true false C.Sgate_Key C.i64 x9)]⟩)
theorem pyxlaw25_GateOnce.j2000.finK_eq {ρ : Type} (y : (List Spyxlaw25_Raw × Int × Int × Int × Int × Bool × List Sgate_Out × List (Sgate_Key × Int))) (K : Out U → Option ρ) : pyxlaw25_GateOnce.j2000.finK y K = K (pyxlaw25_GateOnce.j2000.fin y) := by
  unfold pyxlaw25_GateOnce.j2000.finK pyxlaw25_GateOnce.j2000.fin
  first | rfl | (split <;> rfl)
noncomputable def pyxlaw25_GateOnce.j2000.re : Out U → Option ((List Spyxlaw25_Raw × Int × Int × Int × Int × Bool × List Sgate_Out × List (Sgate_Key × Int))) | .norm s => ((row_Spyxlaw25_Raw (s.get 0)).bind fun q0 => (match s.get 11, s.get 1, s.get 2, s.get 3, s.get 4, s.get 40, lk s.o 350000000000003 with | .ptr 350000000000003 0, .flat (.int .i64 x4), .flat (.int .i64 x5), .flat (.int .i64 x6), .flat (.int .i64 x7), .flat (.bool x10), some (.lit [u350000000000003_0, u350000000000003_1]) => (tip_Sgate_Out s.o 11 u350000000000003_0).bind fun w350000000000003_0 => ((map_Sgate_Key_i64_t s.o u350000000000003_1).bind fun w350000000000003_1 => (cond (apart [w350000000000003_0.1, w350000000000003_1.1]) (some (q0, x4, x5, x6, x7, x10, w350000000000003_0.2, w350000000000003_1.2)) none)) | _, _, _, _, _, _, _ => none)) | _ => none
noncomputable def pyxlaw25_GateOnce.j2000.J : JDen U := { Y := (List Spyxlaw25_Raw × Int × Int × Int × Int × Bool × List Sgate_Out × List (Sgate_Key × Int)), re := pyxlaw25_GateOnce.j2000.re, fin := pyxlaw25_GateOnce.j2000.fin, finK := pyxlaw25_GateOnce.j2000.finK, finK_eq := pyxlaw25_GateOnce.j2000.finK_eq }
theorem pyxlaw25_GateOnce.j2000.fit (o : Out U) (y : (List Spyxlaw25_Raw × Int × Int × Int × Int × Bool × List Sgate_Out × List (Sgate_Key × Int))) (h : pyxlaw25_GateOnce.j2000.re o = some y) : FitsO o (pyxlaw25_GateOnce.j2000.fin y) := by
  unfold pyxlaw25_GateOnce.j2000.re at h
  split at h
  · obtain ⟨q0, eq0, h1⟩ := Option.bind_eq_some_iff.1 h
    split at h1
    · obtain ⟨w350000000000003_0, ew350000000000003_0, h2⟩ := Option.bind_eq_some_iff.1 h1
      obtain ⟨w350000000000003_1, ew350000000000003_1, h3⟩ := Option.bind_eq_some_iff.1 h2
      obtain ⟨hap, h4⟩ := cond_none h3
      cases h4
      refine fitsO_norm (fits_ren [(35000102200000300, w350000000000003_0.1), (35000102200000301, w350000000000003_1.1)] ?_ ?_ (ren_apart hap) rfl)
      · exact List.forall_mem_cons.2 ⟨FV.one (FV.ptr (by assumption)), List.forall_mem_cons.2 ⟨FV.one (row_Spyxlaw25_Raw_fit eq0), List.forall_mem_cons.2 ⟨FV.one (FV.same (by assumption) rfl), List.forall_mem_cons.2 ⟨FV.one (FV.same (by assumption) rfl), List.forall_mem_cons.2 ⟨FV.one (FV.same (by assumption) rfl), List.forall_mem_cons.2 ⟨FV.one (FV.same (by assumption) rfl), List.forall_mem_cons.2 ⟨FV.one (FV.same (by assumption) rfl), fun _ hp => (List.not_mem_nil hp).elim⟩⟩⟩⟩⟩⟩⟩
      · exact List.forall_mem_cons.2 ⟨(FO.cells (show lk (St.o _) 350000000000003 = some _ from by assumption) (FCs.cons ((tip_Sgate_Out_fit ew350000000000003_0 rfl).1) (FCs.cons ((map_Sgate_Key_i64_t_fit ew350000000000003_1 rfl).1) (FCs.nil)))), List.forall_mem_cons.2 ⟨(tip_Sgate_Out_fit ew350000000000003_0 rfl).2, List.forall_mem_cons.2 ⟨(map_Sgate_Key_i64_t_fit ew350000000000003_1 rfl).2, fun _ hp => (List.not_mem_nil hp).elim⟩⟩⟩
    · cases h1
  · cases h
noncomputable def pyxlaw25_GateOnce.j13000.fin (y : (Int × Int × Int × Int × Bool × List Spyxlaw25_Raw × Int × Int × Bool × List Sgate_Out × List (Sgate_Key × Int) × List (Sgate_Key × Sapi_Dec) × Spyxlaw25_Raw × Sapi_Rule × Bool × Int × Int × Int × Bool × Int × Int × Int)) : Out U := match y with | (x30, x31, x32, x33, x47, x48, x49, x50, x51, x34, x35, x36, x37, x38, x39, x40, x41, x42, x43, x44, x45, x46) => .norm ⟨[(11, .ptr 350000000000003 0), (14, .ptr 14 0), (15, .ptr 15 0), (16, .ptr 16 0), (17, .ptr 17 0), (1, .flat (.int .i64 x30)), (2, .flat (.int .i64 x31)), (3, .flat (.int .i64 x32)), (4, .flat (.int .i64 x33)), (12, .mp 1014000012), (21, .flat (.bool x47)), (42, .row C.Spyxlaw25_Raw x48), (43, .flat (.int .i64 x49)), (44, .flat (.int .i64 x50)), (91, .flat (.bool x51))], [(350000000000003, .lit [.tip 35000103300000300 C.Sgate_Out x34, .mp 35000103300000301]), (35000103300000300, .tip 11), (35000103300000301, .map true true false C.Sgate_Key C.i64 x35), (1014000012, .map true true true C.Sgate_Key C.Sapi_Dec x36), (14, .lit (cd_Spyxlaw25_Raw.enc x37)), (15, .lit (cd_Sapi_Rule.enc x38)), (16, .lit [.flat (.bool x39), .flat (.int .u64 x40), .flat (.int .u64 x41), .flat (.int .i64 x42)]), (17, .lit [.flat (.bool x43), .flat (.int .u64 x44), .flat (.int .u64 x45), .flat (.int .i64 x46)])]⟩
noncomputable def pyxlaw25_GateOnce.j13000.finK {ρ : Type} (y : (Int × Int × Int × Int × Bool × List Spyxlaw25_Raw × Int × Int × Bool × List Sgate_Out × List (Sgate_Key × Int) × List (Sgate_Key × Sapi_Dec) × Spyxlaw25_Raw × Sapi_Rule × Bool × Int × Int × Int × Bool × Int × Int × Int)) (K : Out U → Option ρ) : Option ρ := match y with | (x30, x31, x32, x33, x47, x48, x49, x50, x51, x34, x35, x36, x37, x38, x39, x40, x41, x42, x43, x44, x45, x46) => K (.norm ⟨[(11, .ptr 350000000000003 0), (14, .ptr 14 0), (15, .ptr 15 0), (16, .ptr 16 0), (17, .ptr 17 0), (1, .flat (.int .i64 x30)), (2, .flat (.int .i64 x31)), (3, .flat (.int .i64 x32)), (4, .flat (.int .i64 x33)), (12, .mp 1014000012), (21, .flat (.bool x47)), (42, .row C.Spyxlaw25_Raw x48), (43, .flat (.int .i64 x49)), (44, .flat (.int .i64 x50)), (91, .flat (.bool x51))], [(350000000000003, .lit [.tip 35000103300000300 C.Sgate_Out x34, .mp 35000103300000301]), (35000103300000300, .tip 11), (35000103300000301, .map true true false C.Sgate_Key C.i64 x35), (1014000012, .map true true true C.Sgate_Key C.Sapi_Dec x36), (14, .lit (cd_Spyxlaw25_Raw.enc x37)), (15, .lit (cd_Sapi_Rule.enc x38)), (16, .lit [.flat (.bool x39), .flat (.int .u64 x40), .flat (.int .u64 x41), .flat (.int .i64 x42)]), (17, .lit [.flat (.bool x43), .flat (.int .u64 x44), .flat (.int .u64 x45), .flat (.int .i64 x46)])]⟩)
theorem pyxlaw25_GateOnce.j13000.finK_eq {ρ : Type} (y : (Int × Int × Int × Int × Bool × List Spyxlaw25_Raw × Int × Int × Bool × List Sgate_Out × List (Sgate_Key × Int) × List (Sgate_Key × Sapi_Dec) × Spyxlaw25_Raw × Sapi_Rule × Bool × Int × Int × Int × Bool × Int × Int × Int)) (K : Out U → Option ρ) : pyxlaw25_GateOnce.j13000.finK y K = K (pyxlaw25_GateOnce.j13000.fin y) := by
  unfold pyxlaw25_GateOnce.j13000.finK pyxlaw25_GateOnce.j13000.fin
  first | rfl | (split <;> rfl)
noncomputable def pyxlaw25_GateOnce.j13000.re : Out U → Option ((Int × Int × Int × Int × Bool × List Spyxlaw25_Raw × Int × Int × Bool × List Sgate_Out × List (Sgate_Key × Int) × List (Sgate_Key × Sapi_Dec) × Spyxlaw25_Raw × Sapi_Rule × Bool × Int × Int × Int × Bool × Int × Int × Int)) | .norm s => ((map_Sgate_Key_Sapi_Dec_t s.o (s.get 12)).bind fun q0 => ((row_Spyxlaw25_Raw (s.get 42)).bind fun q1 => ((Cd.ofLit cd_Spyxlaw25_Raw s.o 14).bind fun q2 => ((Cd.ofLit cd_Sapi_Rule s.o 15).bind fun q3 => (match s.get 11, s.get 14, s.get 15, s.get 16, s.get 17, s.get 1, s.get 2, s.get 3, s.get 4, s.get 21, s.get 43, s.get 44, s.get 91, lk s.o 350000000000003, lk s.o 16, lk s.o 17 with | .ptr 350000000000003 0, .ptr 14 0, .ptr 15 0, .ptr 16 0, .ptr 17 0, .flat (.int .i64 x30), .flat (.int .i64 x31), .flat (.int .i64 x32), .flat (.int .i64 x33), .flat (.bool x47), .flat (.int .i64 x49), .flat (.int .i64 x50), .flat (.bool x51), some (.lit [u350000000000003_0, u350000000000003_1]), some (.lit [.flat (.bool x39), .flat (.int .u64 x40), .flat (.int .u64 x41), .flat (.int .i64 x42)]), some (.lit [.flat (.bool x43), .flat (.int .u64 x44), .flat (.int .u64 x45), .flat (.int .i64 x46)]) => (tip_Sgate_Out s.o 11 u350000000000003_0).bind fun w350000000000003_0 => ((map_Sgate_Key_i64_t s.o u350000000000003_1).bind fun w350000000000003_1 => (cond (apart [q0.1, w350000000000003_0.1, w350000000000003_1.1]) (some (x30, x31, x32, x33, x47, q1, x49, x50, x51, w350000000000003_0.2, w350000000000003_1.2, q0.2, q2, q3, x39, x40, x41, x42, x43, x44, x45, x46)) none)) | _, _, _, _, _, _, _, _, _, _, _, _, _, _, _, _ => none))))) | _ => none
noncomputable def pyxlaw25_GateOnce.j13000.J : JDen U := { Y := (Int × Int × Int × Int × Bool × List Spyxlaw25_Raw × Int × Int × Bool × List Sgate_Out × List (Sgate_Key × Int) × List (Sgate_Key × Sapi_Dec) × Spyxlaw25_Raw × Sapi_Rule × Bool × Int × Int × Int × Bool × Int × Int × Int), re := pyxlaw25_GateOnce.j13000.re, fin := pyxlaw25_GateOnce.j13000.fin, finK := pyxlaw25_GateOnce.j13000.finK, finK_eq := pyxlaw25_GateOnce.j13000.finK_eq }
theorem pyxlaw25_GateOnce.j13000.fit (o : Out U) (y : (Int × Int × Int × Int × Bool × List Spyxlaw25_Raw × Int × Int × Bool × List Sgate_Out × List (Sgate_Key × Int) × List (Sgate_Key × Sapi_Dec) × Spyxlaw25_Raw × Sapi_Rule × Bool × Int × Int × Int × Bool × Int × Int × Int)) (h : pyxlaw25_GateOnce.j13000.re o = some y) : FitsO o (pyxlaw25_GateOnce.j13000.fin y) := by
  unfold pyxlaw25_GateOnce.j13000.re at h
  split at h
  · obtain ⟨q0, eq0, h1⟩ := Option.bind_eq_some_iff.1 h
    obtain ⟨q1, eq1, h2⟩ := Option.bind_eq_some_iff.1 h1
    obtain ⟨q2, eq2, h3⟩ := Option.bind_eq_some_iff.1 h2
    obtain ⟨q3, eq3, h4⟩ := Option.bind_eq_some_iff.1 h3
    split at h4
    · obtain ⟨w350000000000003_0, ew350000000000003_0, h5⟩ := Option.bind_eq_some_iff.1 h4
      obtain ⟨w350000000000003_1, ew350000000000003_1, h6⟩ := Option.bind_eq_some_iff.1 h5
      obtain ⟨hap, h7⟩ := cond_none h6
      cases h7
      refine fitsO_norm (fits_ren [(1014000012, q0.1), (35000103300000300, w350000000000003_0.1), (35000103300000301, w350000000000003_1.1)] ?_ ?_ (ren_apart hap) rfl)
      · exact List.forall_mem_cons.2 ⟨FV.one (FV.ptr (by assumption)), List.forall_mem_cons.2 ⟨FV.one (FV.ptr (by assumption)), List.forall_mem_cons.2 ⟨FV.one (FV.ptr (by assumption)), List.forall_mem_cons.2 ⟨FV.one (FV.ptr (by assumption)), List.forall_mem_cons.2 ⟨FV.one (FV.ptr (by assumption)), List.forall_mem_cons.2 ⟨FV.one (FV.same (by assumption) rfl), List.forall_mem_cons.2 ⟨FV.one (FV.same (by assumption) rfl), List.forall_mem_cons.2 ⟨FV.one (FV.same (by assumption) rfl), List.forall_mem_cons.2 ⟨FV.one (FV.same (by assumption) rfl), List.forall_mem_cons.2 ⟨FV.one (map_Sgate_Key_Sapi_Dec_t_fit eq0 rfl).1, List.forall_mem_cons.2 ⟨FV.one (FV.same (by assumption) rfl), List.forall_mem_cons.2 ⟨FV.one (row_Spyxlaw25_Raw_fit eq1), List.forall_mem_cons.2 ⟨FV.one (FV.same (by assumption) rfl), List.forall_mem_cons.2 ⟨FV.one (FV.same (by assumption) rfl), List.forall_mem_cons.2 ⟨FV.one (FV.same (by assumption) rfl), fun _ hp => (List.not_mem_nil hp).elim⟩⟩⟩⟩⟩⟩⟩⟩⟩⟩⟩⟩⟩⟩⟩
      · exact List.forall_mem_cons.2 ⟨(FO.cells (show lk (St.o _) 350000000000003 = some _ from by assumption) (FCs.cons ((tip_Sgate_Out_fit ew350000000000003_0 rfl).1) (FCs.cons ((map_Sgate_Key_i64_t_fit ew350000000000003_1 rfl).1) (FCs.nil)))), List.forall_mem_cons.2 ⟨(tip_Sgate_Out_fit ew350000000000003_0 rfl).2, List.forall_mem_cons.2 ⟨(map_Sgate_Key_i64_t_fit ew350000000000003_1 rfl).2, List.forall_mem_cons.2 ⟨(map_Sgate_Key_Sapi_Dec_t_fit eq0 rfl).2, List.forall_mem_cons.2 ⟨(FO.same (Cd.ofLit_ok eq2) rfl), List.forall_mem_cons.2 ⟨(FO.same (Cd.ofLit_ok eq3) rfl), List.forall_mem_cons.2 ⟨(FO.same (show lk (St.o _) 16 = some _ from by assumption) rfl), List.forall_mem_cons.2 ⟨(FO.same (show lk (St.o _) 17 = some _ from by assumption) rfl), fun _ hp => (List.not_mem_nil hp).elim⟩⟩⟩⟩⟩⟩⟩⟩
    · cases h4
  · cases h
noncomputable def pyxlaw25_GateOnce.j19001.fin (y : (Int × Int × Int × Int × List Spyxlaw25_Raw × Int × Int × List Sgate_Out × List (Sgate_Key × Int) × List (Sgate_Key × Sapi_Dec) × Sapi_Rule × Bool × Int × Int × Int × Bool × Int × Int × Int)) : Out U := match y with | (x57, x58, x59, x60, x73, x74, x75, x61, x62, x63, x64, x65, x66, x67, x68, x69, x70, x71, x72) => .norm ⟨[(11, .ptr 350000000000003 0), (15, .ptr 15 0), (17, .ptr 17 0), (22, .ptr 22 0), (1, .flat (.int .i64 x57)), (2, .flat (.int .i64 x58)), (3, .flat (.int .i64 x59)), (4, .flat (.int .i64 x60)), (12, .mp 1020001012), (42, .row C.Spyxlaw25_Raw x73), (43, .flat (.int .i64 x74)), (44, .flat (.int .i64 x75))], [(350000000000003, .lit [.tip 35000103900100300 C.Sgate_Out x61, .mp 35000103900100301]), (35000103900100300, .tip 11), (35000103900100301, .map true true false C.Sgate_Key C.i64 x62), (1020001012, .map true true true C.Sgate_Key C.Sapi_Dec x63), (15, .lit (cd_Sapi_Rule.enc x64)), (17, .lit [.flat (.bool x65), .flat (.int .u64 x66), .flat (.int .u64 x67), .flat (.int .i64 x68)]), (22, .lit [.flat (.bool x69), .flat (.int .u64 x70), .flat (.int .u64 x71), .flat (.int .i64 x72)])]⟩
noncomputable def pyxlaw25_GateOnce.j19001.finK {ρ : Type} (y : (Int × Int × Int × Int × List Spyxlaw25_Raw × Int × Int × List Sgate_Out × List (Sgate_Key × Int) × List (Sgate_Key × Sapi_Dec) × Sapi_Rule × Bool × Int × Int × Int × Bool × Int × Int × Int)) (K : Out U → Option ρ) : Option ρ := match y with | (x57, x58, x59, x60, x73, x74, x75, x61, x62, x63, x64, x65, x66, x67, x68, x69, x70, x71, x72) => K (.norm ⟨[(11, .ptr 350000000000003 0), (15, .ptr 15 0), (17, .ptr 17 0), (22, .ptr 22 0), (1, .flat (.int .i64 x57)), (2, .flat (.int .i64 x58)), (3, .flat (.int .i64 x59)), (4, .flat (.int .i64 x60)), (12, .mp 1020001012), (42, .row C.Spyxlaw25_Raw x73), (43, .flat (.int .i64 x74)), (44, .flat (.int .i64 x75))], [(350000000000003, .lit [.tip 35000103900100300 C.Sgate_Out x61, .mp 35000103900100301]), (35000103900100300, .tip 11), (35000103900100301, .map true true false C.Sgate_Key C.i64 x62), (1020001012, .map true true true C.Sgate_Key C.Sapi_Dec x63), (15, .lit (cd_Sapi_Rule.enc x64)), (17, .lit [.flat (.bool x65), .flat (.int .u64 x66), .flat (.int .u64 x67), .flat (.int .i64 x68)]), (22, .lit [.flat (.bool x69), .flat (.int .u64 x70), .flat (.int .u64 x71), .flat (.int .i64 x72)])]⟩)
theorem pyxlaw25_GateOnce.j19001.finK_eq {ρ : Type} (y : (Int × Int × Int × Int × List Spyxlaw25_Raw × Int × Int × List Sgate_Out × List (Sgate_Key × Int) × List (Sgate_Key × Sapi_Dec) × Sapi_Rule × Bool × Int × Int × Int × Bool × Int × Int × Int)) (K : Out U → Option ρ) : pyxlaw25_GateOnce.j19001.finK y K = K (pyxlaw25_GateOnce.j19001.fin y) := by
  unfold pyxlaw25_GateOnce.j19001.finK pyxlaw25_GateOnce.j19001.fin
  first | rfl | (split <;> rfl)
noncomputable def pyxlaw25_GateOnce.j19001.re : Out U → Option ((Int × Int × Int × Int × List Spyxlaw25_Raw × Int × Int × List Sgate_Out × List (Sgate_Key × Int) × List (Sgate_Key × Sapi_Dec) × Sapi_Rule × Bool × Int × Int × Int × Bool × Int × Int × Int)) | .norm s => ((map_Sgate_Key_Sapi_Dec_t s.o (s.get 12)).bind fun q0 => ((row_Spyxlaw25_Raw (s.get 42)).bind fun q1 => ((Cd.ofLit cd_Sapi_Rule s.o 15).bind fun q2 => (match s.get 11, s.get 15, s.get 17, s.get 22, s.get 1, s.get 2, s.get 3, s.get 4, s.get 43, s.get 44, lk s.o 350000000000003, lk s.o 17, lk s.o 22 with | .ptr 350000000000003 0, .ptr 15 0, .ptr 17 0, .ptr 22 0, .flat (.int .i64 x57), .flat (.int .i64 x58), .flat (.int .i64 x59), .flat (.int .i64 x60), .flat (.int .i64 x74), .flat (.int .i64 x75), some (.lit [u350000000000003_0, u350000000000003_1]), some (.lit [.flat (.bool x65), .flat (.int .u64 x66), .flat (.int .u64 x67), .flat (.int .i64 x68)]), some (.lit [.flat (.bool x69), .flat (.int .u64 x70), .flat (.int .u64 x71), .flat (.int .i64 x72)]) => (tip_Sgate_Out s.o 11 u350000000000003_0).bind fun w350000000000003_0 => ((map_Sgate_Key_i64_t s.o u350000000000003_1).bind fun w350000000000003_1 => (cond (apart [q0.1, w350000000000003_0.1, w350000000000003_1.1]) (some (x57, x58, x59, x60, q1, x74, x75, w350000000000003_0.2, w350000000000003_1.2, q0.2, q2, x65, x66, x67, x68, x69, x70, x71, x72)) none)) | _, _, _, _, _, _, _, _, _, _, _, _, _ => none)))) | _ => none
noncomputable def pyxlaw25_GateOnce.j19001.J : JDen U := { Y := (Int × Int × Int × Int × List Spyxlaw25_Raw × Int × Int × List Sgate_Out × List (Sgate_Key × Int) × List (Sgate_Key × Sapi_Dec) × Sapi_Rule × Bool × Int × Int × Int × Bool × Int × Int × Int), re := pyxlaw25_GateOnce.j19001.re, fin := pyxlaw25_GateOnce.j19001.fin, finK := pyxlaw25_GateOnce.j19001.finK, finK_eq := pyxlaw25_GateOnce.j19001.finK_eq }
theorem pyxlaw25_GateOnce.j19001.fit (o : Out U) (y : (Int × Int × Int × Int × List Spyxlaw25_Raw × Int × Int × List Sgate_Out × List (Sgate_Key × Int) × List (Sgate_Key × Sapi_Dec) × Sapi_Rule × Bool × Int × Int × Int × Bool × Int × Int × Int)) (h : pyxlaw25_GateOnce.j19001.re o = some y) : FitsO o (pyxlaw25_GateOnce.j19001.fin y) := by
  unfold pyxlaw25_GateOnce.j19001.re at h
  split at h
  · obtain ⟨q0, eq0, h1⟩ := Option.bind_eq_some_iff.1 h
    obtain ⟨q1, eq1, h2⟩ := Option.bind_eq_some_iff.1 h1
    obtain ⟨q2, eq2, h3⟩ := Option.bind_eq_some_iff.1 h2
    split at h3
    · obtain ⟨w350000000000003_0, ew350000000000003_0, h4⟩ := Option.bind_eq_some_iff.1 h3
      obtain ⟨w350000000000003_1, ew350000000000003_1, h5⟩ := Option.bind_eq_some_iff.1 h4
      obtain ⟨hap, h6⟩ := cond_none h5
      cases h6
      refine fitsO_norm (fits_ren [(1020001012, q0.1), (35000103900100300, w350000000000003_0.1), (35000103900100301, w350000000000003_1.1)] ?_ ?_ (ren_apart hap) rfl)
      · exact List.forall_mem_cons.2 ⟨FV.one (FV.ptr (by assumption)), List.forall_mem_cons.2 ⟨FV.one (FV.ptr (by assumption)), List.forall_mem_cons.2 ⟨FV.one (FV.ptr (by assumption)), List.forall_mem_cons.2 ⟨FV.one (FV.ptr (by assumption)), List.forall_mem_cons.2 ⟨FV.one (FV.same (by assumption) rfl), List.forall_mem_cons.2 ⟨FV.one (FV.same (by assumption) rfl), List.forall_mem_cons.2 ⟨FV.one (FV.same (by assumption) rfl), List.forall_mem_cons.2 ⟨FV.one (FV.same (by assumption) rfl), List.forall_mem_cons.2 ⟨FV.one (map_Sgate_Key_Sapi_Dec_t_fit eq0 rfl).1, List.forall_mem_cons.2 ⟨FV.one (row_Spyxlaw25_Raw_fit eq1), List.forall_mem_cons.2 ⟨FV.one (FV.same (by assumption) rfl), List.forall_mem_cons.2 ⟨FV.one (FV.same (by assumption) rfl), fun _ hp => (List.not_mem_nil hp).elim⟩⟩⟩⟩⟩⟩⟩⟩⟩⟩⟩⟩
      · exact List.forall_mem_cons.2 ⟨(FO.cells (show lk (St.o _) 350000000000003 = some _ from by assumption) (FCs.cons ((tip_Sgate_Out_fit ew350000000000003_0 rfl).1) (FCs.cons ((map_Sgate_Key_i64_t_fit ew350000000000003_1 rfl).1) (FCs.nil)))), List.forall_mem_cons.2 ⟨(tip_Sgate_Out_fit ew350000000000003_0 rfl).2, List.forall_mem_cons.2 ⟨(map_Sgate_Key_i64_t_fit ew350000000000003_1 rfl).2, List.forall_mem_cons.2 ⟨(map_Sgate_Key_Sapi_Dec_t_fit eq0 rfl).2, List.forall_mem_cons.2 ⟨(FO.same (Cd.ofLit_ok eq2) rfl), List.forall_mem_cons.2 ⟨(FO.same (show lk (St.o _) 17 = some _ from by assumption) rfl), List.forall_mem_cons.2 ⟨(FO.same (show lk (St.o _) 22 = some _ from by assumption) rfl), fun _ hp => (List.not_mem_nil hp).elim⟩⟩⟩⟩⟩⟩⟩
    · cases h3
  · cases h
noncomputable def pyxlaw25_GateOnce.j21000.fin (y : (Int × Int × Int × Int × List Spyxlaw25_Raw × Int × Int × Bool × List Sgate_Out × List (Sgate_Key × Int) × List (Sgate_Key × Sapi_Dec))) : Out U := match y with | (x79, x80, x81, x82, x86, x87, x88, x89, x83, x84, x85) => .norm ⟨[(11, .ptr 350000000000003 0), (1, .flat (.int .i64 x79)), (2, .flat (.int .i64 x80)), (3, .flat (.int .i64 x81)), (4, .flat (.int .i64 x82)), (12, .mp 1022000012), (42, .row C.Spyxlaw25_Raw x86), (43, .flat (.int .i64 x87)), (44, .flat (.int .i64 x88)), (126, .flat (.bool x89))], [(350000000000003, .lit [.tip 35000104100000300 C.Sgate_Out x83, .mp 35000104100000301]), (35000104100000300, .tip 11), (35000104100000301, .map true true false C.Sgate_Key C.i64 x84), (1022000012, .map true true true C.Sgate_Key C.Sapi_Dec x85)]⟩
noncomputable def pyxlaw25_GateOnce.j21000.finK {ρ : Type} (y : (Int × Int × Int × Int × List Spyxlaw25_Raw × Int × Int × Bool × List Sgate_Out × List (Sgate_Key × Int) × List (Sgate_Key × Sapi_Dec))) (K : Out U → Option ρ) : Option ρ := match y with | (x79, x80, x81, x82, x86, x87, x88, x89, x83, x84, x85) => K (.norm ⟨[(11, .ptr 350000000000003 0), (1, .flat (.int .i64 x79)), (2, .flat (.int .i64 x80)), (3, .flat (.int .i64 x81)), (4, .flat (.int .i64 x82)), (12, .mp 1022000012), (42, .row C.Spyxlaw25_Raw x86), (43, .flat (.int .i64 x87)), (44, .flat (.int .i64 x88)), (126, .flat (.bool x89))], [(350000000000003, .lit [.tip 35000104100000300 C.Sgate_Out x83, .mp 35000104100000301]), (35000104100000300, .tip 11), (35000104100000301, .map true true false C.Sgate_Key C.i64 x84), (1022000012, .map true true true C.Sgate_Key C.Sapi_Dec x85)]⟩)
theorem pyxlaw25_GateOnce.j21000.finK_eq {ρ : Type} (y : (Int × Int × Int × Int × List Spyxlaw25_Raw × Int × Int × Bool × List Sgate_Out × List (Sgate_Key × Int) × List (Sgate_Key × Sapi_Dec))) (K : Out U → Option ρ) : pyxlaw25_GateOnce.j21000.finK y K = K (pyxlaw25_GateOnce.j21000.fin y) := by
  unfold pyxlaw25_GateOnce.j21000.finK pyxlaw25_GateOnce.j21000.fin
  first | rfl | (split <;> rfl)
noncomputable def pyxlaw25_GateOnce.j21000.re : Out U → Option ((Int × Int × Int × Int × List Spyxlaw25_Raw × Int × Int × Bool × List Sgate_Out × List (Sgate_Key × Int) × List (Sgate_Key × Sapi_Dec))) | .norm s => ((map_Sgate_Key_Sapi_Dec_t s.o (s.get 12)).bind fun q0 => ((row_Spyxlaw25_Raw (s.get 42)).bind fun q1 => (match s.get 11, s.get 1, s.get 2, s.get 3, s.get 4, s.get 43, s.get 44, s.get 126, lk s.o 350000000000003 with | .ptr 350000000000003 0, .flat (.int .i64 x79), .flat (.int .i64 x80), .flat (.int .i64 x81), .flat (.int .i64 x82), .flat (.int .i64 x87), .flat (.int .i64 x88), .flat (.bool x89), some (.lit [u350000000000003_0, u350000000000003_1]) => (tip_Sgate_Out s.o 11 u350000000000003_0).bind fun w350000000000003_0 => ((map_Sgate_Key_i64_t s.o u350000000000003_1).bind fun w350000000000003_1 => (cond (apart [q0.1, w350000000000003_0.1, w350000000000003_1.1]) (some (x79, x80, x81, x82, q1, x87, x88, x89, w350000000000003_0.2, w350000000000003_1.2, q0.2)) none)) | _, _, _, _, _, _, _, _, _ => none))) | _ => none
noncomputable def pyxlaw25_GateOnce.j21000.J : JDen U := { Y := (Int × Int × Int × Int × List Spyxlaw25_Raw × Int × Int × Bool × List Sgate_Out × List (Sgate_Key × Int) × List (Sgate_Key × Sapi_Dec)), re := pyxlaw25_GateOnce.j21000.re, fin := pyxlaw25_GateOnce.j21000.fin, finK := pyxlaw25_GateOnce.j21000.finK, finK_eq := pyxlaw25_GateOnce.j21000.finK_eq }
theorem pyxlaw25_GateOnce.j21000.fit (o : Out U) (y : (Int × Int × Int × Int × List Spyxlaw25_Raw × Int × Int × Bool × List Sgate_Out × List (Sgate_Key × Int) × List (Sgate_Key × Sapi_Dec))) (h : pyxlaw25_GateOnce.j21000.re o = some y) : FitsO o (pyxlaw25_GateOnce.j21000.fin y) := by
  unfold pyxlaw25_GateOnce.j21000.re at h
  split at h
  · obtain ⟨q0, eq0, h1⟩ := Option.bind_eq_some_iff.1 h
    obtain ⟨q1, eq1, h2⟩ := Option.bind_eq_some_iff.1 h1
    split at h2
    · obtain ⟨w350000000000003_0, ew350000000000003_0, h3⟩ := Option.bind_eq_some_iff.1 h2
      obtain ⟨w350000000000003_1, ew350000000000003_1, h4⟩ := Option.bind_eq_some_iff.1 h3
      obtain ⟨hap, h5⟩ := cond_none h4
      cases h5
      refine fitsO_norm (fits_ren [(1022000012, q0.1), (35000104100000300, w350000000000003_0.1), (35000104100000301, w350000000000003_1.1)] ?_ ?_ (ren_apart hap) rfl)
      · exact List.forall_mem_cons.2 ⟨FV.one (FV.ptr (by assumption)), List.forall_mem_cons.2 ⟨FV.one (FV.same (by assumption) rfl), List.forall_mem_cons.2 ⟨FV.one (FV.same (by assumption) rfl), List.forall_mem_cons.2 ⟨FV.one (FV.same (by assumption) rfl), List.forall_mem_cons.2 ⟨FV.one (FV.same (by assumption) rfl), List.forall_mem_cons.2 ⟨FV.one (map_Sgate_Key_Sapi_Dec_t_fit eq0 rfl).1, List.forall_mem_cons.2 ⟨FV.one (row_Spyxlaw25_Raw_fit eq1), List.forall_mem_cons.2 ⟨FV.one (FV.same (by assumption) rfl), List.forall_mem_cons.2 ⟨FV.one (FV.same (by assumption) rfl), List.forall_mem_cons.2 ⟨FV.one (FV.same (by assumption) rfl), fun _ hp => (List.not_mem_nil hp).elim⟩⟩⟩⟩⟩⟩⟩⟩⟩⟩
      · exact List.forall_mem_cons.2 ⟨(FO.cells (show lk (St.o _) 350000000000003 = some _ from by assumption) (FCs.cons ((tip_Sgate_Out_fit ew350000000000003_0 rfl).1) (FCs.cons ((map_Sgate_Key_i64_t_fit ew350000000000003_1 rfl).1) (FCs.nil)))), List.forall_mem_cons.2 ⟨(tip_Sgate_Out_fit ew350000000000003_0 rfl).2, List.forall_mem_cons.2 ⟨(map_Sgate_Key_i64_t_fit ew350000000000003_1 rfl).2, List.forall_mem_cons.2 ⟨(map_Sgate_Key_Sapi_Dec_t_fit eq0 rfl).2, fun _ hp => (List.not_mem_nil hp).elim⟩⟩⟩⟩
    · cases h2
  · cases h
noncomputable def pyxlaw25_GateOnce.j35000.fin (y : (List Sgate_Out × Int × List Sgate_Out × Int × Int × Bool × List (Sgate_Key × Sapi_Dec) × Int × Int × Int × Int × Sgate_Out)) : Out U := match y with | (x123, x124, x126, x127, x128, x129, x118, x119, x120, x121, x122, x125) => .norm ⟨[(27, .ptr 27 0), (28, .ptr 28 0), (33, .ptr 33 0), (12, .mp 1036000012), (29, .row C.Sgate_Out x123), (31, .flat (.int .i64 x124)), (155, .row C.Sgate_Out x126), (156, .flat (.int .i64 x127)), (157, .flat (.int .i64 x128)), (172, .flat (.bool x129))], [(1036000012, .map true true true C.Sgate_Key C.Sapi_Dec x118), (27, .lit [.flat (.int .u64 x119), .flat (.int .i64 x120)]), (28, .lit [.flat (.int .u64 x121), .flat (.int .i64 x122)]), (33, .lit (cd_Sgate_Out.enc x125))]⟩
noncomputable def pyxlaw25_GateOnce.j35000.finK {ρ : Type} (y : (List Sgate_Out × Int × List Sgate_Out × Int × Int × Bool × List (Sgate_Key × Sapi_Dec) × Int × Int × Int × Int × Sgate_Out)) (K : Out U → Option ρ) : Option ρ := match y with | (x123, x124, x126, x127, x128, x129, x118, x119, x120, x121, x122, x125) => K (.norm ⟨[(27, .ptr 27 0), (28, .ptr 28 0), (33, .ptr 33 0), (12, .mp 1036000012), (29, .row C.Sgate_Out x123), (31, .flat (.int .i64 x124)), (155, .row C.Sgate_Out x126), (156, .flat (.int .i64 x127)), (157, .flat (.int .i64 x128)), (172, .flat (.bool x129))], [(1036000012, .map true true true C.Sgate_Key C.Sapi_Dec x118), (27, .lit [.flat (.int .u64 x119), .flat (.int .i64 x120)]), (28, .lit [.flat (.int .u64 x121), .flat (.int .i64 x122)]), (33, .lit (cd_Sgate_Out.enc x125))]⟩)
theorem pyxlaw25_GateOnce.j35000.finK_eq {ρ : Type} (y : (List Sgate_Out × Int × List Sgate_Out × Int × Int × Bool × List (Sgate_Key × Sapi_Dec) × Int × Int × Int × Int × Sgate_Out)) (K : Out U → Option ρ) : pyxlaw25_GateOnce.j35000.finK y K = K (pyxlaw25_GateOnce.j35000.fin y) := by
  unfold pyxlaw25_GateOnce.j35000.finK pyxlaw25_GateOnce.j35000.fin
  first | rfl | (split <;> rfl)
noncomputable def pyxlaw25_GateOnce.j35000.re : Out U → Option ((List Sgate_Out × Int × List Sgate_Out × Int × Int × Bool × List (Sgate_Key × Sapi_Dec) × Int × Int × Int × Int × Sgate_Out)) | .norm s => ((map_Sgate_Key_Sapi_Dec_t s.o (s.get 12)).bind fun q0 => ((row_Sgate_Out (s.get 29)).bind fun q1 => ((row_Sgate_Out (s.get 155)).bind fun q2 => ((Cd.ofLit cd_Sgate_Out s.o 33).bind fun q3 => (match s.get 27, s.get 28, s.get 33, s.get 31, s.get 156, s.get 157, s.get 172, lk s.o 27, lk s.o 28 with | .ptr 27 0, .ptr 28 0, .ptr 33 0, .flat (.int .i64 x124), .flat (.int .i64 x127), .flat (.int .i64 x128), .flat (.bool x129), some (.lit [.flat (.int .u64 x119), .flat (.int .i64 x120)]), some (.lit [.flat (.int .u64 x121), .flat (.int .i64 x122)]) => some (q1, x124, q2, x127, x128, x129, q0.2, x119, x120, x121, x122, q3) | _, _, _, _, _, _, _, _, _ => none))))) | _ => none
noncomputable def pyxlaw25_GateOnce.j35000.J : JDen U := { Y := (List Sgate_Out × Int × List Sgate_Out × Int × Int × Bool × List (Sgate_Key × Sapi_Dec) × Int × Int × Int × Int × Sgate_Out), re := pyxlaw25_GateOnce.j35000.re, fin := pyxlaw25_GateOnce.j35000.fin, finK := pyxlaw25_GateOnce.j35000.finK, finK_eq := pyxlaw25_GateOnce.j35000.finK_eq }
theorem pyxlaw25_GateOnce.j35000.fit (o : Out U) (y : (List Sgate_Out × Int × List Sgate_Out × Int × Int × Bool × List (Sgate_Key × Sapi_Dec) × Int × Int × Int × Int × Sgate_Out)) (h : pyxlaw25_GateOnce.j35000.re o = some y) : FitsO o (pyxlaw25_GateOnce.j35000.fin y) := by
  unfold pyxlaw25_GateOnce.j35000.re at h
  split at h
  · obtain ⟨q0, eq0, h1⟩ := Option.bind_eq_some_iff.1 h
    obtain ⟨q1, eq1, h2⟩ := Option.bind_eq_some_iff.1 h1
    obtain ⟨q2, eq2, h3⟩ := Option.bind_eq_some_iff.1 h2
    obtain ⟨q3, eq3, h4⟩ := Option.bind_eq_some_iff.1 h3
    split at h4
    · cases h4
      refine fitsO_norm (fits_ren [(1036000012, q0.1)] ?_ ?_ ren_one rfl)
      · exact List.forall_mem_cons.2 ⟨FV.one (FV.ptr (by assumption)), List.forall_mem_cons.2 ⟨FV.one (FV.ptr (by assumption)), List.forall_mem_cons.2 ⟨FV.one (FV.ptr (by assumption)), List.forall_mem_cons.2 ⟨FV.one (map_Sgate_Key_Sapi_Dec_t_fit eq0 rfl).1, List.forall_mem_cons.2 ⟨FV.one (row_Sgate_Out_fit eq1), List.forall_mem_cons.2 ⟨FV.one (FV.same (by assumption) rfl), List.forall_mem_cons.2 ⟨FV.one (row_Sgate_Out_fit eq2), List.forall_mem_cons.2 ⟨FV.one (FV.same (by assumption) rfl), List.forall_mem_cons.2 ⟨FV.one (FV.same (by assumption) rfl), List.forall_mem_cons.2 ⟨FV.one (FV.same (by assumption) rfl), fun _ hp => (List.not_mem_nil hp).elim⟩⟩⟩⟩⟩⟩⟩⟩⟩⟩
      · exact List.forall_mem_cons.2 ⟨(map_Sgate_Key_Sapi_Dec_t_fit eq0 rfl).2, List.forall_mem_cons.2 ⟨(FO.same (show lk (St.o _) 27 = some _ from by assumption) rfl), List.forall_mem_cons.2 ⟨(FO.same (show lk (St.o _) 28 = some _ from by assumption) rfl), List.forall_mem_cons.2 ⟨(FO.same (Cd.ofLit_ok eq3) rfl), fun _ hp => (List.not_mem_nil hp).elim⟩⟩⟩⟩
    · cases h4
  · cases h
noncomputable def pyxlaw25_GateOnce.j36001.fin (y : (List Sgate_Out × Int × List Sgate_Out × Int × Int × List (Sgate_Key × Sapi_Dec) × Int × Int × Int × Int × Sgate_Out) ⊕ Bool) : Out U := match y with | .inl (x136, x137, x139, x140, x141, x131, x132, x133, x134, x135, x138) => .norm ⟨[(27, .ptr 27 0), (28, .ptr 28 0), (33, .ptr 33 0), (12, .mp 1037001012), (29, .row C.Sgate_Out x136), (31, .flat (.int .i64 x137)), (155, .row C.Sgate_Out x139), (156, .flat (.int .i64 x140)), (157, .flat (.int .i64 x141))], [(1037001012, .map true true true C.Sgate_Key C.Sapi_Dec x131), (27, .lit [.flat (.int .u64 x132), .flat (.int .i64 x133)]), (28, .lit [.flat (.int .u64 x134), .flat (.int .i64 x135)]), (33, .lit (cd_Sgate_Out.enc x138))]⟩ | .inr z => .ret (⟨[(0, .flat (.bool z))], []⟩)
noncomputable def pyxlaw25_GateOnce.j36001.finK {ρ : Type} (y : (List Sgate_Out × Int × List Sgate_Out × Int × Int × List (Sgate_Key × Sapi_Dec) × Int × Int × Int × Int × Sgate_Out) ⊕ Bool) (K : Out U → Option ρ) : Option ρ := match y with | .inl (x136, x137, x139, x140, x141, x131, x132, x133, x134, x135, x138) => K (.norm ⟨[(27, .ptr 27 0), (28, .ptr 28 0), (33, .ptr 33 0), (12, .mp 1037001012), (29, .row C.Sgate_Out x136), (31, .flat (.int .i64 x137)), (155, .row C.Sgate_Out x139), (156, .flat (.int .i64 x140)), (157, .flat (.int .i64 x141))], [(1037001012, .map true true true C.Sgate_Key C.Sapi_Dec x131), (27, .lit [.flat (.int .u64 x132), .flat (.int .i64 x133)]), (28, .lit [.flat (.int .u64 x134), .flat (.int .i64 x135)]), (33, .lit (cd_Sgate_Out.enc x138))]⟩) | .inr z => K (.ret (⟨[(0, .flat (.bool z))], []⟩))
theorem pyxlaw25_GateOnce.j36001.finK_eq {ρ : Type} (y : (List Sgate_Out × Int × List Sgate_Out × Int × Int × List (Sgate_Key × Sapi_Dec) × Int × Int × Int × Int × Sgate_Out) ⊕ Bool) (K : Out U → Option ρ) : pyxlaw25_GateOnce.j36001.finK y K = K (pyxlaw25_GateOnce.j36001.fin y) := by
  unfold pyxlaw25_GateOnce.j36001.finK pyxlaw25_GateOnce.j36001.fin
  first | rfl | (split <;> rfl)
noncomputable def pyxlaw25_GateOnce.j36001.re : Out U → Option ((List Sgate_Out × Int × List Sgate_Out × Int × Int × List (Sgate_Key × Sapi_Dec) × Int × Int × Int × Int × Sgate_Out) ⊕ Bool) | .norm s => ((map_Sgate_Key_Sapi_Dec_t s.o (s.get 12)).bind fun q0 => ((row_Sgate_Out (s.get 29)).bind fun q1 => ((row_Sgate_Out (s.get 155)).bind fun q2 => ((Cd.ofLit cd_Sgate_Out s.o 33).bind fun q3 => (match s.get 27, s.get 28, s.get 33, s.get 31, s.get 156, s.get 157, lk s.o 27, lk s.o 28 with | .ptr 27 0, .ptr 28 0, .ptr 33 0, .flat (.int .i64 x137), .flat (.int .i64 x140), .flat (.int .i64 x141), some (.lit [.flat (.int .u64 x132), .flat (.int .i64 x133)]), some (.lit [.flat (.int .u64 x134), .flat (.int .i64 x135)]) => some (.inl (q1, x137, q2, x140, x141, q0.2, x132, x133, x134, x135, q3)) | _, _, _, _, _, _, _, _ => none))))) | .ret s => (match s.get 0 with | .flat (.bool x1) => some (.inr x1) | _ => none) | _ => none
noncomputable def pyxlaw25_GateOnce.j36001.J : JDen U := { Y := (List Sgate_Out × Int × List Sgate_Out × Int × Int × List (Sgate_Key × Sapi_Dec) × Int × Int × Int × Int × Sgate_Out) ⊕ Bool, re := pyxlaw25_GateOnce.j36001.re, fin := pyxlaw25_GateOnce.j36001.fin, finK := pyxlaw25_GateOnce.j36001.finK, finK_eq := pyxlaw25_GateOnce.j36001.finK_eq }
theorem pyxlaw25_GateOnce.j36001.fit (o : Out U) (y : (List Sgate_Out × Int × List Sgate_Out × Int × Int × List (Sgate_Key × Sapi_Dec) × Int × Int × Int × Int × Sgate_Out) ⊕ Bool) (h : pyxlaw25_GateOnce.j36001.re o = some y) : FitsO o (pyxlaw25_GateOnce.j36001.fin y) := by
  unfold pyxlaw25_GateOnce.j36001.re at h
  split at h
  · obtain ⟨q0, eq0, h1⟩ := Option.bind_eq_some_iff.1 h
    obtain ⟨q1, eq1, h2⟩ := Option.bind_eq_some_iff.1 h1
    obtain ⟨q2, eq2, h3⟩ := Option.bind_eq_some_iff.1 h2
    obtain ⟨q3, eq3, h4⟩ := Option.bind_eq_some_iff.1 h3
    split at h4
    · cases h4
      refine fitsO_norm (fits_ren [(1037001012, q0.1)] ?_ ?_ ren_one rfl)
      · exact List.forall_mem_cons.2 ⟨FV.one (FV.ptr (by assumption)), List.forall_mem_cons.2 ⟨FV.one (FV.ptr (by assumption)), List.forall_mem_cons.2 ⟨FV.one (FV.ptr (by assumption)), List.forall_mem_cons.2 ⟨FV.one (map_Sgate_Key_Sapi_Dec_t_fit eq0 rfl).1, List.forall_mem_cons.2 ⟨FV.one (row_Sgate_Out_fit eq1), List.forall_mem_cons.2 ⟨FV.one (FV.same (by assumption) rfl), List.forall_mem_cons.2 ⟨FV.one (row_Sgate_Out_fit eq2), List.forall_mem_cons.2 ⟨FV.one (FV.same (by assumption) rfl), List.forall_mem_cons.2 ⟨FV.one (FV.same (by assumption) rfl), fun _ hp => (List.not_mem_nil hp).elim⟩⟩⟩⟩⟩⟩⟩⟩⟩
      · exact List.forall_mem_cons.2 ⟨(map_Sgate_Key_Sapi_Dec_t_fit eq0 rfl).2, List.forall_mem_cons.2 ⟨(FO.same (show lk (St.o _) 27 = some _ from by assumption) rfl), List.forall_mem_cons.2 ⟨(FO.same (show lk (St.o _) 28 = some _ from by assumption) rfl), List.forall_mem_cons.2 ⟨(FO.same (Cd.ofLit_ok eq3) rfl), fun _ hp => (List.not_mem_nil hp).elim⟩⟩⟩⟩
    · cases h4
  · split at h
    · cases h
      refine fitsO_ret (fits_ren [] ?_ ?_ ren_nil rfl)
      · exact List.forall_mem_cons.2 ⟨FV.one (FV.same (by assumption) rfl), fun _ hp => (List.not_mem_nil hp).elim⟩
      · exact fun _ hp => (List.not_mem_nil hp).elim
    · cases h
  · cases h
noncomputable def pyxlaw25_GateOnce.j39000.fin (y : (List Sgate_Out × Int × List Sgate_Out × Int × Int × Bool × List (Sgate_Key × Sapi_Dec) × Int × Int × Int × Int)) : Out U := match y with | (x151, x152, x153, x154, x155, x156, x146, x147, x148, x149, x150) => .norm ⟨[(27, .ptr 27 0), (28, .ptr 28 0), (12, .mp 1040000012), (29, .row C.Sgate_Out x151), (31, .flat (.int .i64 x152)), (155, .row C.Sgate_Out x153), (156, .flat (.int .i64 x154)), (157, .flat (.int .i64 x155)), (192, .flat (.bool x156))], [(1040000012, .map true true true C.Sgate_Key C.Sapi_Dec x146), (27, .lit [.flat (.int .u64 x147), .flat (.int .i64 x148)]), (28, .lit [.flat (.int .u64 x149), .flat (.int .i64 x150)])]⟩
noncomputable def pyxlaw25_GateOnce.j39000.finK {ρ : Type} (y : (List Sgate_Out × Int × List Sgate_Out × Int × Int × Bool × List (Sgate_Key × Sapi_Dec) × Int × Int × Int × Int)) (K : Out U → Option ρ) : Option ρ := match y with | (x151, x152, x153, x154, x155, x156, x146, x147, x148, x149, x150) => K (.norm ⟨[(27, .ptr 27 0), (28, .ptr 28 0), (12, .mp 1040000012), (29, .row C.Sgate_Out x151), (31, .flat (.int .i64 x152)), (155, .row C.Sgate_Out x153), (156, .flat (.int .i64 x154)), (157, .flat (.int .i64 x155)), (192, .flat (.bool x156))], [(1040000012, .map true true true C.Sgate_Key C.Sapi_Dec x146), (27, .lit [.flat (.int .u64 x147), .flat (.int .i64 x148)]), (28, .lit [.flat (.int .u64 x149), .flat (.int .i64 x150)])]⟩)
theorem pyxlaw25_GateOnce.j39000.finK_eq {ρ : Type} (y : (List Sgate_Out × Int × List Sgate_Out × Int × Int × Bool × List (Sgate_Key × Sapi_Dec) × Int × Int × Int × Int)) (K : Out U → Option ρ) : pyxlaw25_GateOnce.j39000.finK y K = K (pyxlaw25_GateOnce.j39000.fin y) := by
  unfold pyxlaw25_GateOnce.j39000.finK pyxlaw25_GateOnce.j39000.fin
  first | rfl | (split <;> rfl)
noncomputable def pyxlaw25_GateOnce.j39000.re : Out U → Option ((List Sgate_Out × Int × List Sgate_Out × Int × Int × Bool × List (Sgate_Key × Sapi_Dec) × Int × Int × Int × Int)) | .norm s => ((map_Sgate_Key_Sapi_Dec_t s.o (s.get 12)).bind fun q0 => ((row_Sgate_Out (s.get 29)).bind fun q1 => ((row_Sgate_Out (s.get 155)).bind fun q2 => (match s.get 27, s.get 28, s.get 31, s.get 156, s.get 157, s.get 192, lk s.o 27, lk s.o 28 with | .ptr 27 0, .ptr 28 0, .flat (.int .i64 x152), .flat (.int .i64 x154), .flat (.int .i64 x155), .flat (.bool x156), some (.lit [.flat (.int .u64 x147), .flat (.int .i64 x148)]), some (.lit [.flat (.int .u64 x149), .flat (.int .i64 x150)]) => some (q1, x152, q2, x154, x155, x156, q0.2, x147, x148, x149, x150) | _, _, _, _, _, _, _, _ => none)))) | _ => none
noncomputable def pyxlaw25_GateOnce.j39000.J : JDen U := { Y := (List Sgate_Out × Int × List Sgate_Out × Int × Int × Bool × List (Sgate_Key × Sapi_Dec) × Int × Int × Int × Int), re := pyxlaw25_GateOnce.j39000.re, fin := pyxlaw25_GateOnce.j39000.fin, finK := pyxlaw25_GateOnce.j39000.finK, finK_eq := pyxlaw25_GateOnce.j39000.finK_eq }
theorem pyxlaw25_GateOnce.j39000.fit (o : Out U) (y : (List Sgate_Out × Int × List Sgate_Out × Int × Int × Bool × List (Sgate_Key × Sapi_Dec) × Int × Int × Int × Int)) (h : pyxlaw25_GateOnce.j39000.re o = some y) : FitsO o (pyxlaw25_GateOnce.j39000.fin y) := by
  unfold pyxlaw25_GateOnce.j39000.re at h
  split at h
  · obtain ⟨q0, eq0, h1⟩ := Option.bind_eq_some_iff.1 h
    obtain ⟨q1, eq1, h2⟩ := Option.bind_eq_some_iff.1 h1
    obtain ⟨q2, eq2, h3⟩ := Option.bind_eq_some_iff.1 h2
    split at h3
    · cases h3
      refine fitsO_norm (fits_ren [(1040000012, q0.1)] ?_ ?_ ren_one rfl)
      · exact List.forall_mem_cons.2 ⟨FV.one (FV.ptr (by assumption)), List.forall_mem_cons.2 ⟨FV.one (FV.ptr (by assumption)), List.forall_mem_cons.2 ⟨FV.one (map_Sgate_Key_Sapi_Dec_t_fit eq0 rfl).1, List.forall_mem_cons.2 ⟨FV.one (row_Sgate_Out_fit eq1), List.forall_mem_cons.2 ⟨FV.one (FV.same (by assumption) rfl), List.forall_mem_cons.2 ⟨FV.one (row_Sgate_Out_fit eq2), List.forall_mem_cons.2 ⟨FV.one (FV.same (by assumption) rfl), List.forall_mem_cons.2 ⟨FV.one (FV.same (by assumption) rfl), List.forall_mem_cons.2 ⟨FV.one (FV.same (by assumption) rfl), fun _ hp => (List.not_mem_nil hp).elim⟩⟩⟩⟩⟩⟩⟩⟩⟩
      · exact List.forall_mem_cons.2 ⟨(map_Sgate_Key_Sapi_Dec_t_fit eq0 rfl).2, List.forall_mem_cons.2 ⟨(FO.same (show lk (St.o _) 27 = some _ from by assumption) rfl), List.forall_mem_cons.2 ⟨(FO.same (show lk (St.o _) 28 = some _ from by assumption) rfl), fun _ hp => (List.not_mem_nil hp).elim⟩⟩⟩
    · cases h3
  · cases h
noncomputable def pyxlaw25_GateOnce.jl : List (Nat × JDen U) := [(2000, pyxlaw25_GateOnce.j2000.J), (13000, pyxlaw25_GateOnce.j13000.J), (19001, pyxlaw25_GateOnce.j19001.J), (21000, pyxlaw25_GateOnce.j21000.J), (35000, pyxlaw25_GateOnce.j35000.J), (36001, pyxlaw25_GateOnce.j36001.J), (39000, pyxlaw25_GateOnce.j39000.J)]
noncomputable def pyxlaw25_GateOnce.fl (k : Nat) : List (Nat × FDen U) := [(15, gate_New.D k), (16, pyxlaw25_known.D k), (22, pyxlaw25_rule.D k), (25, pyxhand_Pick.D k), (17, pyxref1_Of.D k), (23, pyxlaw25_key.D k), (18, gate_Gate_Release.D k), (46, dec_Sub.D k), (37, dec_Sign.D k), (47, dec_Neg.D k), (36, dec_Add.D k), (48, dec_Cmp.D k), (19, gate_Gate_Log.D k), (49, label_Join.D k), (20, gate_Gate_Seen.D k), (50, label_Below.D k)]
noncomputable def pyxlaw25_GateOnce.ll (k : Nat) : List (Nat × LDen U) := [(6, pyxlaw25_GateOnce.l6.L k), (33, pyxlaw25_GateOnce.l33.L k)]
noncomputable def pyxlaw25_GateOnce.E (k : Nat) : Env U := { P := Try.prog, D := DD, fd := lk (pyxlaw25_GateOnce.fl k), ld := lk (pyxlaw25_GateOnce.ll k), jd := lk pyxlaw25_GateOnce.jl, mode := lk [], elc := lk ec, mpc := lk mc, rts := Try.f9.resultTypes.toList, dyn := fun t => false, vecs := fun d => false, results := Try.f9.results.toList, gh := [], own := false, io := fun g i => false }
theorem pyxlaw25_GateOnce.ok (k : Nat) : EnvOk (pyxlaw25_GateOnce.E k) := envOk lawful (pyxlaw25_GateOnce.fl k) (pyxlaw25_GateOnce.ll k) pyxlaw25_GateOnce.jl _ _ _ _ _ _ _ _ _ _ (by
  intro p hp
  simp only [pyxlaw25_GateOnce.fl, List.mem_cons, List.not_mem_nil, or_false] at hp
  rcases hp with rfl | rfl | rfl | rfl | rfl | rfl | rfl | rfl | rfl | rfl | rfl | rfl | rfl | rfl | rfl | rfl
  · exact ⟨gate_New.sound k, enter_of Try.func15 (by kernel_rfl) (by kernel_rfl)⟩
  · exact ⟨pyxlaw25_known.sound k, enter_of Try.func16 (by kernel_rfl) (by kernel_rfl)⟩
  · exact ⟨pyxlaw25_rule.sound k, enter_of Try.func22 (by kernel_rfl) (by kernel_rfl)⟩
  · exact ⟨pyxhand_Pick.sound k, enter_of Try.func25 (by kernel_rfl) (by kernel_rfl)⟩
  · exact ⟨pyxref1_Of.sound k, enter_of Try.func17 (by kernel_rfl) (by kernel_rfl)⟩
  · exact ⟨pyxlaw25_key.sound k, enter_of Try.func23 (by kernel_rfl) (by kernel_rfl)⟩
  · exact ⟨gate_Gate_Release.sound k, enter_of Try.func18 (by kernel_rfl) (by kernel_rfl)⟩
  · exact ⟨dec_Sub.sound k, enter_of Try.func46 (by kernel_rfl) (by kernel_rfl)⟩
  · exact ⟨dec_Sign.sound k, enter_of Try.func37 (by kernel_rfl) (by kernel_rfl)⟩
  · exact ⟨dec_Neg.sound k, enter_of Try.func47 (by kernel_rfl) (by kernel_rfl)⟩
  · exact ⟨dec_Add.sound k, enter_of Try.func36 (by kernel_rfl) (by kernel_rfl)⟩
  · exact ⟨dec_Cmp.sound k, enter_of Try.func48 (by kernel_rfl) (by kernel_rfl)⟩
  · exact ⟨gate_Gate_Log.sound k, enter_of Try.func19 (by kernel_rfl) (by kernel_rfl)⟩
  · exact ⟨label_Join.sound k, enter_of Try.func49 (by kernel_rfl) (by kernel_rfl)⟩
  · exact ⟨gate_Gate_Seen.sound k, enter_of Try.func20 (by kernel_rfl) (by kernel_rfl)⟩
  · exact ⟨label_Below.sound k, enter_of Try.func50 (by kernel_rfl) (by kernel_rfl)⟩) (by
  intro p hp
  simp only [pyxlaw25_GateOnce.jl, List.mem_cons, List.not_mem_nil, or_false] at hp
  rcases hp with rfl | rfl | rfl | rfl | rfl | rfl | rfl
  · exact pyxlaw25_GateOnce.j2000.fit
  · exact pyxlaw25_GateOnce.j13000.fit
  · exact pyxlaw25_GateOnce.j19001.fit
  · exact pyxlaw25_GateOnce.j21000.fit
  · exact pyxlaw25_GateOnce.j35000.fit
  · exact pyxlaw25_GateOnce.j36001.fit
  · exact pyxlaw25_GateOnce.j39000.fit)
theorem pyxlaw25_GateOnce.l6.eq (k : Nat) (x : (Int × Int × Int × Int × List Spyxlaw25_Raw × Int × Int × List Sgate_Out × List (Sgate_Key × Int) × List (Sgate_Key × Sapi_Dec))) : evC (pyxlaw25_GateOnce.E k) (loopAt Try.f9 6) (pyxlaw25_GateOnce.l6.mk x) (headK pyxlaw25_GateOnce.l6.un pyxlaw25_GateOnce.l6.re) = pyxlaw25_GateOnce.l6.once k x := by kernel_rfl
theorem pyxlaw25_GateOnce.l6.fit (s : St U) (x : (Int × Int × Int × Int × List Spyxlaw25_Raw × Int × Int × List Sgate_Out × List (Sgate_Key × Int) × List (Sgate_Key × Sapi_Dec))) (h : pyxlaw25_GateOnce.l6.un s = some x) : Fits s (pyxlaw25_GateOnce.l6.mk x) := by
  unfold pyxlaw25_GateOnce.l6.un at h
  obtain ⟨q0, eq0, h1⟩ := Option.bind_eq_some_iff.1 h
  obtain ⟨q1, eq1, h2⟩ := Option.bind_eq_some_iff.1 h1
  split at h2
  · obtain ⟨w350000000000003_0, ew350000000000003_0, h3⟩ := Option.bind_eq_some_iff.1 h2
    obtain ⟨w350000000000003_1, ew350000000000003_1, h4⟩ := Option.bind_eq_some_iff.1 h3
    obtain ⟨hap, h5⟩ := cond_none h4
    cases h5
    refine fits_ren [(1006012, q0.1), (35000002000600300, w350000000000003_0.1), (35000002000600301, w350000000000003_1.1)] ?_ ?_ (ren_apart hap) rfl
    · exact List.forall_mem_cons.2 ⟨FV.one (FV.ptr (by assumption)), List.forall_mem_cons.2 ⟨FV.one (FV.same (by assumption) rfl), List.forall_mem_cons.2 ⟨FV.one (FV.same (by assumption) rfl), List.forall_mem_cons.2 ⟨FV.one (FV.same (by assumption) rfl), List.forall_mem_cons.2 ⟨FV.one (FV.same (by assumption) rfl), List.forall_mem_cons.2 ⟨FV.one (map_Sgate_Key_Sapi_Dec_t_fit eq0 rfl).1, List.forall_mem_cons.2 ⟨FV.one (row_Spyxlaw25_Raw_fit eq1), List.forall_mem_cons.2 ⟨FV.one (FV.same (by assumption) rfl), List.forall_mem_cons.2 ⟨FV.one (FV.same (by assumption) rfl), fun _ hp => (List.not_mem_nil hp).elim⟩⟩⟩⟩⟩⟩⟩⟩⟩
    · exact List.forall_mem_cons.2 ⟨(FO.cells (show lk (St.o _) 350000000000003 = some _ from by assumption) (FCs.cons ((tip_Sgate_Out_fit ew350000000000003_0 rfl).1) (FCs.cons ((map_Sgate_Key_i64_t_fit ew350000000000003_1 rfl).1) (FCs.nil)))), List.forall_mem_cons.2 ⟨(tip_Sgate_Out_fit ew350000000000003_0 rfl).2, List.forall_mem_cons.2 ⟨(map_Sgate_Key_i64_t_fit ew350000000000003_1 rfl).2, List.forall_mem_cons.2 ⟨(map_Sgate_Key_Sapi_Dec_t_fit eq0 rfl).2, fun _ hp => (List.not_mem_nil hp).elim⟩⟩⟩⟩
  · cases h2
theorem pyxlaw25_GateOnce.l6.fitO (o : Out U) (y : (Int × Int × Int × Int × List Sgate_Out × List (Sgate_Key × Int) × List (Sgate_Key × Sapi_Dec)) ⊕ Bool) (h : pyxlaw25_GateOnce.l6.re o = some y) : FitsO o (pyxlaw25_GateOnce.l6.fin y) := by
  unfold pyxlaw25_GateOnce.l6.re at h
  split at h
  · obtain ⟨q0, eq0, h1⟩ := Option.bind_eq_some_iff.1 h
    split at h1
    · obtain ⟨w350000000000003_0, ew350000000000003_0, h2⟩ := Option.bind_eq_some_iff.1 h1
      obtain ⟨w350000000000003_1, ew350000000000003_1, h3⟩ := Option.bind_eq_some_iff.1 h2
      obtain ⟨hap, h4⟩ := cond_none h3
      cases h4
      refine fitsO_exit (fits_ren [(1006012, q0.1), (35000002000600300, w350000000000003_0.1), (35000002000600301, w350000000000003_1.1)] ?_ ?_ (ren_apart hap) rfl)
      · exact List.forall_mem_cons.2 ⟨FV.one (FV.ptr (by assumption)), List.forall_mem_cons.2 ⟨FV.one (FV.same (by assumption) rfl), List.forall_mem_cons.2 ⟨FV.one (FV.same (by assumption) rfl), List.forall_mem_cons.2 ⟨FV.one (FV.same (by assumption) rfl), List.forall_mem_cons.2 ⟨FV.one (FV.same (by assumption) rfl), List.forall_mem_cons.2 ⟨FV.one (map_Sgate_Key_Sapi_Dec_t_fit eq0 rfl).1, fun _ hp => (List.not_mem_nil hp).elim⟩⟩⟩⟩⟩⟩
      · exact List.forall_mem_cons.2 ⟨(FO.cells (show lk (St.o _) 350000000000003 = some _ from by assumption) (FCs.cons ((tip_Sgate_Out_fit ew350000000000003_0 rfl).1) (FCs.cons ((map_Sgate_Key_i64_t_fit ew350000000000003_1 rfl).1) (FCs.nil)))), List.forall_mem_cons.2 ⟨(tip_Sgate_Out_fit ew350000000000003_0 rfl).2, List.forall_mem_cons.2 ⟨(map_Sgate_Key_i64_t_fit ew350000000000003_1 rfl).2, List.forall_mem_cons.2 ⟨(map_Sgate_Key_Sapi_Dec_t_fit eq0 rfl).2, fun _ hp => (List.not_mem_nil hp).elim⟩⟩⟩⟩
    · cases h1
  · split at h
    · cases h
      refine fitsO_ret (fits_ren [] ?_ ?_ ren_nil rfl)
      · exact List.forall_mem_cons.2 ⟨FV.one (FV.same (by assumption) rfl), fun _ hp => (List.not_mem_nil hp).elim⟩
      · exact fun _ hp => (List.not_mem_nil hp).elim
    · cases h
  · cases h
theorem pyxlaw25_GateOnce.l6.sound (k : Nat) : LSound (pyxlaw25_GateOnce.E k) Try.f9.ntmps Try.f9 (loopAt Try.f9 6) (pyxlaw25_GateOnce.l6.L k) :=
  loop_sound (pyxlaw25_GateOnce.ok k) mixed rfl (by kernel_rfl) (allL_of (l := []) (by kernel_rfl) allL_nil) pyxlaw25_GateOnce.l6.un pyxlaw25_GateOnce.l6.mk pyxlaw25_GateOnce.l6.fin pyxlaw25_GateOnce.l6.re (pyxlaw25_GateOnce.l6.once k) k pyxlaw25_GateOnce.l6.fit pyxlaw25_GateOnce.l6.fitO (pyxlaw25_GateOnce.l6.eq k) pyxlaw25_GateOnce.l6.finK pyxlaw25_GateOnce.l6.finK_eq
theorem pyxlaw25_GateOnce.l33.eq (k : Nat) (x : (List Sgate_Out × Int × List Sgate_Out × Int × Int × List (Sgate_Key × Sapi_Dec) × Int × Int × Int × Int)) : evC (pyxlaw25_GateOnce.E k) (loopAt Try.f9 33) (pyxlaw25_GateOnce.l33.mk x) (headK pyxlaw25_GateOnce.l33.un pyxlaw25_GateOnce.l33.re) = pyxlaw25_GateOnce.l33.once k x := by kernel_rfl
theorem pyxlaw25_GateOnce.l33.fit (s : St U) (x : (List Sgate_Out × Int × List Sgate_Out × Int × Int × List (Sgate_Key × Sapi_Dec) × Int × Int × Int × Int)) (h : pyxlaw25_GateOnce.l33.un s = some x) : Fits s (pyxlaw25_GateOnce.l33.mk x) := by
  unfold pyxlaw25_GateOnce.l33.un at h
  obtain ⟨q0, eq0, h1⟩ := Option.bind_eq_some_iff.1 h
  obtain ⟨q1, eq1, h2⟩ := Option.bind_eq_some_iff.1 h1
  obtain ⟨q2, eq2, h3⟩ := Option.bind_eq_some_iff.1 h2
  split at h3
  · cases h3
    refine fits_ren [(1033012, q0.1)] ?_ ?_ ren_one rfl
    · exact List.forall_mem_cons.2 ⟨FV.one (FV.ptr (by assumption)), List.forall_mem_cons.2 ⟨FV.one (FV.ptr (by assumption)), List.forall_mem_cons.2 ⟨FV.one (map_Sgate_Key_Sapi_Dec_t_fit eq0 rfl).1, List.forall_mem_cons.2 ⟨FV.one (row_Sgate_Out_fit eq1), List.forall_mem_cons.2 ⟨FV.one (FV.same (by assumption) rfl), List.forall_mem_cons.2 ⟨FV.one (row_Sgate_Out_fit eq2), List.forall_mem_cons.2 ⟨FV.one (FV.same (by assumption) rfl), List.forall_mem_cons.2 ⟨FV.one (FV.same (by assumption) rfl), fun _ hp => (List.not_mem_nil hp).elim⟩⟩⟩⟩⟩⟩⟩⟩
    · exact List.forall_mem_cons.2 ⟨(map_Sgate_Key_Sapi_Dec_t_fit eq0 rfl).2, List.forall_mem_cons.2 ⟨(FO.same (show lk (St.o _) 27 = some _ from by assumption) rfl), List.forall_mem_cons.2 ⟨(FO.same (show lk (St.o _) 28 = some _ from by assumption) rfl), fun _ hp => (List.not_mem_nil hp).elim⟩⟩⟩
  · cases h3
theorem pyxlaw25_GateOnce.l33.fitO (o : Out U) (y : (List Sgate_Out × Int) ⊕ Bool) (h : pyxlaw25_GateOnce.l33.re o = some y) : FitsO o (pyxlaw25_GateOnce.l33.fin y) := by
  unfold pyxlaw25_GateOnce.l33.re at h
  split at h
  · obtain ⟨q0, eq0, h1⟩ := Option.bind_eq_some_iff.1 h
    split at h1
    · cases h1
      refine fitsO_exit (fits_ren [] ?_ ?_ ren_nil rfl)
      · exact List.forall_mem_cons.2 ⟨FV.one (row_Sgate_Out_fit eq0), List.forall_mem_cons.2 ⟨FV.one (FV.same (by assumption) rfl), fun _ hp => (List.not_mem_nil hp).elim⟩⟩
      · exact fun _ hp => (List.not_mem_nil hp).elim
    · cases h1
  · split at h
    · cases h
      refine fitsO_ret (fits_ren [] ?_ ?_ ren_nil rfl)
      · exact List.forall_mem_cons.2 ⟨FV.one (FV.same (by assumption) rfl), fun _ hp => (List.not_mem_nil hp).elim⟩
      · exact fun _ hp => (List.not_mem_nil hp).elim
    · cases h
  · cases h
theorem pyxlaw25_GateOnce.l33.sound (k : Nat) : LSound (pyxlaw25_GateOnce.E k) Try.f9.ntmps Try.f9 (loopAt Try.f9 33) (pyxlaw25_GateOnce.l33.L k) :=
  loop_sound (pyxlaw25_GateOnce.ok k) mixed rfl (by kernel_rfl) (allL_of (l := []) (by kernel_rfl) allL_nil) pyxlaw25_GateOnce.l33.un pyxlaw25_GateOnce.l33.mk pyxlaw25_GateOnce.l33.fin pyxlaw25_GateOnce.l33.re (pyxlaw25_GateOnce.l33.once k) k pyxlaw25_GateOnce.l33.fit pyxlaw25_GateOnce.l33.fitO (pyxlaw25_GateOnce.l33.eq k) pyxlaw25_GateOnce.l33.finK pyxlaw25_GateOnce.l33.finK_eq
theorem pyxlaw25_GateOnce.eq (k : Nat) (x : (List Spyxlaw25_Raw × Int × Int × Int × Int)) : runF (pyxlaw25_GateOnce.E k) (codeOf Try.f9) (pyxlaw25_GateOnce.mk x) pyxlaw25_GateOnce.re = (pyxlaw25_GateOnce.D k).f x := by kernel_rfl
theorem pyxlaw25_GateOnce.fit (s : St U) (x : (List Spyxlaw25_Raw × Int × Int × Int × Int)) (h : pyxlaw25_GateOnce.un s = some x) : Fits s (pyxlaw25_GateOnce.mk x) := by
  unfold pyxlaw25_GateOnce.un at h
  split at h
  · cases h
    refine fits_ren [] ?_ ?_ ren_nil rfl
    · exact List.forall_mem_cons.2 ⟨FV.one (FV.same (by assumption) rfl), List.forall_mem_cons.2 ⟨FV.one (FV.same (by assumption) rfl), List.forall_mem_cons.2 ⟨FV.one (FV.same (by assumption) rfl), List.forall_mem_cons.2 ⟨FV.one (FV.same (by assumption) rfl), List.forall_mem_cons.2 ⟨FV.one (FV.same (by assumption) rfl), fun _ hp => (List.not_mem_nil hp).elim⟩⟩⟩⟩⟩
    · exact fun _ hp => (List.not_mem_nil hp).elim
  · cases h
theorem pyxlaw25_GateOnce.fitR (s : St U) (y : Bool) (h : pyxlaw25_GateOnce.re s = some y) : Fits s (pyxlaw25_GateOnce.fin y) := by
  unfold pyxlaw25_GateOnce.re at h
  split at h
  · cases h
    refine fits_ren [] ?_ ?_ ren_nil rfl
    · exact List.forall_mem_cons.2 ⟨FV.one (FV.same (by assumption) rfl), fun _ hp => (List.not_mem_nil hp).elim⟩
    · exact fun _ hp => (List.not_mem_nil hp).elim
  · cases h
theorem pyxlaw25_GateOnce.sound (k : Nat) : Sound Try.prog DD 9 (pyxlaw25_GateOnce.D k) :=
  fun_sound (E := pyxlaw25_GateOnce.E k) (fn := Try.f9) (c := codeOf Try.f9) (pyxlaw25_GateOnce.ok k) mixed rfl Try.func9 (by kernel_rfl) (by kernel_rfl) (allL_of (l := [loopAt Try.f9 6, loopAt Try.f9 33]) (by kernel_rfl) (allL_cons (key := 6) (by kernel_rfl) rfl (pyxlaw25_GateOnce.l6.sound k) (allL_cons (key := 33) (by kernel_rfl) rfl (pyxlaw25_GateOnce.l33.sound k) allL_nil))) (pyxlaw25_GateOnce.D k) pyxlaw25_GateOnce.mk pyxlaw25_GateOnce.re (by kernel_rfl) (by kernel_rfl) pyxlaw25_GateOnce.fit pyxlaw25_GateOnce.fitR (pyxlaw25_GateOnce.eq k)
end
end Go.Proofs.Ytlaogfkgkpgofaa
