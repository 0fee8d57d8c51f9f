import Derived.Test.YtlaogfkgkpgofaaF2
/-! Functions, told; their equations with the evaluator; that they are sound. Written by gen.py. -/
namespace Go.Proofs.Ytlaogfkgkpgofaa
open Go Go.Ev
noncomputable section
set_option linter.unusedVariables false
set_option linter.unusedSimpArgs false
set_option maxRecDepth 100000
/-! ### (*pyx/gate.Gate).Log: function 19 -/
noncomputable def gate_Gate_Log.f (k : Nat) (a0 : Sgate_Gate) : Option (List Sgate_Out × Sgate_Gate) := (slices_Clone_gate_Out.f k a0.f_l).bind fun t1 => ((slices_Clip_gate_Out.f k t1).bind fun t2 => (some (t2, (⟨a0.f_l, a0.f_at⟩ : Sgate_Gate))))
noncomputable def gate_Gate_Log.un (s : St U) : Option Sgate_Gate := match s.get 0, lk s.o 7000000000000, s.get 1000000000000000 with | .ptr 7000000000000 0, some (.lit [x3, x4]), .ptr 7000000000000 0 => (tip_Sgate_Out s.o 11 x3).bind fun ex1 => ((map_Sgate_Key_i64_t s.o x4).bind fun ex2 => (cond (apart [ex1.1, ex2.1]) (some (⟨ex1.2, ex2.2⟩ : Sgate_Gate)) none)) | _, _, _ => none
noncomputable def gate_Gate_Log.mk (x : Sgate_Gate) : St U := ⟨[(0, .ptr 7000000000000 0), (1000000000000000, .ptr 7000000000000 0)], [(7000000000000, .lit [.tip 7000000000001 C.Sgate_Out x.f_l, .mp 7000000000002]), (7000000000001, .tip 11), (7000000000002, .map true true false C.Sgate_Key C.i64 x.f_at)]⟩
noncomputable def gate_Gate_Log.fin (y : (List Sgate_Out × Sgate_Gate)) : St U := ⟨[(0, .row C.Sgate_Out y.1), (1000000000000000, .ptr 7000000000000 0)], [(7000000000000, .lit [.tip 7000000000001 C.Sgate_Out y.2.f_l, .mp 7000000000002]), (7000000000001, .tip 11), (7000000000002, .map true true false C.Sgate_Key C.i64 y.2.f_at)]⟩
noncomputable def gate_Gate_Log.D (k : Nat) : FDen U := { X := Sgate_Gate, Y := (List Sgate_Out × Sgate_Gate), nt := 11, gh := [0], un := gate_Gate_Log.un, f := fun x => gate_Gate_Log.f k (x), fin := gate_Gate_Log.fin, cl := false, clo := fun h => by cases h }
noncomputable def gate_Gate_Log.re (s : St U) : Option (List Sgate_Out × Sgate_Gate) := match s.get 0, s.get 1000000000000000, lk s.o 7000000000000 with | .row C.Sgate_Out x1, .ptr 7000000000000 0, some (.lit [x4, x5]) => (tip_Sgate_Out s.o 11 x4).bind fun ex2 => ((map_Sgate_Key_i64_t s.o x5).bind fun ex3 => (cond (apart [ex2.1, ex3.1]) (some (x1, (⟨ex2.2, ex3.2⟩ : Sgate_Gate))) none)) | _, _, _ => none
noncomputable def gate_Gate_Log.jl : List (Nat × JDen U) := []
noncomputable def gate_Gate_Log.fl (k : Nat) : List (Nat × FDen U) := [(63, slices_Clone_gate_Out.D k), (62, slices_Clip_gate_Out.D k)]
noncomputable def gate_Gate_Log.ll (k : Nat) : List (Nat × LDen U) := []
noncomputable def gate_Gate_Log.E (k : Nat) : Env U := { P := Try.prog, D := DD, fd := lk (gate_Gate_Log.fl k), ld := lk (gate_Gate_Log.ll k), jd := lk gate_Gate_Log.jl, mode := lk [], elc := lk ec, mpc := lk mc, rts := Try.f19.resultTypes.toList, dyn := fun t => false, vecs := fun d => false, results := Try.f19.results.toList, gh := [0], own := false, io := fun g i => false }
theorem gate_Gate_Log.ok (k : Nat) : EnvOk (gate_Gate_Log.E k) := envOk lawful (gate_Gate_Log.fl k) (gate_Gate_Log.ll k) gate_Gate_Log.jl _ _ _ _ _ _ _ _ _ _ (by
  intro p hp
  simp only [gate_Gate_Log.fl, List.mem_cons, List.not_mem_nil, or_false] at hp
  rcases hp with rfl | rfl
  · exact ⟨slices_Clone_gate_Out.sound k, enter_of Try.func63 (by kernel_rfl) (by kernel_rfl)⟩
  · exact ⟨slices_Clip_gate_Out.sound k, enter_of Try.func62 (by kernel_rfl) (by kernel_rfl)⟩) (by
  intro p hp
  simp [gate_Gate_Log.jl] at hp)
theorem gate_Gate_Log.eq (k : Nat) (x : Sgate_Gate) : runF (gate_Gate_Log.E k) (codeOf Try.f19) (gate_Gate_Log.mk x) gate_Gate_Log.re = (gate_Gate_Log.D k).f x := by kernel_rfl
theorem gate_Gate_Log.fit (s : St U) (x : Sgate_Gate) (h : gate_Gate_Log.un s = some x) : Fits s (gate_Gate_Log.mk x) := by
  unfold gate_Gate_Log.un at h
  split at h
  · obtain ⟨ex1, hex1, hh1⟩ := Option.bind_eq_some_iff.1 h
    obtain ⟨ex2, hex2, hh2⟩ := Option.bind_eq_some_iff.1 hh1
    obtain ⟨hap, hh0⟩ := cond_none hh2
    cases hh0
    refine fits_ren [(7000000000001, ex1.1), (7000000000002, ex2.1)] ?_ ?_ (ren_apart hap) rfl
    · exact List.forall_mem_cons.2 ⟨FV.one (FV.ptr (by assumption)), List.forall_mem_cons.2 ⟨FV.one (FV.ptr (by assumption)), fun _ hp => (List.not_mem_nil hp).elim⟩⟩
    · exact List.forall_mem_cons.2 ⟨FO.cells (show lk (St.o _) 7000000000000 = some _ from by assumption) (FCs.cons ((tip_Sgate_Out_fit hex1 rfl).1) (FCs.cons ((map_Sgate_Key_i64_t_fit hex2 rfl).1) (FCs.nil))), List.forall_mem_cons.2 ⟨(tip_Sgate_Out_fit hex1 rfl).2, List.forall_mem_cons.2 ⟨(map_Sgate_Key_i64_t_fit hex2 rfl).2, fun _ hp => (List.not_mem_nil hp).elim⟩⟩⟩
  · cases h
theorem gate_Gate_Log.fitR (s : St U) (y : (List Sgate_Out × Sgate_Gate)) (h : gate_Gate_Log.re s = some y) : Fits s (gate_Gate_Log.fin y) := by
  unfold gate_Gate_Log.re at h
  split at h
  · obtain ⟨ex2, hex2, hh1⟩ := Option.bind_eq_some_iff.1 h
    obtain ⟨ex3, hex3, hh2⟩ := Option.bind_eq_some_iff.1 hh1
    obtain ⟨hap, hh0⟩ := cond_none hh2
    cases hh0
    refine fits_ren [(7000000000001, ex2.1), (7000000000002, ex3.1)] ?_ ?_ (ren_apart hap) rfl
    · exact List.forall_mem_cons.2 ⟨FV.one (FV.same (by assumption) rfl), List.forall_mem_cons.2 ⟨FV.one (FV.ptr (by assumption)), fun _ hp => (List.not_mem_nil hp).elim⟩⟩
    · exact List.forall_mem_cons.2 ⟨FO.cells (show lk (St.o _) 7000000000000 = some _ from by assumption) (FCs.cons ((tip_Sgate_Out_fit hex2 rfl).1) (FCs.cons ((map_Sgate_Key_i64_t_fit hex3 rfl).1) (FCs.nil))), List.forall_mem_cons.2 ⟨(tip_Sgate_Out_fit hex2 rfl).2, List.forall_mem_cons.2 ⟨(map_Sgate_Key_i64_t_fit hex3 rfl).2, fun _ hp => (List.not_mem_nil hp).elim⟩⟩⟩
  · cases h
theorem gate_Gate_Log.sound (k : Nat) : Sound Try.prog DD 19 (gate_Gate_Log.D k) :=
  fun_sound (E := gate_Gate_Log.E k) (fn := Try.f19) (c := codeOf Try.f19) (gate_Gate_Log.ok k) mixed rfl Try.func19 (by kernel_rfl) (by kernel_rfl) (allL_of (l := []) (by kernel_rfl) allL_nil) (gate_Gate_Log.D k) gate_Gate_Log.mk gate_Gate_Log.re (by kernel_rfl) (by kernel_rfl) gate_Gate_Log.fit gate_Gate_Log.fitR (gate_Gate_Log.eq k)
/-! ### pyx/pyxlaw25.known: function 16 -/
noncomputable def pyxlaw25_known.f (k : Nat)  : Option Bool := (gate_New.f k).bind fun t1 => ((pyxref1_Of.f k 100 0).bind fun t2 => ((pyxref1_Of.f k 250 0).bind fun t3 => ((gate_Gate_Release.f k (⟨t1.f_l, t1.f_at⟩ : Sgate_Gate) (⟨3, 0, 0, 0, 0, 0, (⟨t2.f_Neg, (t2.f_C.1, t2.f_C.2), t2.f_Scale⟩ : Sapi_Dec), (⟨0, 0⟩ : Sapi_Label)⟩ : Sapi_Rule) 4 (⟨0, 0, 0, 0⟩ : Sgate_Key) (⟨t3.f_Neg, (t3.f_C.1, t3.f_C.2), t3.f_Scale⟩ : Sapi_Dec)).bind fun t4 => ((pyxref1_Of.f k 900 0).bind fun t5 => ((gate_Gate_Release.f k (⟨t4.2.2.2.f_l, t4.2.2.2.f_at⟩ : Sgate_Gate) (⟨3, 0, 0, 0, 0, 0, (⟨t2.f_Neg, (t2.f_C.1, t2.f_C.2), t2.f_Scale⟩ : Sapi_Dec), (⟨0, 0⟩ : Sapi_Label)⟩ : Sapi_Rule) 5 (⟨0, 0, 0, 0⟩ : Sgate_Key) (⟨t5.f_Neg, (t5.f_C.1, t5.f_C.2), t5.f_Scale⟩ : Sapi_Dec)).bind fun t6 => ((gate_Gate_Log.f k (⟨t6.2.2.2.f_l, t6.2.2.2.f_at⟩ : Sgate_Gate)).bind fun t7 => (cond (t4.2.2.1 == 0) (cond (t4.2.1) ((pyxref1_Of.f k 200 0).bind fun t8 => (cond ((t4.1.f_Neg == t8.f_Neg) && ((t4.1.f_C.1 == t8.f_C.1) && ((t4.1.f_C.2 == t8.f_C.2) && (t4.1.f_Scale == t8.f_Scale)))) (cond (t6.2.2.1 == 0) (cond (!t6.2.1) (cond ((t6.1.f_Neg == t4.1.f_Neg) && ((t6.1.f_C.1 == t4.1.f_C.1) && ((t6.1.f_C.2 == t4.1.f_C.2) && (t6.1.f_Scale == t4.1.f_Scale)))) (cond ((List.length t7.1 : Int) == 1) (cond (inb 0 (List.length t7.1)) (some (((((List.getD t7.1 0 Sgate_Out.zero).f_K).f_Group) == 0) && (((((List.getD t7.1 0 Sgate_Out.zero).f_K).f_Line) == 0) && (((((List.getD t7.1 0 Sgate_Out.zero).f_K).f_Period) == 0) && (((((List.getD t7.1 0 Sgate_Out.zero).f_K).f_Version) == 0) && ((((List.getD t7.1 0 Sgate_Out.zero).f_Rule) == 4) && (((((List.getD t7.1 0 Sgate_Out.zero).f_Value).f_Neg) == t4.1.f_Neg) && ((((((List.getD t7.1 0 Sgate_Out.zero).f_Value).f_C).1) == t4.1.f_C.1) && ((((((List.getD t7.1 0 Sgate_Out.zero).f_Value).f_C).2) == t4.1.f_C.2) && (((((List.getD t7.1 0 Sgate_Out.zero).f_Value).f_Scale) == t4.1.f_Scale) && (((((List.getD t7.1 0 Sgate_Out.zero).f_To).f_Set) == 0) && ((((List.getD t7.1 0 Sgate_Out.zero).f_To).f_Level) == 0)))))))))))) none) (some false)) (some false)) (some false)) (some false)) (some false))) (some false)) (some false))))))))
noncomputable def pyxlaw25_known.un (s : St U) : Option Unit := some ()
noncomputable def pyxlaw25_known.mk (x : Unit) : St U := ⟨[], []⟩
noncomputable def pyxlaw25_known.fin (y : Bool) : St U := ⟨[(0, .flat (.bool y))], []⟩
noncomputable def pyxlaw25_known.D (k : Nat) : FDen U := { X := Unit, Y := Bool, nt := 71, gh := [], un := pyxlaw25_known.un, f := fun x => pyxlaw25_known.f k , fin := pyxlaw25_known.fin, cl := true, clo := fun _ _ => rfl }
noncomputable def pyxlaw25_known.re (s : St U) : Option Bool := match s.get 0 with | .flat (.bool x1) => some x1 | _ => none
noncomputable def pyxlaw25_known.jl : List (Nat × JDen U) := []
noncomputable def pyxlaw25_known.fl (k : Nat) : List (Nat × FDen U) := [(15, gate_New.D k), (17, pyxref1_Of.D k), (18, gate_Gate_Release.D k), (19, gate_Gate_Log.D k)]
noncomputable def pyxlaw25_known.ll (k : Nat) : List (Nat × LDen U) := []
noncomputable def pyxlaw25_known.E (k : Nat) : Env U := { P := Try.prog, D := DD, fd := lk (pyxlaw25_known.fl k), ld := lk (pyxlaw25_known.ll k), jd := lk pyxlaw25_known.jl, mode := lk [], elc := lk ec, mpc := lk mc, rts := Try.f16.resultTypes.toList, dyn := fun t => false, vecs := fun d => false, results := Try.f16.results.toList, gh := [], own := false, io := fun g i => false }
theorem pyxlaw25_known.ok (k : Nat) : EnvOk (pyxlaw25_known.E k) := envOk lawful (pyxlaw25_known.fl k) (pyxlaw25_known.ll k) pyxlaw25_known.jl _ _ _ _ _ _ _ _ _ _ (by
  intro p hp
  simp only [pyxlaw25_known.fl, List.mem_cons, List.not_mem_nil, or_false] at hp
  rcases hp with rfl | rfl | rfl | rfl
  · exact ⟨gate_New.sound k, enter_of Try.func15 (by kernel_rfl) (by kernel_rfl)⟩
  · exact ⟨pyxref1_Of.sound k, enter_of Try.func17 (by kernel_rfl) (by kernel_rfl)⟩
  · exact ⟨gate_Gate_Release.sound k, enter_of Try.func18 (by kernel_rfl) (by kernel_rfl)⟩
  · exact ⟨gate_Gate_Log.sound k, enter_of Try.func19 (by kernel_rfl) (by kernel_rfl)⟩) (by
  intro p hp
  simp [pyxlaw25_known.jl] at hp)
theorem pyxlaw25_known.eq (k : Nat) (x : Unit) : runF (pyxlaw25_known.E k) (codeOf Try.f16) (pyxlaw25_known.mk x) pyxlaw25_known.re = (pyxlaw25_known.D k).f x := by kernel_rfl
theorem pyxlaw25_known.fit (s : St U) (x : Unit) (h : pyxlaw25_known.un s = some x) : Fits s (pyxlaw25_known.mk x) := by
  unfold pyxlaw25_known.un at h
  cases h
  refine fits_ren [] ?_ ?_ ren_nil rfl
  · exact fun _ hp => (List.not_mem_nil hp).elim
  · exact fun _ hp => (List.not_mem_nil hp).elim
theorem pyxlaw25_known.fitR (s : St U) (y : Bool) (h : pyxlaw25_known.re s = some y) : Fits s (pyxlaw25_known.fin y) := by
  unfold pyxlaw25_known.re at h
  split at h
  · cases h
    refine fits_ren [] ?_ ?_ ren_nil rfl
    · exact List.forall_mem_cons.2 ⟨FV.one (FV.same (by assumption) rfl), fun _ hp => (List.not_mem_nil hp).elim⟩
    · exact fun _ hp => (List.not_mem_nil hp).elim
  · cases h
theorem pyxlaw25_known.sound (k : Nat) : Sound Try.prog DD 16 (pyxlaw25_known.D k) :=
  fun_sound (E := pyxlaw25_known.E k) (fn := Try.f16) (c := codeOf Try.f16) (pyxlaw25_known.ok k) mixed rfl Try.func16 (by kernel_rfl) (by kernel_rfl) (allL_of (l := []) (by kernel_rfl) allL_nil) (pyxlaw25_known.D k) pyxlaw25_known.mk pyxlaw25_known.re (by kernel_rfl) (by kernel_rfl) pyxlaw25_known.fit pyxlaw25_known.fitR (pyxlaw25_known.eq k)
/-! ### pyx/label.Below: function 50 -/
noncomputable def label_Below.f (k : Nat) (a0 : Sapi_Label) (a1 : Sapi_Label) : Option Bool := cond ((bits .andNot .u64 a0.f_Set a1.f_Set) == 0) (some (decide (a0.f_Level ≤ a1.f_Level))) (some false)
noncomputable def label_Below.un (s : St U) : Option (Sapi_Label × Sapi_Label) := match s.get 0, s.get 1 with | .agg [.flat (.int .u64 x1), .flat (.int .i64 x2)], .agg [.flat (.int .u64 x3), .flat (.int .i64 x4)] => some ((⟨x1, x2⟩ : Sapi_Label), (⟨x3, x4⟩ : Sapi_Label)) | _, _ => none
noncomputable def label_Below.mk (x : (Sapi_Label × Sapi_Label)) : St U := ⟨[(0, .agg [.flat (.int .u64 x.1.f_Set), .flat (.int .i64 x.1.f_Level)]), (1, .agg [.flat (.int .u64 x.2.f_Set), .flat (.int .i64 x.2.f_Level)])], []⟩
noncomputable def label_Below.fin (y : Bool) : St U := ⟨[(0, .flat (.bool y))], []⟩
noncomputable def label_Below.D (k : Nat) : FDen U := { X := (Sapi_Label × Sapi_Label), Y := Bool, nt := 18, gh := [], un := label_Below.un, f := fun x => label_Below.f k (x.1) (x.2), fin := label_Below.fin, cl := true, clo := fun _ _ => rfl }
noncomputable def label_Below.re (s : St U) : Option Bool := match s.get 0 with | .flat (.bool x1) => some x1 | _ => none
noncomputable def label_Below.jl : List (Nat × JDen U) := []
noncomputable def label_Below.fl (k : Nat) : List (Nat × FDen U) := []
noncomputable def label_Below.ll (k : Nat) : List (Nat × LDen U) := []
noncomputable def label_Below.E (k : Nat) : Env U := { P := Try.prog, D := DD, fd := lk (label_Below.fl k), ld := lk (label_Below.ll k), jd := lk label_Below.jl, mode := lk [], elc := lk ec, mpc := lk mc, rts := Try.f50.resultTypes.toList, dyn := fun t => false, vecs := fun d => false, results := Try.f50.results.toList, gh := [], own := false, io := fun g i => false }
theorem label_Below.ok (k : Nat) : EnvOk (label_Below.E k) := envOk lawful (label_Below.fl k) (label_Below.ll k) label_Below.jl _ _ _ _ _ _ _ _ _ _ (by
  intro p hp
  simp [label_Below.fl] at hp) (by
  intro p hp
  simp [label_Below.jl] at hp)
theorem label_Below.eq (k : Nat) (x : (Sapi_Label × Sapi_Label)) : runF (label_Below.E k) (codeOf Try.f50) (label_Below.mk x) label_Below.re = (label_Below.D k).f x := by kernel_rfl
theorem label_Below.fit (s : St U) (x : (Sapi_Label × Sapi_Label)) (h : label_Below.un s = some x) : Fits s (label_Below.mk x) := by
  unfold label_Below.un at h
  split at h
  · cases h
    refine fits_ren [] ?_ ?_ ren_nil rfl
    · exact List.forall_mem_cons.2 ⟨FV.one (FV.same (by assumption) rfl), List.forall_mem_cons.2 ⟨FV.one (FV.same (by assumption) rfl), fun _ hp => (List.not_mem_nil hp).elim⟩⟩
    · exact fun _ hp => (List.not_mem_nil hp).elim
  · cases h
theorem label_Below.fitR (s : St U) (y : Bool) (h : label_Below.re s = some y) : Fits s (label_Below.fin y) := by
  unfold label_Below.re at h
  split at h
  · cases h
    refine fits_ren [] ?_ ?_ ren_nil rfl
    · exact List.forall_mem_cons.2 ⟨FV.one (FV.same (by assumption) rfl), fun _ hp => (List.not_mem_nil hp).elim⟩
    · exact fun _ hp => (List.not_mem_nil hp).elim
  · cases h
theorem label_Below.sound (k : Nat) : Sound Try.prog DD 50 (label_Below.D k) :=
  fun_sound (E := label_Below.E k) (fn := Try.f50) (c := codeOf Try.f50) (label_Below.ok k) mixed rfl Try.func50 (by kernel_rfl) (by kernel_rfl) (allL_of (l := []) (by kernel_rfl) allL_nil) (label_Below.D k) label_Below.mk label_Below.re (by kernel_rfl) (by kernel_rfl) label_Below.fit label_Below.fitR (label_Below.eq k)
/-! ### (*pyx/gate.Gate).Seen: function 20 -/
noncomputable def gate_Gate_Seen.l3.once (k : Nat) (x : (List Sgate_Out × List Sgate_Out × Int × Int × Int × Int × List Sgate_Out × List (Sgate_Key × Int))) : Option ((List Sgate_Out × List Sgate_Out × Int × Int × Int × Int × List Sgate_Out × List (Sgate_Key × Int)) ⊕ ((List Sgate_Out × List Sgate_Out × List (Sgate_Key × Int)))) := match x with | (x4, x5, x6, x7, x2, x3, x8, x9) => cond (decide (x7 < x6)) (cond (inb x7 (List.length x5)) ((label_Below.f k (⟨((List.getD x5 (Int.toNat x7) Sgate_Out.zero).f_To).f_Set, ((List.getD x5 (Int.toNat x7) Sgate_Out.zero).f_To).f_Level⟩ : Sapi_Label) (⟨x2, x3⟩ : Sapi_Label)).bind fun t10 => (cond (t10) (cond (okLen (List.length x4 + List.length [(⟨(⟨((List.getD x5 (Int.toNat x7) Sgate_Out.zero).f_K).f_Group, ((List.getD x5 (Int.toNat x7) Sgate_Out.zero).f_K).f_Line, ((List.getD x5 (Int.toNat x7) Sgate_Out.zero).f_K).f_Period, ((List.getD x5 (Int.toNat x7) Sgate_Out.zero).f_K).f_Version⟩ : Sgate_Key), (List.getD x5 (Int.toNat x7) Sgate_Out.zero).f_Rule, (⟨((List.getD x5 (Int.toNat x7) Sgate_Out.zero).f_Value).f_Neg, ((((List.getD x5 (Int.toNat x7) Sgate_Out.zero).f_Value).f_C).1, (((List.getD x5 (Int.toNat x7) Sgate_Out.zero).f_Value).f_C).2), ((List.getD x5 (Int.toNat x7) Sgate_Out.zero).f_Value).f_Scale⟩ : Sapi_Dec), (⟨((List.getD x5 (Int.toNat x7) Sgate_Out.zero).f_To).f_Set, ((List.getD x5 (Int.toNat x7) Sgate_Out.zero).f_To).f_Level⟩ : Sapi_Label)⟩ : Sgate_Out)]) 88) (some (.inl (x4 ++ [(⟨(⟨((List.getD x5 (Int.toNat x7) Sgate_Out.zero).f_K).f_Group, ((List.getD x5 (Int.toNat x7) Sgate_Out.zero).f_K).f_Line, ((List.getD x5 (Int.toNat x7) Sgate_Out.zero).f_K).f_Period, ((List.getD x5 (Int.toNat x7) Sgate_Out.zero).f_K).f_Version⟩ : Sgate_Key), (List.getD x5 (Int.toNat x7) Sgate_Out.zero).f_Rule, (⟨((List.getD x5 (Int.toNat x7) Sgate_Out.zero).f_Value).f_Neg, ((((List.getD x5 (Int.toNat x7) Sgate_Out.zero).f_Value).f_C).1, (((List.getD x5 (Int.toNat x7) Sgate_Out.zero).f_Value).f_C).2), ((List.getD x5 (Int.toNat x7) Sgate_Out.zero).f_Value).f_Scale⟩ : Sapi_Dec), (⟨((List.getD x5 (Int.toNat x7) Sgate_Out.zero).f_To).f_Set, ((List.getD x5 (Int.toNat x7) Sgate_Out.zero).f_To).f_Level⟩ : Sapi_Label)⟩ : Sgate_Out)], x5, x6, IntKind.wrap .i64 (x7 + 1), x2, x3, x8, x9))) none) (some (.inl (x4, x5, x6, IntKind.wrap .i64 (x7 + 1), x2, x3, x8, x9))))) none) (some (.inr (x4, x8, x9)))
noncomputable def gate_Gate_Seen.f (k : Nat) (a0 : Sgate_Gate) (a1 : Sapi_Label) : Option (List Sgate_Out × Sgate_Gate) := (gate_Gate_Log.f k (⟨a0.f_l, a0.f_at⟩ : Sgate_Gate)).bind fun t1 => ((iter (gate_Gate_Seen.l3.once k) k (([] : List Sgate_Out), t1.1, (List.length t1.1 : Int), 0, a1.f_Set, a1.f_Level, t1.2.f_l, t1.2.f_at)).bind fun y14 => ((slices_Clip_gate_Out.f k y14.1).bind fun t15 => (some (t15, (⟨y14.2.1, y14.2.2⟩ : Sgate_Gate)))))
noncomputable def gate_Gate_Seen.un (s : St U) : Option (Sgate_Gate × Sapi_Label) := match s.get 0, lk s.o 7000000000000, s.get 1, s.get 1000000000000000 with | .ptr 7000000000000 0, some (.lit [x3, x4]), .agg [.flat (.int .u64 x5), .flat (.int .i64 x6)], .ptr 7000000000000 0 => (tip_Sgate_Out s.o 11 x3).bind fun ex1 => ((map_Sgate_Key_i64_t s.o x4).bind fun ex2 => (cond (apart [ex1.1, ex2.1]) (some ((⟨ex1.2, ex2.2⟩ : Sgate_Gate), (⟨x5, x6⟩ : Sapi_Label))) none)) | _, _, _, _ => none
noncomputable def gate_Gate_Seen.mk (x : (Sgate_Gate × Sapi_Label)) : St U := ⟨[(0, .ptr 7000000000000 0), (1, .agg [.flat (.int .u64 x.2.f_Set), .flat (.int .i64 x.2.f_Level)]), (1000000000000000, .ptr 7000000000000 0)], [(7000000000000, .lit [.tip 7000000000001 C.Sgate_Out x.1.f_l, .mp 7000000000002]), (7000000000001, .tip 11), (7000000000002, .map true true false C.Sgate_Key C.i64 x.1.f_at)]⟩
noncomputable def gate_Gate_Seen.fin (y : (List Sgate_Out × Sgate_Gate)) : St U := ⟨[(0, .row C.Sgate_Out y.1), (1000000000000000, .ptr 7000000000000 0)], [(7000000000000, .lit [.tip 7000000000001 C.Sgate_Out y.2.f_l, .mp 7000000000002]), (7000000000001, .tip 11), (7000000000002, .map true true false C.Sgate_Key C.i64 y.2.f_at)]⟩
noncomputable def gate_Gate_Seen.D (k : Nat) : FDen U := { X := (Sgate_Gate × Sapi_Label), Y := (List Sgate_Out × Sgate_Gate), nt := 26, gh := [0], un := gate_Gate_Seen.un, f := fun x => gate_Gate_Seen.f k (x.1) (x.2), fin := gate_Gate_Seen.fin, cl := false, clo := fun h => by cases h }
noncomputable def gate_Gate_Seen.re (s : St U) : Option (List Sgate_Out × Sgate_Gate) := match s.get 0, s.get 1000000000000000, lk s.o 7000000000000 with | .row C.Sgate_Out x1, .ptr 7000000000000 0, some (.lit [x4, x5]) => (tip_Sgate_Out s.o 11 x4).bind fun ex2 => ((map_Sgate_Key_i64_t s.o x5).bind fun ex3 => (cond (apart [ex2.1, ex3.1]) (some (x1, (⟨ex2.2, ex3.2⟩ : Sgate_Gate))) none)) | _, _, _ => none
noncomputable def gate_Gate_Seen.l3.mk (x : (List Sgate_Out × List Sgate_Out × Int × Int × Int × Int × List Sgate_Out × List (Sgate_Key × Int))) : St U := match x with | (x4, x5, x6, x7, x2, x3, x8, x9) => ⟨[(3, .ptr 3 0), (1000000000000000, .ptr 7000000000000 0), (5, .tip 1003005 C.Sgate_Out x4), (9, .row C.Sgate_Out x5), (10, .flat (.int .i64 x6)), (11, .flat (.int .i64 x7))], [(3, .lit [.flat (.int .u64 x2), .flat (.int .i64 x3)]), (1003005, .tip 11), (7000000000000, .lit [.tip 700002000300000 C.Sgate_Out x8, .mp 700002000300001]), (700002000300000, .tip 11), (700002000300001, .map true true false C.Sgate_Key C.i64 x9)]⟩
noncomputable def gate_Gate_Seen.l3.un (s : St U) : Option (List Sgate_Out × List Sgate_Out × Int × Int × Int × Int × List Sgate_Out × List (Sgate_Key × Int)) := (tip_Sgate_Out s.o 11 (s.get 5)).bind fun q0 => ((row_Sgate_Out (s.get 9)).bind fun q1 => (match s.get 3, s.get 1000000000000000, s.get 10, s.get 11, lk s.o 3, lk s.o 7000000000000 with | .ptr 3 0, .ptr 7000000000000 0, .flat (.int .i64 x6), .flat (.int .i64 x7), some (.lit [.flat (.int .u64 x2), .flat (.int .i64 x3)]), some (.lit [u7000000000000_0, u7000000000000_1]) => (tip_Sgate_Out s.o 11 u7000000000000_0).bind fun w7000000000000_0 => ((map_Sgate_Key_i64_t s.o u7000000000000_1).bind fun w7000000000000_1 => (cond (apart [q0.1, w7000000000000_0.1, w7000000000000_1.1]) (some (q0.2, q1, x6, x7, x2, x3, w7000000000000_0.2, w7000000000000_1.2)) none)) | _, _, _, _, _, _ => none))
noncomputable def gate_Gate_Seen.l3.fin (y : (List Sgate_Out × List Sgate_Out × List (Sgate_Key × Int))) : Out U := match y with | (x11, x12, x13) => .exit 0 ⟨[(1000000000000000, .ptr 7000000000000 0), (5, .tip 1003005 C.Sgate_Out x11)], [(1003005, .tip 11), (7000000000000, .lit [.tip 700002000300000 C.Sgate_Out x12, .mp 700002000300001]), (700002000300000, .tip 11), (700002000300001, .map true true false C.Sgate_Key C.i64 x13)]⟩
noncomputable def gate_Gate_Seen.l3.finK {ρ : Type} (y : (List Sgate_Out × List Sgate_Out × List (Sgate_Key × Int))) (K : Out U → Option ρ) : Option ρ := match y with | (x11, x12, x13) => K (.exit 0 ⟨[(1000000000000000, .ptr 7000000000000 0), (5, .tip 1003005 C.Sgate_Out x11)], [(1003005, .tip 11), (7000000000000, .lit [.tip 700002000300000 C.Sgate_Out x12, .mp 700002000300001]), (700002000300000, .tip 11), (700002000300001, .map true true false C.Sgate_Key C.i64 x13)]⟩)
theorem gate_Gate_Seen.l3.finK_eq {ρ : Type} (y : (List Sgate_Out × List Sgate_Out × List (Sgate_Key × Int))) (K : Out U → Option ρ) : gate_Gate_Seen.l3.finK y K = K (gate_Gate_Seen.l3.fin y) := by
  unfold gate_Gate_Seen.l3.finK gate_Gate_Seen.l3.fin
  first | rfl | (split <;> rfl)
noncomputable def gate_Gate_Seen.l3.re : Out U → Option ((List Sgate_Out × List Sgate_Out × List (Sgate_Key × Int))) | .exit 0 s => ((tip_Sgate_Out s.o 11 (s.get 5)).bind fun q0 => (match s.get 1000000000000000, lk s.o 7000000000000 with | .ptr 7000000000000 0, some (.lit [u7000000000000_0, u7000000000000_1]) => (tip_Sgate_Out s.o 11 u7000000000000_0).bind fun w7000000000000_0 => ((map_Sgate_Key_i64_t s.o u7000000000000_1).bind fun w7000000000000_1 => (cond (apart [q0.1, w7000000000000_0.1, w7000000000000_1.1]) (some (q0.2, w7000000000000_0.2, w7000000000000_1.2)) none)) | _, _ => none)) | _ => none
noncomputable def gate_Gate_Seen.l3.L (k : Nat) : LDen U := { X := (List Sgate_Out × List Sgate_Out × Int × Int × Int × Int × List Sgate_Out × List (Sgate_Key × Int)), Y := (List Sgate_Out × List Sgate_Out × List (Sgate_Key × Int)), un := gate_Gate_Seen.l3.un, f := iter (gate_Gate_Seen.l3.once k) k, fin := gate_Gate_Seen.l3.fin, finK := gate_Gate_Seen.l3.finK, finK_eq := gate_Gate_Seen.l3.finK_eq }
noncomputable def gate_Gate_Seen.jl : List (Nat × JDen U) := []
noncomputable def gate_Gate_Seen.fl (k : Nat) : List (Nat × FDen U) := [(19, gate_Gate_Log.D k), (50, label_Below.D k), (62, slices_Clip_gate_Out.D k)]
noncomputable def gate_Gate_Seen.ll (k : Nat) : List (Nat × LDen U) := [(3, gate_Gate_Seen.l3.L k)]
noncomputable def gate_Gate_Seen.E (k : Nat) : Env U := { P := Try.prog, D := DD, fd := lk (gate_Gate_Seen.fl k), ld := lk (gate_Gate_Seen.ll k), jd := lk gate_Gate_Seen.jl, mode := lk [], elc := lk ec, mpc := lk mc, rts := Try.f20.resultTypes.toList, dyn := fun t => false, vecs := fun d => false, results := Try.f20.results.toList, gh := [0], own := false, io := fun g i => false }
theorem gate_Gate_Seen.ok (k : Nat) : EnvOk (gate_Gate_Seen.E k) := envOk lawful (gate_Gate_Seen.fl k) (gate_Gate_Seen.ll k) gate_Gate_Seen.jl _ _ _ _ _ _ _ _ _ _ (by
  intro p hp
  simp only [gate_Gate_Seen.fl, List.mem_cons, List.not_mem_nil, or_false] at hp
  rcases hp with rfl | rfl | rfl
  · exact ⟨gate_Gate_Log.sound k, enter_of Try.func19 (by kernel_rfl) (by kernel_rfl)⟩
  · exact ⟨label_Below.sound k, enter_of Try.func50 (by kernel_rfl) (by kernel_rfl)⟩
  · exact ⟨slices_Clip_gate_Out.sound k, enter_of Try.func62 (by kernel_rfl) (by kernel_rfl)⟩) (by
  intro p hp
  simp [gate_Gate_Seen.jl] at hp)
theorem gate_Gate_Seen.l3.eq (k : Nat) (x : (List Sgate_Out × List Sgate_Out × Int × Int × Int × Int × List Sgate_Out × List (Sgate_Key × Int))) : evC (gate_Gate_Seen.E k) (loopAt Try.f20 3) (gate_Gate_Seen.l3.mk x) (headK gate_Gate_Seen.l3.un gate_Gate_Seen.l3.re) = gate_Gate_Seen.l3.once k x := by kernel_rfl
theorem gate_Gate_Seen.l3.fit (s : St U) (x : (List Sgate_Out × List Sgate_Out × Int × Int × Int × Int × List Sgate_Out × List (Sgate_Key × Int))) (h : gate_Gate_Seen.l3.un s = some x) : Fits s (gate_Gate_Seen.l3.mk x) := by
  unfold gate_Gate_Seen.l3.un at h
  obtain ⟨q0, eq0, h1⟩ := Option.bind_eq_some_iff.1 h
  obtain ⟨q1, eq1, h2⟩ := Option.bind_eq_some_iff.1 h1
  split at h2
  · obtain ⟨w7000000000000_0, ew7000000000000_0, h3⟩ := Option.bind_eq_some_iff.1 h2
    obtain ⟨w7000000000000_1, ew7000000000000_1, h4⟩ := Option.bind_eq_some_iff.1 h3
    obtain ⟨hap, h5⟩ := cond_none h4
    cases h5
    refine fits_ren [(1003005, q0.1), (700002000300000, w7000000000000_0.1), (700002000300001, w7000000000000_1.1)] ?_ ?_ (ren_apart hap) rfl
    · exact List.forall_mem_cons.2 ⟨FV.one (FV.ptr (by assumption)), List.forall_mem_cons.2 ⟨FV.one (FV.ptr (by assumption)), List.forall_mem_cons.2 ⟨FV.one (tip_Sgate_Out_fit eq0 rfl).1, List.forall_mem_cons.2 ⟨FV.one (row_Sgate_Out_fit eq1), List.forall_mem_cons.2 ⟨FV.one (FV.same (by assumption) rfl), List.forall_mem_cons.2 ⟨FV.one (FV.same (by assumption) rfl), fun _ hp => (List.not_mem_nil hp).elim⟩⟩⟩⟩⟩⟩
    · exact List.forall_mem_cons.2 ⟨(FO.same (show lk (St.o _) 3 = some _ from by assumption) rfl), List.forall_mem_cons.2 ⟨(tip_Sgate_Out_fit eq0 rfl).2, List.forall_mem_cons.2 ⟨(FO.cells (show lk (St.o _) 7000000000000 = some _ from by assumption) (FCs.cons ((tip_Sgate_Out_fit ew7000000000000_0 rfl).1) (FCs.cons ((map_Sgate_Key_i64_t_fit ew7000000000000_1 rfl).1) (FCs.nil)))), List.forall_mem_cons.2 ⟨(tip_Sgate_Out_fit ew7000000000000_0 rfl).2, List.forall_mem_cons.2 ⟨(map_Sgate_Key_i64_t_fit ew7000000000000_1 rfl).2, fun _ hp => (List.not_mem_nil hp).elim⟩⟩⟩⟩⟩
  · cases h2
theorem gate_Gate_Seen.l3.fitO (o : Out U) (y : (List Sgate_Out × List Sgate_Out × List (Sgate_Key × Int))) (h : gate_Gate_Seen.l3.re o = some y) : FitsO o (gate_Gate_Seen.l3.fin y) := by
  unfold gate_Gate_Seen.l3.re at h
  split at h
  · obtain ⟨q0, eq0, h1⟩ := Option.bind_eq_some_iff.1 h
    split at h1
    · obtain ⟨w7000000000000_0, ew7000000000000_0, h2⟩ := Option.bind_eq_some_iff.1 h1
      obtain ⟨w7000000000000_1, ew7000000000000_1, h3⟩ := Option.bind_eq_some_iff.1 h2
      obtain ⟨hap, h4⟩ := cond_none h3
      cases h4
      refine fitsO_exit (fits_ren [(1003005, q0.1), (700002000300000, w7000000000000_0.1), (700002000300001, w7000000000000_1.1)] ?_ ?_ (ren_apart hap) rfl)
      · exact List.forall_mem_cons.2 ⟨FV.one (FV.ptr (by assumption)), List.forall_mem_cons.2 ⟨FV.one (tip_Sgate_Out_fit eq0 rfl).1, fun _ hp => (List.not_mem_nil hp).elim⟩⟩
      · exact List.forall_mem_cons.2 ⟨(tip_Sgate_Out_fit eq0 rfl).2, List.forall_mem_cons.2 ⟨(FO.cells (show lk (St.o _) 7000000000000 = some _ from by assumption) (FCs.cons ((tip_Sgate_Out_fit ew7000000000000_0 rfl).1) (FCs.cons ((map_Sgate_Key_i64_t_fit ew7000000000000_1 rfl).1) (FCs.nil)))), List.forall_mem_cons.2 ⟨(tip_Sgate_Out_fit ew7000000000000_0 rfl).2, List.forall_mem_cons.2 ⟨(map_Sgate_Key_i64_t_fit ew7000000000000_1 rfl).2, fun _ hp => (List.not_mem_nil hp).elim⟩⟩⟩⟩
    · cases h1
  · cases h
theorem gate_Gate_Seen.l3.sound (k : Nat) : LSound (gate_Gate_Seen.E k) Try.f20.ntmps Try.f20 (loopAt Try.f20 3) (gate_Gate_Seen.l3.L k) :=
  loop_sound (gate_Gate_Seen.ok k) mixed rfl (by kernel_rfl) (allL_of (l := []) (by kernel_rfl) allL_nil) gate_Gate_Seen.l3.un gate_Gate_Seen.l3.mk gate_Gate_Seen.l3.fin gate_Gate_Seen.l3.re (gate_Gate_Seen.l3.once k) k gate_Gate_Seen.l3.fit gate_Gate_Seen.l3.fitO (gate_Gate_Seen.l3.eq k) gate_Gate_Seen.l3.finK gate_Gate_Seen.l3.finK_eq
theorem gate_Gate_Seen.eq (k : Nat) (x : (Sgate_Gate × Sapi_Label)) : runF (gate_Gate_Seen.E k) (codeOf Try.f20) (gate_Gate_Seen.mk x) gate_Gate_Seen.re = (gate_Gate_Seen.D k).f x := by kernel_rfl
theorem gate_Gate_Seen.fit (s : St U) (x : (Sgate_Gate × Sapi_Label)) (h : gate_Gate_Seen.un s = some x) : Fits s (gate_Gate_Seen.mk x) := by
  unfold gate_Gate_Seen.un at h
  split at h
  · obtain ⟨ex1, hex1, hh1⟩ := Option.bind_eq_some_iff.1 h
    obtain ⟨ex2, hex2, hh2⟩ := Option.bind_eq_some_iff.1 hh1
    obtain ⟨hap, hh0⟩ := cond_none hh2
    cases hh0
    refine fits_ren [(7000000000001, ex1.1), (7000000000002, ex2.1)] ?_ ?_ (ren_apart hap) rfl
    · exact List.forall_mem_cons.2 ⟨FV.one (FV.ptr (by assumption)), List.forall_mem_cons.2 ⟨FV.one (FV.same (by assumption) rfl), List.forall_mem_cons.2 ⟨FV.one (FV.ptr (by assumption)), fun _ hp => (List.not_mem_nil hp).elim⟩⟩⟩
    · exact List.forall_mem_cons.2 ⟨FO.cells (show lk (St.o _) 7000000000000 = some _ from by assumption) (FCs.cons ((tip_Sgate_Out_fit hex1 rfl).1) (FCs.cons ((map_Sgate_Key_i64_t_fit hex2 rfl).1) (FCs.nil))), List.forall_mem_cons.2 ⟨(tip_Sgate_Out_fit hex1 rfl).2, List.forall_mem_cons.2 ⟨(map_Sgate_Key_i64_t_fit hex2 rfl).2, fun _ hp => (List.not_mem_nil hp).elim⟩⟩⟩
  · cases h
theorem gate_Gate_Seen.fitR (s : St U) (y : (List Sgate_Out × Sgate_Gate)) (h : gate_Gate_Seen.re s = some y) : Fits s (gate_Gate_Seen.fin y) := by
  unfold gate_Gate_Seen.re at h
  split at h
  · obtain ⟨ex2, hex2, hh1⟩ := Option.bind_eq_some_iff.1 h
    obtain ⟨ex3, hex3, hh2⟩ := Option.bind_eq_some_iff.1 hh1
    obtain ⟨hap, hh0⟩ := cond_none hh2
    cases hh0
    refine fits_ren [(7000000000001, ex2.1), (7000000000002, ex3.1)] ?_ ?_ (ren_apart hap) rfl
    · exact List.forall_mem_cons.2 ⟨FV.one (FV.same (by assumption) rfl), List.forall_mem_cons.2 ⟨FV.one (FV.ptr (by assumption)), fun _ hp => (List.not_mem_nil hp).elim⟩⟩
    · exact List.forall_mem_cons.2 ⟨FO.cells (show lk (St.o _) 7000000000000 = some _ from by assumption) (FCs.cons ((tip_Sgate_Out_fit hex2 rfl).1) (FCs.cons ((map_Sgate_Key_i64_t_fit hex3 rfl).1) (FCs.nil))), List.forall_mem_cons.2 ⟨(tip_Sgate_Out_fit hex2 rfl).2, List.forall_mem_cons.2 ⟨(map_Sgate_Key_i64_t_fit hex3 rfl).2, fun _ hp => (List.not_mem_nil hp).elim⟩⟩⟩
  · cases h
theorem gate_Gate_Seen.sound (k : Nat) : Sound Try.prog DD 20 (gate_Gate_Seen.D k) :=
  fun_sound (E := gate_Gate_Seen.E k) (fn := Try.f20) (c := codeOf Try.f20) (gate_Gate_Seen.ok k) mixed rfl Try.func20 (by kernel_rfl) (by kernel_rfl) (allL_of (l := [loopAt Try.f20 3]) (by kernel_rfl) (allL_cons (key := 3) (by kernel_rfl) rfl (gate_Gate_Seen.l3.sound k) allL_nil)) (gate_Gate_Seen.D k) gate_Gate_Seen.mk gate_Gate_Seen.re (by kernel_rfl) (by kernel_rfl) gate_Gate_Seen.fit gate_Gate_Seen.fitR (gate_Gate_Seen.eq k)
/-! ### pyx/pyxlaw25.GateKnown: function 3 -/
noncomputable def pyxlaw25_GateKnown.f (k : Nat)  : Option Bool := (gate_New.f k).bind fun t1 => ((((pyxlaw25_known.f k).bind fun t2 => (cond (!t2) (some (true, t1.f_l, t1.f_at)) (some (false, t1.f_l, t1.f_at)))) : Option (Bool × List Sgate_Out × List (Sgate_Key × Int))).bind fun y6 => (cond (y6.1) (some false) ((pyxref1_Of.f k 5 1).bind fun t7 => ((pyxref1_Of.f k 1 0).bind fun t8 => ((gate_Gate_Release.f k (⟨y6.2.1, y6.2.2⟩ : Sgate_Gate) (⟨3, 0, 0, 0, 1, 2, (⟨t7.f_Neg, (t7.f_C.1, t7.f_C.2), t7.f_Scale⟩ : Sapi_Dec), (⟨1, 1⟩ : Sapi_Label)⟩ : Sapi_Rule) 0 (⟨0, 0, 0, 0⟩ : Sgate_Key) (⟨t8.f_Neg, (t8.f_C.1, t8.f_C.2), t8.f_Scale⟩ : Sapi_Dec)).bind fun t9 => ((pyxref1_Of.f k 1 0).bind fun t10 => ((pyxref1_Of.f k 1 0).bind fun t11 => ((gate_Gate_Release.f k (⟨t9.2.2.2.f_l, t9.2.2.2.f_at⟩ : Sgate_Gate) (⟨0, 0, 0, 0, 0, 0, (⟨t10.f_Neg, (t10.f_C.1, t10.f_C.2), t10.f_Scale⟩ : Sapi_Dec), (⟨0, 0⟩ : Sapi_Label)⟩ : Sapi_Rule) 0 (⟨0, 0, 0, 0⟩ : Sgate_Key) (⟨t11.f_Neg, (t11.f_C.1, t11.f_C.2), t11.f_Scale⟩ : Sapi_Dec)).bind fun t12 => ((gate_Gate_Release.f k (⟨t12.2.2.2.f_l, t12.2.2.2.f_at⟩ : Sgate_Gate) (⟨3, 0, 0, 0, 1, 2, (⟨t7.f_Neg, (t7.f_C.1, t7.f_C.2), t7.f_Scale⟩ : Sapi_Dec), (⟨1, 1⟩ : Sapi_Label)⟩ : Sapi_Rule) 0 (⟨1, 2, 0, 0⟩ : Sgate_Key) (⟨true, (0, 0), 0⟩ : Sapi_Dec)).bind fun t13 => ((pyxref1_Of.f k (-26) 2).bind fun t14 => ((gate_Gate_Release.f k (⟨t13.2.2.2.f_l, t13.2.2.2.f_at⟩ : Sgate_Gate) (⟨3, 0, 0, 0, 1, 2, (⟨t7.f_Neg, (t7.f_C.1, t7.f_C.2), t7.f_Scale⟩ : Sapi_Dec), (⟨1, 1⟩ : Sapi_Label)⟩ : Sapi_Rule) 3 (⟨1, 2, 4, 7⟩ : Sgate_Key) (⟨t14.f_Neg, (t14.f_C.1, t14.f_C.2), t14.f_Scale⟩ : Sapi_Dec)).bind fun t15 => ((pyxref1_Of.f k 74 2).bind fun t16 => ((gate_Gate_Release.f k (⟨t15.2.2.2.f_l, t15.2.2.2.f_at⟩ : Sgate_Gate) (⟨3, 0, 0, 0, 1, 2, (⟨t7.f_Neg, (t7.f_C.1, t7.f_C.2), t7.f_Scale⟩ : Sapi_Dec), (⟨1, 1⟩ : Sapi_Label)⟩ : Sapi_Rule) 3 (⟨1, 2, 4, 8⟩ : Sgate_Key) (⟨t16.f_Neg, (t16.f_C.1, t16.f_C.2), t16.f_Scale⟩ : Sapi_Dec)).bind fun t17 => (cond (t9.2.2.1 == 1) (cond (t12.2.2.1 == 1) (cond (t13.2.2.1 == 1) (cond (t15.2.2.1 == 0) (cond (t15.2.1) ((pyxref1_Of.f k (-5) 1).bind fun t18 => (cond ((t15.1.f_Neg == t18.f_Neg) && ((t15.1.f_C.1 == t18.f_C.1) && ((t15.1.f_C.2 == t18.f_C.2) && (t15.1.f_Scale == t18.f_Scale)))) (cond (t17.2.2.1 == 0) (cond (t17.2.1) ((pyxref1_Of.f k 5 1).bind fun t19 => (cond ((t17.1.f_Neg == t19.f_Neg) && ((t17.1.f_C.1 == t19.f_C.1) && ((t17.1.f_C.2 == t19.f_C.2) && (t17.1.f_Scale == t19.f_Scale)))) ((gate_Gate_Log.f k (⟨t17.2.2.2.f_l, t17.2.2.2.f_at⟩ : Sgate_Gate)).bind fun t20 => (cond ((List.length t20.1 : Int) == 2) ((gate_Gate_Seen.f k (⟨t20.2.f_l, t20.2.f_at⟩ : Sgate_Gate) (⟨3, 1⟩ : Sapi_Label)).bind fun t21 => (cond ((List.length t21.1 : Int) == 2) ((gate_Gate_Seen.f k (⟨t21.2.f_l, t21.2.f_at⟩ : Sgate_Gate) (⟨3, 0⟩ : Sapi_Label)).bind fun t22 => (cond ((List.length t22.1 : Int) == 0) ((gate_Gate_Seen.f k (⟨t22.2.f_l, t22.2.f_at⟩ : Sgate_Gate) (⟨2, 3⟩ : Sapi_Label)).bind fun t23 => (some ((List.length t23.1 : Int) == 0))) (some false))) (some false))) (some false))) (some false))) (some false)) (some false)) (some false))) (some false)) (some false)) (some false)) (some false)) (some false)))))))))))))))
noncomputable def pyxlaw25_GateKnown.un (s : St U) : Option Unit := some ()
noncomputable def pyxlaw25_GateKnown.mk (x : Unit) : St U := ⟨[], []⟩
noncomputable def pyxlaw25_GateKnown.fin (y : Bool) : St U := ⟨[(0, .flat (.bool y))], []⟩
noncomputable def pyxlaw25_GateKnown.D (k : Nat) : FDen U := { X := Unit, Y := Bool, nt := 135, gh := [], un := pyxlaw25_GateKnown.un, f := fun x => pyxlaw25_GateKnown.f k , fin := pyxlaw25_GateKnown.fin, cl := true, clo := fun _ _ => rfl }
noncomputable def pyxlaw25_GateKnown.re (s : St U) : Option Bool := match s.get 0 with | .flat (.bool x1) => some x1 | _ => none
noncomputable def pyxlaw25_GateKnown.j2000.fin (y : (Bool × List Sgate_Out × List (Sgate_Key × Int))) : Out U := match y with | (x5, x3, x4) => .norm ⟨[(1, .ptr 190000000000003 0), (24, .flat (.bool x5))], [(190000000000003, .lit [.tip 19000102200000300 C.Sgate_Out x3, .mp 19000102200000301]), (19000102200000300, .tip 11), (19000102200000301, .map true true false C.Sgate_Key C.i64 x4)]⟩
noncomputable def pyxlaw25_GateKnown.j2000.finK {ρ : Type} (y : (Bool × List Sgate_Out × List (Sgate_Key × Int))) (K : Out U → Option ρ) : Option ρ := match y with | (x5, x3, x4) => K (.norm ⟨[(1, .ptr 190000000000003 0), (24, .flat (.bool x5))], [(190000000000003, .lit [.tip 19000102200000300 C.Sgate_Out x3, .mp 19000102200000301]), (19000102200000300, .tip 11), (19000102200000301, .map true true false C.Sgate_Key C.i64 x4)]⟩)
theorem pyxlaw25_GateKnown.j2000.finK_eq {ρ : Type} (y : (Bool × List Sgate_Out × List (Sgate_Key × Int))) (K : Out U → Option ρ) : pyxlaw25_GateKnown.j2000.finK y K = K (pyxlaw25_GateKnown.j2000.fin y) := by
  unfold pyxlaw25_GateKnown.j2000.finK pyxlaw25_GateKnown.j2000.fin
  first | rfl | (split <;> rfl)
noncomputable def pyxlaw25_GateKnown.j2000.re : Out U → Option ((Bool × List Sgate_Out × List (Sgate_Key × Int))) | .norm s => (match s.get 1, s.get 24, lk s.o 190000000000003 with | .ptr 190000000000003 0, .flat (.bool x5), some (.lit [u190000000000003_0, u190000000000003_1]) => (tip_Sgate_Out s.o 11 u190000000000003_0).bind fun w190000000000003_0 => ((map_Sgate_Key_i64_t s.o u190000000000003_1).bind fun w190000000000003_1 => (cond (apart [w190000000000003_0.1, w190000000000003_1.1]) (some (x5, w190000000000003_0.2, w190000000000003_1.2)) none)) | _, _, _ => none) | _ => none
noncomputable def pyxlaw25_GateKnown.j2000.J : JDen U := { Y := (Bool × List Sgate_Out × List (Sgate_Key × Int)), re := pyxlaw25_GateKnown.j2000.re, fin := pyxlaw25_GateKnown.j2000.fin, finK := pyxlaw25_GateKnown.j2000.finK, finK_eq := pyxlaw25_GateKnown.j2000.finK_eq }
theorem pyxlaw25_GateKnown.j2000.fit (o : Out U) (y : (Bool × List Sgate_Out × List (Sgate_Key × Int))) (h : pyxlaw25_GateKnown.j2000.re o = some y) : FitsO o (pyxlaw25_GateKnown.j2000.fin y) := by
  unfold pyxlaw25_GateKnown.j2000.re at h
  split at h
  · split at h
    · obtain ⟨w190000000000003_0, ew190000000000003_0, h1⟩ := Option.bind_eq_some_iff.1 h
      obtain ⟨w190000000000003_1, ew190000000000003_1, h2⟩ := Option.bind_eq_some_iff.1 h1
      obtain ⟨hap, h3⟩ := cond_none h2
      cases h3
      refine fitsO_norm (fits_ren [(19000102200000300, w190000000000003_0.1), (19000102200000301, w190000000000003_1.1)] ?_ ?_ (ren_apart hap) rfl)
      · exact List.forall_mem_cons.2 ⟨FV.one (FV.ptr (by assumption)), List.forall_mem_cons.2 ⟨FV.one (FV.same (by assumption) rfl), fun _ hp => (List.not_mem_nil hp).elim⟩⟩
      · exact List.forall_mem_cons.2 ⟨(FO.cells (show lk (St.o _) 190000000000003 = some _ from by assumption) (FCs.cons ((tip_Sgate_Out_fit ew190000000000003_0 rfl).1) (FCs.cons ((map_Sgate_Key_i64_t_fit ew190000000000003_1 rfl).1) (FCs.nil)))), List.forall_mem_cons.2 ⟨(tip_Sgate_Out_fit ew190000000000003_0 rfl).2, List.forall_mem_cons.2 ⟨(map_Sgate_Key_i64_t_fit ew190000000000003_1 rfl).2, fun _ hp => (List.not_mem_nil hp).elim⟩⟩⟩
    · cases h
  · cases h
noncomputable def pyxlaw25_GateKnown.jl : List (Nat × JDen U) := [(2000, pyxlaw25_GateKnown.j2000.J)]
noncomputable def pyxlaw25_GateKnown.fl (k : Nat) : List (Nat × FDen U) := [(15, gate_New.D k), (16, pyxlaw25_known.D k), (17, pyxref1_Of.D k), (18, gate_Gate_Release.D k), (19, gate_Gate_Log.D k), (20, gate_Gate_Seen.D k)]
noncomputable def pyxlaw25_GateKnown.ll (k : Nat) : List (Nat × LDen U) := []
noncomputable def pyxlaw25_GateKnown.E (k : Nat) : Env U := { P := Try.prog, D := DD, fd := lk (pyxlaw25_GateKnown.fl k), ld := lk (pyxlaw25_GateKnown.ll k), jd := lk pyxlaw25_GateKnown.jl, mode := lk [], elc := lk ec, mpc := lk mc, rts := Try.f3.resultTypes.toList, dyn := fun t => false, vecs := fun d => false, results := Try.f3.results.toList, gh := [], own := false, io := fun g i => false }
theorem pyxlaw25_GateKnown.ok (k : Nat) : EnvOk (pyxlaw25_GateKnown.E k) := envOk lawful (pyxlaw25_GateKnown.fl k) (pyxlaw25_GateKnown.ll k) pyxlaw25_GateKnown.jl _ _ _ _ _ _ _ _ _ _ (by
  intro p hp
  simp only [pyxlaw25_GateKnown.fl, List.mem_cons, List.not_mem_nil, or_false] at hp
  rcases hp with rfl | rfl | rfl | rfl | rfl | rfl
  · exact ⟨gate_New.sound k, enter_of Try.func15 (by kernel_rfl) (by kernel_rfl)⟩
  · exact ⟨pyxlaw25_known.sound k, enter_of Try.func16 (by kernel_rfl) (by kernel_rfl)⟩
  · exact ⟨pyxref1_Of.sound k, enter_of Try.func17 (by kernel_rfl) (by kernel_rfl)⟩
  · exact ⟨gate_Gate_Release.sound k, enter_of Try.func18 (by kernel_rfl) (by kernel_rfl)⟩
  · exact ⟨gate_Gate_Log.sound k, enter_of Try.func19 (by kernel_rfl) (by kernel_rfl)⟩
  · exact ⟨gate_Gate_Seen.sound k, enter_of Try.func20 (by kernel_rfl) (by kernel_rfl)⟩) (by
  intro p hp
  simp only [pyxlaw25_GateKnown.jl, List.mem_cons, List.not_mem_nil, or_false] at hp
  rcases hp with rfl
  · exact pyxlaw25_GateKnown.j2000.fit)
theorem pyxlaw25_GateKnown.eq (k : Nat) (x : Unit) : runF (pyxlaw25_GateKnown.E k) (codeOf Try.f3) (pyxlaw25_GateKnown.mk x) pyxlaw25_GateKnown.re = (pyxlaw25_GateKnown.D k).f x := by kernel_rfl
theorem pyxlaw25_GateKnown.fit (s : St U) (x : Unit) (h : pyxlaw25_GateKnown.un s = some x) : Fits s (pyxlaw25_GateKnown.mk x) := by
  unfold pyxlaw25_GateKnown.un at h
  cases h
  refine fits_ren [] ?_ ?_ ren_nil rfl
  · exact fun _ hp => (List.not_mem_nil hp).elim
  · exact fun _ hp => (List.not_mem_nil hp).elim
theorem pyxlaw25_GateKnown.fitR (s : St U) (y : Bool) (h : pyxlaw25_GateKnown.re s = some y) : Fits s (pyxlaw25_GateKnown.fin y) := by
  unfold pyxlaw25_GateKnown.re at h
  split at h
  · cases h
    refine fits_ren [] ?_ ?_ ren_nil rfl
    · exact List.forall_mem_cons.2 ⟨FV.one (FV.same (by assumption) rfl), fun _ hp => (List.not_mem_nil hp).elim⟩
    · exact fun _ hp => (List.not_mem_nil hp).elim
  · cases h
theorem pyxlaw25_GateKnown.sound (k : Nat) : Sound Try.prog DD 3 (pyxlaw25_GateKnown.D k) :=
  fun_sound (E := pyxlaw25_GateKnown.E k) (fn := Try.f3) (c := codeOf Try.f3) (pyxlaw25_GateKnown.ok k) mixed rfl Try.func3 (by kernel_rfl) (by kernel_rfl) (allL_of (l := []) (by kernel_rfl) allL_nil) (pyxlaw25_GateKnown.D k) pyxlaw25_GateKnown.mk pyxlaw25_GateKnown.re (by kernel_rfl) (by kernel_rfl) pyxlaw25_GateKnown.fit pyxlaw25_GateKnown.fitR (pyxlaw25_GateKnown.eq k)
end
end Go.Proofs.Ytlaogfkgkpgofaa
