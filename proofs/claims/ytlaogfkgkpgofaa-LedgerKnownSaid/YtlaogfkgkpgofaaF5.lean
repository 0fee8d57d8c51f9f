import Derived.Test.YtlaogfkgkpgofaaF4
/-! Functions, told; their equations with the evaluator; that they are sound. Written by gen.py. -/
namespace Go.Proofs.Ytlaogfkgkpgofaa
open Go Go.Ev
noncomputable section
set_option linter.unusedVariables false
set_option linter.unusedSimpArgs false
set_option maxRecDepth 100000
/-! ### slices.ContainsFunc[[]pyx/api.Entry,pyx/api.Entry]: function 79 -/
noncomputable def slices_ContainsFunc_api_Entry_c80.f (k : Nat) (a0 : List Sapi_Entry) (a1 : Int) : Option Bool := (slices_IndexFunc_api_Entry_c80.f k a0 a1).bind fun t1 => (some (decide (t1 ≥ 0)))
noncomputable def slices_ContainsFunc_api_Entry_c80.un (s : St U) : Option (List Sapi_Entry × Int) := match s.get 0, s.get 1 with | .row C.Sapi_Entry x1, .fn 80 [.rp [.flat (.int .i64 x2)] 0] => some (x1, x2) | _, _ => none
noncomputable def slices_ContainsFunc_api_Entry_c80.mk (x : (List Sapi_Entry × Int)) : St U := ⟨[(0, .row C.Sapi_Entry x.1), (1, .fn 80 [.rp [.flat (.int .i64 x.2)] 0])], []⟩
noncomputable def slices_ContainsFunc_api_Entry_c80.fin (y : Bool) : St U := ⟨[(0, .flat (.bool y))], []⟩
noncomputable def slices_ContainsFunc_api_Entry_c80.D (k : Nat) : FDen U := { X := (List Sapi_Entry × Int), Y := Bool, nt := 9, gh := [], un := slices_ContainsFunc_api_Entry_c80.un, f := fun x => slices_ContainsFunc_api_Entry_c80.f k (x.1) (x.2), fin := slices_ContainsFunc_api_Entry_c80.fin, cl := true, clo := fun _ _ => rfl }
noncomputable def slices_ContainsFunc_api_Entry_c80.re (s : St U) : Option Bool := match s.get 0 with | .flat (.bool x1) => some x1 | _ => none
noncomputable def slices_ContainsFunc_api_Entry_c80.jl : List (Nat × JDen U) := []
noncomputable def slices_ContainsFunc_api_Entry_c80.fl (k : Nat) : List (Nat × FDen U) := [(122, slices_IndexFunc_api_Entry_c80.D k)]
noncomputable def slices_ContainsFunc_api_Entry_c80.ll (k : Nat) : List (Nat × LDen U) := []
noncomputable def slices_ContainsFunc_api_Entry_c80.E (k : Nat) : Env U := { P := Try.prog, D := DD, fd := lk (slices_ContainsFunc_api_Entry_c80.fl k), ld := lk (slices_ContainsFunc_api_Entry_c80.ll k), jd := lk slices_ContainsFunc_api_Entry_c80.jl, mode := lk [], elc := lk ec, mpc := lk mc, rts := Try.f79.resultTypes.toList, dyn := fun t => false, vecs := fun d => false, results := Try.f79.results.toList, gh := [], own := false, io := fun g i => false }
theorem slices_ContainsFunc_api_Entry_c80.ok (k : Nat) : EnvOk (slices_ContainsFunc_api_Entry_c80.E k) := envOk lawful (slices_ContainsFunc_api_Entry_c80.fl k) (slices_ContainsFunc_api_Entry_c80.ll k) slices_ContainsFunc_api_Entry_c80.jl _ _ _ _ _ _ _ _ _ _ (by
  intro p hp
  simp only [slices_ContainsFunc_api_Entry_c80.fl, List.mem_cons, List.not_mem_nil, or_false] at hp
  rcases hp with rfl
  · exact ⟨slices_IndexFunc_api_Entry_c80.sound k, enter_of Try.func122 (by kernel_rfl) (by kernel_rfl)⟩) (by
  intro p hp
  simp [slices_ContainsFunc_api_Entry_c80.jl] at hp)
theorem slices_ContainsFunc_api_Entry_c80.eq (k : Nat) (x : (List Sapi_Entry × Int)) : runF (slices_ContainsFunc_api_Entry_c80.E k) (codeOf Try.f79) (slices_ContainsFunc_api_Entry_c80.mk x) slices_ContainsFunc_api_Entry_c80.re = (slices_ContainsFunc_api_Entry_c80.D k).f x := by kernel_rfl
theorem slices_ContainsFunc_api_Entry_c80.fit (s : St U) (x : (List Sapi_Entry × Int)) (h : slices_ContainsFunc_api_Entry_c80.un s = some x) : Fits s (slices_ContainsFunc_api_Entry_c80.mk x) := by
  unfold slices_ContainsFunc_api_Entry_c80.un at h
  split at h
  · cases h
    refine fits_ren [] ?_ ?_ ren_nil rfl
    · exact List.forall_mem_cons.2 ⟨FV.one (FV.same (by assumption) rfl), List.forall_mem_cons.2 ⟨FV.one (FV.same (by assumption) rfl), fun _ hp => (List.not_mem_nil hp).elim⟩⟩
    · exact fun _ hp => (List.not_mem_nil hp).elim
  · cases h
theorem slices_ContainsFunc_api_Entry_c80.fitR (s : St U) (y : Bool) (h : slices_ContainsFunc_api_Entry_c80.re s = some y) : Fits s (slices_ContainsFunc_api_Entry_c80.fin y) := by
  unfold slices_ContainsFunc_api_Entry_c80.re at h
  split at h
  · cases h
    refine fits_ren [] ?_ ?_ ren_nil rfl
    · exact List.forall_mem_cons.2 ⟨FV.one (FV.same (by assumption) rfl), fun _ hp => (List.not_mem_nil hp).elim⟩
    · exact fun _ hp => (List.not_mem_nil hp).elim
  · cases h
theorem slices_ContainsFunc_api_Entry_c80.sound (k : Nat) : Sound Try.prog DD 79 (slices_ContainsFunc_api_Entry_c80.D k) :=
  fun_sound (E := slices_ContainsFunc_api_Entry_c80.E k) (fn := Try.f79) (c := codeOf Try.f79) (slices_ContainsFunc_api_Entry_c80.ok k) mixed rfl Try.func79 (by kernel_rfl) (by kernel_rfl) (allL_of (l := []) (by kernel_rfl) allL_nil) (slices_ContainsFunc_api_Entry_c80.D k) slices_ContainsFunc_api_Entry_c80.mk slices_ContainsFunc_api_Entry_c80.re (by kernel_rfl) (by kernel_rfl) slices_ContainsFunc_api_Entry_c80.fit slices_ContainsFunc_api_Entry_c80.fitR (slices_ContainsFunc_api_Entry_c80.eq k)
/-! ### pyx/dec.Neg: function 47 -/
noncomputable def dec_Neg.f (k : Nat) (a0 : Sapi_Dec) : Option Sapi_Dec := (dec_Right.f k (⟨a0.f_Neg, (a0.f_C.1, a0.f_C.2), a0.f_Scale⟩ : Sapi_Dec)).bind fun t1 => (cond (!t1) (some (⟨false, (0, 0), 0⟩ : Sapi_Dec)) (cond (!a0.f_Neg) ((dec_nought.f k (a0.f_C.1, a0.f_C.2)).bind fun t2 => (some (⟨!t2, (a0.f_C.1, a0.f_C.2), a0.f_Scale⟩ : Sapi_Dec))) (some (⟨false, (a0.f_C.1, a0.f_C.2), a0.f_Scale⟩ : Sapi_Dec))))
noncomputable def dec_Neg.un (s : St U) : Option Sapi_Dec := match s.get 0 with | .agg [.flat (.bool x1), .flat (.int .u64 x2), .flat (.int .u64 x3), .flat (.int .i64 x4)] => some (⟨x1, (x2, x3), x4⟩ : Sapi_Dec) | _ => none
noncomputable def dec_Neg.mk (x : Sapi_Dec) : St U := ⟨[(0, .agg [.flat (.bool x.f_Neg), .flat (.int .u64 x.f_C.1), .flat (.int .u64 x.f_C.2), .flat (.int .i64 x.f_Scale)])], []⟩
noncomputable def dec_Neg.fin (y : Sapi_Dec) : St U := ⟨[(0, .agg [.flat (.bool y.f_Neg), .flat (.int .u64 y.f_C.1), .flat (.int .u64 y.f_C.2), .flat (.int .i64 y.f_Scale)])], []⟩
noncomputable def dec_Neg.D (k : Nat) : FDen U := { X := Sapi_Dec, Y := Sapi_Dec, nt := 18, gh := [], un := dec_Neg.un, f := fun x => dec_Neg.f k (x), fin := dec_Neg.fin, cl := true, clo := fun _ _ => rfl }
noncomputable def dec_Neg.re (s : St U) : Option Sapi_Dec := match s.get 0 with | .agg [.flat (.bool x1), .flat (.int .u64 x2), .flat (.int .u64 x3), .flat (.int .i64 x4)] => some (⟨x1, (x2, x3), x4⟩ : Sapi_Dec) | _ => none
noncomputable def dec_Neg.jl : List (Nat × JDen U) := []
noncomputable def dec_Neg.fl (k : Nat) : List (Nat × FDen U) := [(82, dec_Right.D k), (88, dec_nought.D k)]
noncomputable def dec_Neg.ll (k : Nat) : List (Nat × LDen U) := []
noncomputable def dec_Neg.E (k : Nat) : Env U := { P := Try.prog, D := DD, fd := lk (dec_Neg.fl k), ld := lk (dec_Neg.ll k), jd := lk dec_Neg.jl, mode := lk [], elc := lk ec, mpc := lk mc, rts := Try.f47.resultTypes.toList, dyn := fun t => false, vecs := fun d => false, results := Try.f47.results.toList, gh := [], own := false, io := fun g i => false }
theorem dec_Neg.ok (k : Nat) : EnvOk (dec_Neg.E k) := envOk lawful (dec_Neg.fl k) (dec_Neg.ll k) dec_Neg.jl _ _ _ _ _ _ _ _ _ _ (by
  intro p hp
  simp only [dec_Neg.fl, List.mem_cons, List.not_mem_nil, or_false] at hp
  rcases hp with rfl | rfl
  · exact ⟨dec_Right.sound k, enter_of Try.func82 (by kernel_rfl) (by kernel_rfl)⟩
  · exact ⟨dec_nought.sound k, enter_of Try.func88 (by kernel_rfl) (by kernel_rfl)⟩) (by
  intro p hp
  simp [dec_Neg.jl] at hp)
theorem dec_Neg.eq (k : Nat) (x : Sapi_Dec) : runF (dec_Neg.E k) (codeOf Try.f47) (dec_Neg.mk x) dec_Neg.re = (dec_Neg.D k).f x := by kernel_rfl
theorem dec_Neg.fit (s : St U) (x : Sapi_Dec) (h : dec_Neg.un s = some x) : Fits s (dec_Neg.mk x) := by
  unfold dec_Neg.un at h
  split at h
  · cases h
    refine fits_ren [] ?_ ?_ ren_nil rfl
    · exact List.forall_mem_cons.2 ⟨FV.one (FV.same (by assumption) rfl), fun _ hp => (List.not_mem_nil hp).elim⟩
    · exact fun _ hp => (List.not_mem_nil hp).elim
  · cases h
theorem dec_Neg.fitR (s : St U) (y : Sapi_Dec) (h : dec_Neg.re s = some y) : Fits s (dec_Neg.fin y) := by
  unfold dec_Neg.re at h
  split at h
  · cases h
    refine fits_ren [] ?_ ?_ ren_nil rfl
    · exact List.forall_mem_cons.2 ⟨FV.one (FV.same (by assumption) rfl), fun _ hp => (List.not_mem_nil hp).elim⟩
    · exact fun _ hp => (List.not_mem_nil hp).elim
  · cases h
theorem dec_Neg.sound (k : Nat) : Sound Try.prog DD 47 (dec_Neg.D k) :=
  fun_sound (E := dec_Neg.E k) (fn := Try.f47) (c := codeOf Try.f47) (dec_Neg.ok k) mixed rfl Try.func47 (by kernel_rfl) (by kernel_rfl) (allL_of (l := []) (by kernel_rfl) allL_nil) (dec_Neg.D k) dec_Neg.mk dec_Neg.re (by kernel_rfl) (by kernel_rfl) dec_Neg.fit dec_Neg.fitR (dec_Neg.eq k)
/-! ### pyx/entry.Turned: function 81 -/
noncomputable def entry_Turned.l3.once (k : Nat) (x : (List Sapi_Line × List Sapi_Line × Int × Int)) : Option ((List Sapi_Line × List Sapi_Line × Int × Int) ⊕ (List Sapi_Line)) := match x with | (x1, x2, x3, x4) => cond (decide (x4 < x3)) (cond (inb x4 (List.length x2)) ((dec_Neg.f k (⟨((List.getD x2 (Int.toNat x4) Sapi_Line.zero).f_Amount).f_Neg, ((((List.getD x2 (Int.toNat x4) Sapi_Line.zero).f_Amount).f_C).1, (((List.getD x2 (Int.toNat x4) Sapi_Line.zero).f_Amount).f_C).2), ((List.getD x2 (Int.toNat x4) Sapi_Line.zero).f_Amount).f_Scale⟩ : Sapi_Dec)).bind fun t5 => (cond (okLen (List.length x1 + List.length [(⟨(List.getD x2 (Int.toNat x4) Sapi_Line.zero).f_Acct, (⟨t5.f_Neg, (t5.f_C.1, t5.f_C.2), t5.f_Scale⟩ : Sapi_Dec), (List.getD x2 (Int.toNat x4) Sapi_Line.zero).f_With⟩ : Sapi_Line)]) 48) (some (.inl (x1 ++ [(⟨(List.getD x2 (Int.toNat x4) Sapi_Line.zero).f_Acct, (⟨t5.f_Neg, (t5.f_C.1, t5.f_C.2), t5.f_Scale⟩ : Sapi_Dec), (List.getD x2 (Int.toNat x4) Sapi_Line.zero).f_With⟩ : Sapi_Line)], x2, x3, IntKind.wrap .i64 (x4 + 1)))) none)) none) (some (.inr x1))
noncomputable def entry_Turned.f (k : Nat) (a0 : List Sapi_Line) : Option (List Sapi_Line) := (iter (entry_Turned.l3.once k) k (([] : List Sapi_Line), a0, (List.length a0 : Int), 0)).bind fun y7 => (some y7)
noncomputable def entry_Turned.un (s : St U) : Option (List Sapi_Line) := match s.get 0 with | .row C.Sapi_Line x1 => some x1 | _ => none
noncomputable def entry_Turned.mk (x : List Sapi_Line) : St U := ⟨[(0, .row C.Sapi_Line x)], []⟩
noncomputable def entry_Turned.fin (y : List Sapi_Line) : St U := ⟨[(0, .row C.Sapi_Line y)], []⟩
noncomputable def entry_Turned.D (k : Nat) : FDen U := { X := List Sapi_Line, Y := List Sapi_Line, nt := 22, gh := [], un := entry_Turned.un, f := fun x => entry_Turned.f k (x), fin := entry_Turned.fin, cl := true, clo := fun _ _ => rfl }
noncomputable def entry_Turned.re (s : St U) : Option (List Sapi_Line) := match s.get 0 with | .row C.Sapi_Line x1 => some x1 | _ => none
noncomputable def entry_Turned.l3.mk (x : (List Sapi_Line × List Sapi_Line × Int × Int)) : St U := match x with | (x1, x2, x3, x4) => ⟨[(3, .tip 1003003 C.Sapi_Line x1), (6, .row C.Sapi_Line x2), (7, .flat (.int .i64 x3)), (8, .flat (.int .i64 x4))], [(1003003, .tip 6)]⟩
noncomputable def entry_Turned.l3.un (s : St U) : Option (List Sapi_Line × List Sapi_Line × Int × Int) := (tip_Sapi_Line s.o 6 (s.get 3)).bind fun q0 => ((row_Sapi_Line (s.get 6)).bind fun q1 => (match s.get 7, s.get 8 with | .flat (.int .i64 x3), .flat (.int .i64 x4) => some (q0.2, q1, x3, x4) | _, _ => none))
noncomputable def entry_Turned.l3.fin (y : List Sapi_Line) : Out U := match y with | x6 => .exit 0 ⟨[(3, .tip 1003003 C.Sapi_Line x6)], [(1003003, .tip 6)]⟩
noncomputable def entry_Turned.l3.finK {ρ : Type} (y : List Sapi_Line) (K : Out U → Option ρ) : Option ρ := match y with | x6 => K (.exit 0 ⟨[(3, .tip 1003003 C.Sapi_Line x6)], [(1003003, .tip 6)]⟩)
theorem entry_Turned.l3.finK_eq {ρ : Type} (y : List Sapi_Line) (K : Out U → Option ρ) : entry_Turned.l3.finK y K = K (entry_Turned.l3.fin y) := by
  unfold entry_Turned.l3.finK entry_Turned.l3.fin
  first | rfl | (split <;> rfl)
noncomputable def entry_Turned.l3.re : Out U → Option (List Sapi_Line) | .exit 0 s => ((tip_Sapi_Line s.o 6 (s.get 3)).bind fun q0 => (some q0.2)) | _ => none
noncomputable def entry_Turned.l3.L (k : Nat) : LDen U := { X := (List Sapi_Line × List Sapi_Line × Int × Int), Y := List Sapi_Line, un := entry_Turned.l3.un, f := iter (entry_Turned.l3.once k) k, fin := entry_Turned.l3.fin, finK := entry_Turned.l3.finK, finK_eq := entry_Turned.l3.finK_eq }
noncomputable def entry_Turned.jl : List (Nat × JDen U) := []
noncomputable def entry_Turned.fl (k : Nat) : List (Nat × FDen U) := [(47, dec_Neg.D k)]
noncomputable def entry_Turned.ll (k : Nat) : List (Nat × LDen U) := [(3, entry_Turned.l3.L k)]
noncomputable def entry_Turned.E (k : Nat) : Env U := { P := Try.prog, D := DD, fd := lk (entry_Turned.fl k), ld := lk (entry_Turned.ll k), jd := lk entry_Turned.jl, mode := lk [], elc := lk ec, mpc := lk mc, rts := Try.f81.resultTypes.toList, dyn := fun t => false, vecs := fun d => false, results := Try.f81.results.toList, gh := [], own := false, io := fun g i => false }
theorem entry_Turned.ok (k : Nat) : EnvOk (entry_Turned.E k) := envOk lawful (entry_Turned.fl k) (entry_Turned.ll k) entry_Turned.jl _ _ _ _ _ _ _ _ _ _ (by
  intro p hp
  simp only [entry_Turned.fl, List.mem_cons, List.not_mem_nil, or_false] at hp
  rcases hp with rfl
  · exact ⟨dec_Neg.sound k, enter_of Try.func47 (by kernel_rfl) (by kernel_rfl)⟩) (by
  intro p hp
  simp [entry_Turned.jl] at hp)
theorem entry_Turned.l3.eq (k : Nat) (x : (List Sapi_Line × List Sapi_Line × Int × Int)) : evC (entry_Turned.E k) (loopAt Try.f81 3) (entry_Turned.l3.mk x) (headK entry_Turned.l3.un entry_Turned.l3.re) = entry_Turned.l3.once k x := by kernel_rfl
theorem entry_Turned.l3.fit (s : St U) (x : (List Sapi_Line × List Sapi_Line × Int × Int)) (h : entry_Turned.l3.un s = some x) : Fits s (entry_Turned.l3.mk x) := by
  unfold entry_Turned.l3.un at h
  obtain ⟨q0, eq0, h1⟩ := Option.bind_eq_some_iff.1 h
  obtain ⟨q1, eq1, h2⟩ := Option.bind_eq_some_iff.1 h1
  split at h2
  · cases h2
    refine fits_ren [(1003003, q0.1)] ?_ ?_ ren_one rfl
    · exact List.forall_mem_cons.2 ⟨FV.one (tip_Sapi_Line_fit eq0 rfl).1, List.forall_mem_cons.2 ⟨FV.one (row_Sapi_Line_fit eq1), List.forall_mem_cons.2 ⟨FV.one (FV.same (by assumption) rfl), List.forall_mem_cons.2 ⟨FV.one (FV.same (by assumption) rfl), fun _ hp => (List.not_mem_nil hp).elim⟩⟩⟩⟩
    · exact List.forall_mem_cons.2 ⟨(tip_Sapi_Line_fit eq0 rfl).2, fun _ hp => (List.not_mem_nil hp).elim⟩
  · cases h2
theorem entry_Turned.l3.fitO (o : Out U) (y : List Sapi_Line) (h : entry_Turned.l3.re o = some y) : FitsO o (entry_Turned.l3.fin y) := by
  unfold entry_Turned.l3.re at h
  split at h
  · obtain ⟨q0, eq0, h1⟩ := Option.bind_eq_some_iff.1 h
    cases h1
    refine fitsO_exit (fits_ren [(1003003, q0.1)] ?_ ?_ ren_one rfl)
    · exact List.forall_mem_cons.2 ⟨FV.one (tip_Sapi_Line_fit eq0 rfl).1, fun _ hp => (List.not_mem_nil hp).elim⟩
    · exact List.forall_mem_cons.2 ⟨(tip_Sapi_Line_fit eq0 rfl).2, fun _ hp => (List.not_mem_nil hp).elim⟩
  · cases h
theorem entry_Turned.l3.sound (k : Nat) : LSound (entry_Turned.E k) Try.f81.ntmps Try.f81 (loopAt Try.f81 3) (entry_Turned.l3.L k) :=
  loop_sound (entry_Turned.ok k) mixed rfl (by kernel_rfl) (allL_of (l := []) (by kernel_rfl) allL_nil) entry_Turned.l3.un entry_Turned.l3.mk entry_Turned.l3.fin entry_Turned.l3.re (entry_Turned.l3.once k) k entry_Turned.l3.fit entry_Turned.l3.fitO (entry_Turned.l3.eq k) entry_Turned.l3.finK entry_Turned.l3.finK_eq
theorem entry_Turned.eq (k : Nat) (x : List Sapi_Line) : runF (entry_Turned.E k) (codeOf Try.f81) (entry_Turned.mk x) entry_Turned.re = (entry_Turned.D k).f x := by kernel_rfl
theorem entry_Turned.fit (s : St U) (x : List Sapi_Line) (h : entry_Turned.un s = some x) : Fits s (entry_Turned.mk x) := by
  unfold entry_Turned.un at h
  split at h
  · cases h
    refine fits_ren [] ?_ ?_ ren_nil rfl
    · exact List.forall_mem_cons.2 ⟨FV.one (FV.same (by assumption) rfl), fun _ hp => (List.not_mem_nil hp).elim⟩
    · exact fun _ hp => (List.not_mem_nil hp).elim
  · cases h
theorem entry_Turned.fitR (s : St U) (y : List Sapi_Line) (h : entry_Turned.re s = some y) : Fits s (entry_Turned.fin y) := by
  unfold entry_Turned.re at h
  split at h
  · cases h
    refine fits_ren [] ?_ ?_ ren_nil rfl
    · exact List.forall_mem_cons.2 ⟨FV.one (FV.same (by assumption) rfl), fun _ hp => (List.not_mem_nil hp).elim⟩
    · exact fun _ hp => (List.not_mem_nil hp).elim
  · cases h
theorem entry_Turned.sound (k : Nat) : Sound Try.prog DD 81 (entry_Turned.D k) :=
  fun_sound (E := entry_Turned.E k) (fn := Try.f81) (c := codeOf Try.f81) (entry_Turned.ok k) mixed rfl Try.func81 (by kernel_rfl) (by kernel_rfl) (allL_of (l := [loopAt Try.f81 3]) (by kernel_rfl) (allL_cons (key := 3) (by kernel_rfl) rfl (entry_Turned.l3.sound k) allL_nil)) (entry_Turned.D k) entry_Turned.mk entry_Turned.re (by kernel_rfl) (by kernel_rfl) entry_Turned.fit entry_Turned.fitR (entry_Turned.eq k)
/-! ### (*pyx/ledger.Book).Reverse: function 34 -/
noncomputable def ledger_Book_Reverse.f (k : Nat) (a0 : Sledger_Book) (a1 : Int) (a2 : Int) : Option (Int × Int × Sledger_Book) := ((cond (decide (a1 < 0)) (some (a2, true, a0.f_scale, a0.f_l, (⟨pack 12 false a0.f_t.f_Closed, pack 12 0 a0.f_t.f_Version⟩ : Speriod_Table), a1)) (some (a2, decide (a1 ≥ (List.length a0.f_l : Int)), a0.f_scale, a0.f_l, (⟨pack 12 false a0.f_t.f_Closed, pack 12 0 a0.f_t.f_Version⟩ : Speriod_Table), a1))) : Option (Int × Bool × Int × List Sapi_Entry × Speriod_Table × Int)).bind fun y31 => (cond (y31.2.1) (some (0, 10, (⟨y31.2.2.1, y31.2.2.2.1, (⟨pack 12 false y31.2.2.2.2.1.f_Closed, pack 12 0 y31.2.2.2.2.1.f_Version⟩ : Speriod_Table)⟩ : Sledger_Book))) (((cond (inb y31.2.2.2.2.2 (List.length y31.2.2.2.1)) (cond (decide (((List.getD y31.2.2.2.1 (Int.toNat y31.2.2.2.2.2) Sapi_Entry.zero).f_Of) ≥ 0)) (some (y31.1, y31.2.2.2.2.2, true, y31.2.2.1, y31.2.2.2.1, (⟨pack 12 false y31.2.2.2.2.1.f_Closed, pack 12 0 y31.2.2.2.2.1.f_Version⟩ : Speriod_Table))) ((slices_ContainsFunc_api_Entry_c80.f k y31.2.2.2.1 y31.2.2.2.2.2).bind fun t62 => (some (y31.1, y31.2.2.2.2.2, t62, y31.2.2.1, y31.2.2.2.1, (⟨pack 12 false y31.2.2.2.2.1.f_Closed, pack 12 0 y31.2.2.2.2.1.f_Version⟩ : Speriod_Table))))) none) : Option (Int × Int × Bool × Int × List Sapi_Entry × Speriod_Table)).bind fun y63 => (cond (y63.2.2.1) (some (0, 13, (⟨y63.2.2.2.1, y63.2.2.2.2.1, (⟨pack 12 false y63.2.2.2.2.2.f_Closed, pack 12 0 y63.2.2.2.2.2.f_Version⟩ : Speriod_Table)⟩ : Sledger_Book))) (cond (inb y63.2.1 (List.length y63.2.2.2.2.1)) ((entry_Turned.f k ((List.getD y63.2.2.2.2.1 (Int.toNat y63.2.1) Sapi_Entry.zero).f_Lines)).bind fun t64 => ((ledger_Book_add.f k (⟨y63.2.2.2.1, y63.2.2.2.2.1, (⟨pack 12 false y63.2.2.2.2.2.f_Closed, pack 12 0 y63.2.2.2.2.2.f_Version⟩ : Speriod_Table)⟩ : Sledger_Book) (⟨y63.1, t64, y63.2.1⟩ : Sapi_Entry)).bind fun t65 => (some (t65.1, t65.2.1, (⟨t65.2.2.f_scale, t65.2.2.f_l, (⟨pack 12 false t65.2.2.f_t.f_Closed, pack 12 0 t65.2.2.f_t.f_Version⟩ : Speriod_Table)⟩ : Sledger_Book))))) none))))
noncomputable def ledger_Book_Reverse.un (s : St U) : Option (Sledger_Book × Int × Int) := match s.get 0, lk s.o 7000000000000, s.get 1, s.get 2, s.get 1000000000000000 with | .ptr 7000000000000 0, some (.lit (.flat (.int .i64 x1) :: x5 :: x3)), .flat (.int .i64 x6), .flat (.int .i64 x7), .ptr 7000000000000 0 => (tip_Sapi_Entry s.o 3 x5).bind fun ex2 => ((cd_Speriod_Table.full x3).bind fun x4 => (some ((⟨x1, ex2.2, x4⟩ : Sledger_Book), x6, x7))) | _, _, _, _, _ => none
noncomputable def ledger_Book_Reverse.mk (x : (Sledger_Book × Int × Int)) : St U := ⟨[(0, .ptr 7000000000000 0), (1, .flat (.int .i64 x.2.1)), (2, .flat (.int .i64 x.2.2)), (1000000000000000, .ptr 7000000000000 0)], [(7000000000000, .lit ((.flat (.int .i64 x.1.f_scale)) :: (.tip 7000000000002 C.Sapi_Entry x.1.f_l) :: cd_Speriod_Table.enc x.1.f_t)), (7000000000002, .tip 3)]⟩
noncomputable def ledger_Book_Reverse.fin (y : (Int × Int × Sledger_Book)) : St U := ⟨[(0, .tup [.flat (.int .i64 y.1), .flat (.int .i64 y.2.1)]), (1000000000000000, .ptr 7000000000000 0)], [(7000000000000, .lit ((.flat (.int .i64 y.2.2.f_scale)) :: (.tip 7000000000002 C.Sapi_Entry y.2.2.f_l) :: cd_Speriod_Table.enc y.2.2.f_t)), (7000000000002, .tip 3)]⟩
noncomputable def ledger_Book_Reverse.D (k : Nat) : FDen U := { X := (Sledger_Book × Int × Int), Y := (Int × Int × Sledger_Book), nt := 57, gh := [0], un := ledger_Book_Reverse.un, f := fun x => ledger_Book_Reverse.f k (x.1) (x.2.1) (x.2.2), fin := ledger_Book_Reverse.fin, cl := false, clo := fun h => by cases h }
noncomputable def ledger_Book_Reverse.re (s : St U) : Option (Int × Int × Sledger_Book) := match s.get 0, s.get 1000000000000000, lk s.o 7000000000000 with | .tup [.flat (.int .i64 x1), .flat (.int .i64 x2)], .ptr 7000000000000 0, some (.lit (.flat (.int .i64 x3) :: x7 :: x5)) => (tip_Sapi_Entry s.o 3 x7).bind fun ex4 => ((cd_Speriod_Table.full x5).bind fun x6 => (some (x1, x2, (⟨x3, ex4.2, x6⟩ : Sledger_Book)))) | _, _, _ => none
noncomputable def ledger_Book_Reverse.j3000.fin (y : (Int × Bool × Int × List Sapi_Entry × Speriod_Table × Int)) : Out U := match y with | (x28, x30, x1, x2, x27, x29) => .norm ⟨[(0, .ptr 7000000000000 0), (4, .ptr 4 0), (1000000000000000, .ptr 7000000000000 0), (2, .flat (.int .i64 x28)), (11, .flat (.bool x30))], [(7000000000000, .lit ((.flat (.int .i64 x1)) :: (.tip 700102300000001 C.Sapi_Entry x2) :: cd_Speriod_Table.enc x27)), (700102300000001, .tip 3), (4, .lit [.flat (.int .i64 x29)])]⟩
noncomputable def ledger_Book_Reverse.j3000.finK {ρ : Type} (y : (Int × Bool × Int × List Sapi_Entry × Speriod_Table × Int)) (K : Out U → Option ρ) : Option ρ := match y with | (x28, x30, x1, x2, x27, x29) => K (.norm ⟨[(0, .ptr 7000000000000 0), (4, .ptr 4 0), (1000000000000000, .ptr 7000000000000 0), (2, .flat (.int .i64 x28)), (11, .flat (.bool x30))], [(7000000000000, .lit ((.flat (.int .i64 x1)) :: (.tip 700102300000001 C.Sapi_Entry x2) :: cd_Speriod_Table.enc x27)), (700102300000001, .tip 3), (4, .lit [.flat (.int .i64 x29)])]⟩)
theorem ledger_Book_Reverse.j3000.finK_eq {ρ : Type} (y : (Int × Bool × Int × List Sapi_Entry × Speriod_Table × Int)) (K : Out U → Option ρ) : ledger_Book_Reverse.j3000.finK y K = K (ledger_Book_Reverse.j3000.fin y) := by
  unfold ledger_Book_Reverse.j3000.finK ledger_Book_Reverse.j3000.fin
  first | rfl | (split <;> rfl)
noncomputable def ledger_Book_Reverse.j3000.re : Out U → Option ((Int × Bool × Int × List Sapi_Entry × Speriod_Table × Int)) | .norm s => (match s.get 0, s.get 4, s.get 1000000000000000, s.get 2, s.get 11, lk s.o 7000000000000, lk s.o 4 with | .ptr 7000000000000 0, .ptr 4 0, .ptr 7000000000000 0, .flat (.int .i64 x28), .flat (.bool x30), some (.lit (.flat (.int .i64 x1) :: u7000000000000_1 :: u7000000000000_t)), some (.lit [.flat (.int .i64 x29)]) => (tip_Sapi_Entry s.o 3 u7000000000000_1).bind fun w7000000000000_1 => ((cd_Speriod_Table.full u7000000000000_t).bind fun w7000000000000_t => (some (x28, x30, x1, w7000000000000_1.2, w7000000000000_t, x29))) | _, _, _, _, _, _, _ => none) | _ => none
noncomputable def ledger_Book_Reverse.j3000.J : JDen U := { Y := (Int × Bool × Int × List Sapi_Entry × Speriod_Table × Int), re := ledger_Book_Reverse.j3000.re, fin := ledger_Book_Reverse.j3000.fin, finK := ledger_Book_Reverse.j3000.finK, finK_eq := ledger_Book_Reverse.j3000.finK_eq }
theorem ledger_Book_Reverse.j3000.fit (o : Out U) (y : (Int × Bool × Int × List Sapi_Entry × Speriod_Table × Int)) (h : ledger_Book_Reverse.j3000.re o = some y) : FitsO o (ledger_Book_Reverse.j3000.fin y) := by
  unfold ledger_Book_Reverse.j3000.re at h
  split at h
  · split at h
    · obtain ⟨w7000000000000_1, ew7000000000000_1, h1⟩ := Option.bind_eq_some_iff.1 h
      obtain ⟨w7000000000000_t, ew7000000000000_t, h2⟩ := Option.bind_eq_some_iff.1 h1
      cases h2
      refine fitsO_norm (fits_ren [(700102300000001, w7000000000000_1.1)] ?_ ?_ ren_one rfl)
      · exact List.forall_mem_cons.2 ⟨FV.one (FV.ptr (by assumption)), List.forall_mem_cons.2 ⟨FV.one (FV.ptr (by assumption)), List.forall_mem_cons.2 ⟨FV.one (FV.ptr (by assumption)), List.forall_mem_cons.2 ⟨FV.one (FV.same (by assumption) rfl), List.forall_mem_cons.2 ⟨FV.one (FV.same (by assumption) rfl), fun _ hp => (List.not_mem_nil hp).elim⟩⟩⟩⟩⟩
      · exact List.forall_mem_cons.2 ⟨(FO.cells (show lk (St.o _) 7000000000000 = some _ from by assumption) (FCs.cons (c0_same rfl rfl) (FCs.cons ((tip_Sapi_Entry_fit ew7000000000000_1 rfl).1) (FCs.tail (Cd.full_ok ew7000000000000_t) rfl)))), List.forall_mem_cons.2 ⟨(tip_Sapi_Entry_fit ew7000000000000_1 rfl).2, List.forall_mem_cons.2 ⟨(FO.same (show lk (St.o _) 4 = some _ from by assumption) rfl), fun _ hp => (List.not_mem_nil hp).elim⟩⟩⟩
    · cases h
  · cases h
noncomputable def ledger_Book_Reverse.j5000.fin (y : (Int × Int × Bool × Int × List Sapi_Entry × Speriod_Table)) : Out U := match y with | (x59, x60, x61, x32, x33, x58) => .norm ⟨[(0, .ptr 7000000000000 0), (1000000000000000, .ptr 7000000000000 0), (2, .flat (.int .i64 x59)), (4, .rp [.flat (.int .i64 x60)] 0), (23, .flat (.bool x61))], [(7000000000000, .lit ((.flat (.int .i64 x32)) :: (.tip 700102500000001 C.Sapi_Entry x33) :: cd_Speriod_Table.enc x58)), (700102500000001, .tip 3)]⟩
noncomputable def ledger_Book_Reverse.j5000.finK {ρ : Type} (y : (Int × Int × Bool × Int × List Sapi_Entry × Speriod_Table)) (K : Out U → Option ρ) : Option ρ := match y with | (x59, x60, x61, x32, x33, x58) => K (.norm ⟨[(0, .ptr 7000000000000 0), (1000000000000000, .ptr 7000000000000 0), (2, .flat (.int .i64 x59)), (4, .rp [.flat (.int .i64 x60)] 0), (23, .flat (.bool x61))], [(7000000000000, .lit ((.flat (.int .i64 x32)) :: (.tip 700102500000001 C.Sapi_Entry x33) :: cd_Speriod_Table.enc x58)), (700102500000001, .tip 3)]⟩)
theorem ledger_Book_Reverse.j5000.finK_eq {ρ : Type} (y : (Int × Int × Bool × Int × List Sapi_Entry × Speriod_Table)) (K : Out U → Option ρ) : ledger_Book_Reverse.j5000.finK y K = K (ledger_Book_Reverse.j5000.fin y) := by
  unfold ledger_Book_Reverse.j5000.finK ledger_Book_Reverse.j5000.fin
  first | rfl | (split <;> rfl)
noncomputable def ledger_Book_Reverse.j5000.re : Out U → Option ((Int × Int × Bool × Int × List Sapi_Entry × Speriod_Table)) | .norm s => (match s.get 0, s.get 1000000000000000, s.get 2, s.get 4, s.get 23, lk s.o 7000000000000 with | .ptr 7000000000000 0, .ptr 7000000000000 0, .flat (.int .i64 x59), .rp [.flat (.int .i64 x60)] 0, .flat (.bool x61), some (.lit (.flat (.int .i64 x32) :: u7000000000000_1 :: u7000000000000_t)) => (tip_Sapi_Entry s.o 3 u7000000000000_1).bind fun w7000000000000_1 => ((cd_Speriod_Table.full u7000000000000_t).bind fun w7000000000000_t => (some (x59, x60, x61, x32, w7000000000000_1.2, w7000000000000_t))) | _, _, _, _, _, _ => none) | _ => none
noncomputable def ledger_Book_Reverse.j5000.J : JDen U := { Y := (Int × Int × Bool × Int × List Sapi_Entry × Speriod_Table), re := ledger_Book_Reverse.j5000.re, fin := ledger_Book_Reverse.j5000.fin, finK := ledger_Book_Reverse.j5000.finK, finK_eq := ledger_Book_Reverse.j5000.finK_eq }
theorem ledger_Book_Reverse.j5000.fit (o : Out U) (y : (Int × Int × Bool × Int × List Sapi_Entry × Speriod_Table)) (h : ledger_Book_Reverse.j5000.re o = some y) : FitsO o (ledger_Book_Reverse.j5000.fin y) := by
  unfold ledger_Book_Reverse.j5000.re at h
  split at h
  · split at h
    · obtain ⟨w7000000000000_1, ew7000000000000_1, h1⟩ := Option.bind_eq_some_iff.1 h
      obtain ⟨w7000000000000_t, ew7000000000000_t, h2⟩ := Option.bind_eq_some_iff.1 h1
      cases h2
      refine fitsO_norm (fits_ren [(700102500000001, w7000000000000_1.1)] ?_ ?_ ren_one rfl)
      · exact List.forall_mem_cons.2 ⟨FV.one (FV.ptr (by assumption)), List.forall_mem_cons.2 ⟨FV.one (FV.ptr (by assumption)), List.forall_mem_cons.2 ⟨FV.one (FV.same (by assumption) rfl), List.forall_mem_cons.2 ⟨FV.one (FV.same (by assumption) rfl), List.forall_mem_cons.2 ⟨FV.one (FV.same (by assumption) rfl), fun _ hp => (List.not_mem_nil hp).elim⟩⟩⟩⟩⟩
      · exact List.forall_mem_cons.2 ⟨(FO.cells (show lk (St.o _) 7000000000000 = some _ from by assumption) (FCs.cons (c0_same rfl rfl) (FCs.cons ((tip_Sapi_Entry_fit ew7000000000000_1 rfl).1) (FCs.tail (Cd.full_ok ew7000000000000_t) rfl)))), List.forall_mem_cons.2 ⟨(tip_Sapi_Entry_fit ew7000000000000_1 rfl).2, fun _ hp => (List.not_mem_nil hp).elim⟩⟩
    · cases h
  · cases h
noncomputable def ledger_Book_Reverse.jl : List (Nat × JDen U) := [(3000, ledger_Book_Reverse.j3000.J), (5000, ledger_Book_Reverse.j5000.J)]
noncomputable def ledger_Book_Reverse.fl (k : Nat) : List (Nat × FDen U) := [(79, slices_ContainsFunc_api_Entry_c80.D k), (81, entry_Turned.D k), (72, ledger_Book_add.D k)]
noncomputable def ledger_Book_Reverse.ll (k : Nat) : List (Nat × LDen U) := []
noncomputable def ledger_Book_Reverse.E (k : Nat) : Env U := { P := Try.prog, D := DD, fd := lk (ledger_Book_Reverse.fl k), ld := lk (ledger_Book_Reverse.ll k), jd := lk ledger_Book_Reverse.jl, mode := lk [], elc := lk ec, mpc := lk mc, rts := Try.f34.resultTypes.toList, dyn := fun t => false, vecs := fun d => false, results := Try.f34.results.toList, gh := [0], own := false, io := fun g i => false }
theorem ledger_Book_Reverse.ok (k : Nat) : EnvOk (ledger_Book_Reverse.E k) := envOk lawful (ledger_Book_Reverse.fl k) (ledger_Book_Reverse.ll k) ledger_Book_Reverse.jl _ _ _ _ _ _ _ _ _ _ (by
  intro p hp
  simp only [ledger_Book_Reverse.fl, List.mem_cons, List.not_mem_nil, or_false] at hp
  rcases hp with rfl | rfl | rfl
  · exact ⟨slices_ContainsFunc_api_Entry_c80.sound k, enter_of Try.func79 (by kernel_rfl) (by kernel_rfl)⟩
  · exact ⟨entry_Turned.sound k, enter_of Try.func81 (by kernel_rfl) (by kernel_rfl)⟩
  · exact ⟨ledger_Book_add.sound k, enter_of Try.func72 (by kernel_rfl) (by kernel_rfl)⟩) (by
  intro p hp
  simp only [ledger_Book_Reverse.jl, List.mem_cons, List.not_mem_nil, or_false] at hp
  rcases hp with rfl | rfl
  · exact ledger_Book_Reverse.j3000.fit
  · exact ledger_Book_Reverse.j5000.fit)
theorem ledger_Book_Reverse.eq (k : Nat) (x : (Sledger_Book × Int × Int)) : runF (ledger_Book_Reverse.E k) (codeOf Try.f34) (ledger_Book_Reverse.mk x) ledger_Book_Reverse.re = (ledger_Book_Reverse.D k).f x := by kernel_rfl
theorem ledger_Book_Reverse.fit (s : St U) (x : (Sledger_Book × Int × Int)) (h : ledger_Book_Reverse.un s = some x) : Fits s (ledger_Book_Reverse.mk x) := by
  unfold ledger_Book_Reverse.un at h
  split at h
  · obtain ⟨ex2, hex2, hh1⟩ := Option.bind_eq_some_iff.1 h
    obtain ⟨x4, hx4, hh2⟩ := Option.bind_eq_some_iff.1 hh1
    cases hh2
    refine fits_ren [(7000000000002, ex2.1)] ?_ ?_ ren_one rfl
    · exact List.forall_mem_cons.2 ⟨FV.one (FV.ptr (by assumption)), List.forall_mem_cons.2 ⟨FV.one (FV.same (by assumption) rfl), List.forall_mem_cons.2 ⟨FV.one (FV.same (by assumption) rfl), List.forall_mem_cons.2 ⟨FV.one (FV.ptr (by assumption)), fun _ hp => (List.not_mem_nil hp).elim⟩⟩⟩⟩
    · exact List.forall_mem_cons.2 ⟨FO.cells (show lk (St.o _) 7000000000000 = some _ from by assumption) (FCs.cons (c0_same rfl rfl) (FCs.cons ((tip_Sapi_Entry_fit hex2 rfl).1) (FCs.tail (Cd.full_ok hx4) rfl))), List.forall_mem_cons.2 ⟨(tip_Sapi_Entry_fit hex2 rfl).2, fun _ hp => (List.not_mem_nil hp).elim⟩⟩
  · cases h
theorem ledger_Book_Reverse.fitR (s : St U) (y : (Int × Int × Sledger_Book)) (h : ledger_Book_Reverse.re s = some y) : Fits s (ledger_Book_Reverse.fin y) := by
  unfold ledger_Book_Reverse.re at h
  split at h
  · obtain ⟨ex4, hex4, hh1⟩ := Option.bind_eq_some_iff.1 h
    obtain ⟨x6, hx6, hh2⟩ := Option.bind_eq_some_iff.1 hh1
    cases hh2
    refine fits_ren [(7000000000002, ex4.1)] ?_ ?_ ren_one rfl
    · exact List.forall_mem_cons.2 ⟨FV.tup (by assumption) (FTs.cons (FVA.one (FV.same rfl rfl)) (FTs.cons (FVA.one (FV.same rfl rfl)) (FTs.nil))), List.forall_mem_cons.2 ⟨FV.one (FV.ptr (by assumption)), fun _ hp => (List.not_mem_nil hp).elim⟩⟩
    · exact List.forall_mem_cons.2 ⟨FO.cells (show lk (St.o _) 7000000000000 = some _ from by assumption) (FCs.cons (c0_same rfl rfl) (FCs.cons ((tip_Sapi_Entry_fit hex4 rfl).1) (FCs.tail (Cd.full_ok hx6) rfl))), List.forall_mem_cons.2 ⟨(tip_Sapi_Entry_fit hex4 rfl).2, fun _ hp => (List.not_mem_nil hp).elim⟩⟩
  · cases h
theorem ledger_Book_Reverse.sound (k : Nat) : Sound Try.prog DD 34 (ledger_Book_Reverse.D k) :=
  fun_sound (E := ledger_Book_Reverse.E k) (fn := Try.f34) (c := codeOf Try.f34) (ledger_Book_Reverse.ok k) mixed rfl Try.func34 (by kernel_rfl) (by kernel_rfl) (allL_of (l := []) (by kernel_rfl) allL_nil) (ledger_Book_Reverse.D k) ledger_Book_Reverse.mk ledger_Book_Reverse.re (by kernel_rfl) (by kernel_rfl) ledger_Book_Reverse.fit ledger_Book_Reverse.fitR (ledger_Book_Reverse.eq k)
/-! ### pyx/period.Close: function 78 -/
noncomputable def period_Close.f (k : Nat) (a0 : Speriod_Table) (a1 : Int) : Option (Speriod_Table × Int) := (((period_IsOpen.f k (⟨pack 12 false a0.f_Closed, pack 12 0 a0.f_Version⟩ : Speriod_Table) a1).bind fun t1 => (cond (!t1) (some (a1, true, (⟨pack 12 false a0.f_Closed, pack 12 0 a0.f_Version⟩ : Speriod_Table), (⟨[false, false, false, false, false, false, false, false, false, false, false, false], [0, 0, 0, 0, 0, 0, 0, 0, 0, 0, 0, 0]⟩ : Speriod_Table))) (cond (decide (a1 > 0)) (cond (inb (IntKind.wrap .i64 (a1 - 1)) 12) (cond (Nat.blt (Int.toNat (IntKind.wrap .i64 (a1 - 1))) 12) (some (a1, !(List.getD (pack 12 false a0.f_Closed) (Int.toNat (IntKind.wrap .i64 (a1 - 1))) false), (⟨pack 12 false a0.f_Closed, pack 12 0 a0.f_Version⟩ : Speriod_Table), (⟨[false, false, false, false, false, false, false, false, false, false, false, false], [0, 0, 0, 0, 0, 0, 0, 0, 0, 0, 0, 0]⟩ : Speriod_Table))) none) none) (some (a1, false, (⟨pack 12 false a0.f_Closed, pack 12 0 a0.f_Version⟩ : Speriod_Table), (⟨[false, false, false, false, false, false, false, false, false, false, false, false], [0, 0, 0, 0, 0, 0, 0, 0, 0, 0, 0, 0]⟩ : Speriod_Table)))))) : Option (Int × Bool × Speriod_Table × Speriod_Table)).bind fun y6 => (cond (y6.2.1) (some ((⟨[false, false, false, false, false, false, false, false, false, false, false, false], [0, 0, 0, 0, 0, 0, 0, 0, 0, 0, 0, 0]⟩ : Speriod_Table), 8)) (cond (inb y6.1 12) (cond (Nat.blt (Int.toNat y6.1) 12) (cond (inb y6.1 12) (cond (Nat.blt (Int.toNat y6.1) 12) (cond (inb y6.1 12) (cond (Nat.blt (Int.toNat y6.1) 12) (some ((⟨putAll (Int.toNat y6.1) true 0 (pack 12 false y6.2.2.1.f_Closed), putAll (Int.toNat y6.1) (IntKind.wrap .i64 ((List.getD (pack 12 0 y6.2.2.1.f_Version) (Int.toNat y6.1) 0) + 1)) 0 (pack 12 0 y6.2.2.1.f_Version)⟩ : Speriod_Table), 0)) none) none) none) none) none) none))
noncomputable def period_Close.un (s : St U) : Option (Speriod_Table × Int) := match s.get 0, s.get 1 with | .agg x1, .flat (.int .i64 x3) => (cd_Speriod_Table.full x1).bind fun x2 => (some (x2, x3)) | _, _ => none
noncomputable def period_Close.mk (x : (Speriod_Table × Int)) : St U := ⟨[(0, .agg (cd_Speriod_Table.enc x.1)), (1, .flat (.int .i64 x.2))], []⟩
noncomputable def period_Close.fin (y : (Speriod_Table × Int)) : St U := ⟨[(0, .tup [.agg (cd_Speriod_Table.enc y.1), .flat (.int .i64 y.2)])], []⟩
noncomputable def period_Close.D (k : Nat) : FDen U := { X := (Speriod_Table × Int), Y := (Speriod_Table × Int), nt := 34, gh := [], un := period_Close.un, f := fun x => period_Close.f k (x.1) (x.2), fin := period_Close.fin, cl := true, clo := fun _ _ => rfl }
noncomputable def period_Close.re (s : St U) : Option (Speriod_Table × Int) := match s.get 0 with | .tup [.agg x1, .flat (.int .i64 x3)] => (cd_Speriod_Table.full x1).bind fun x2 => (some (x2, x3)) | _ => none
noncomputable def period_Close.j1000.fin (y : (Int × Bool × Speriod_Table × Speriod_Table)) : Out U := match y with | (x2, x5, x3, x4) => .norm ⟨[(2, .ptr 2 0), (4, .ptr 4 0), (1, .flat (.int .i64 x2)), (21, .flat (.bool x5))], [(2, .lit (cd_Speriod_Table.enc x3)), (4, .lit (cd_Speriod_Table.enc x4))]⟩
noncomputable def period_Close.j1000.finK {ρ : Type} (y : (Int × Bool × Speriod_Table × Speriod_Table)) (K : Out U → Option ρ) : Option ρ := match y with | (x2, x5, x3, x4) => K (.norm ⟨[(2, .ptr 2 0), (4, .ptr 4 0), (1, .flat (.int .i64 x2)), (21, .flat (.bool x5))], [(2, .lit (cd_Speriod_Table.enc x3)), (4, .lit (cd_Speriod_Table.enc x4))]⟩)
theorem period_Close.j1000.finK_eq {ρ : Type} (y : (Int × Bool × Speriod_Table × Speriod_Table)) (K : Out U → Option ρ) : period_Close.j1000.finK y K = K (period_Close.j1000.fin y) := by
  unfold period_Close.j1000.finK period_Close.j1000.fin
  first | rfl | (split <;> rfl)
noncomputable def period_Close.j1000.re : Out U → Option ((Int × Bool × Speriod_Table × Speriod_Table)) | .norm s => ((Cd.ofLit cd_Speriod_Table s.o 2).bind fun q0 => ((Cd.ofLit cd_Speriod_Table s.o 4).bind fun q1 => (match s.get 2, s.get 4, s.get 1, s.get 21 with | .ptr 2 0, .ptr 4 0, .flat (.int .i64 x2), .flat (.bool x5) => some (x2, x5, q0, q1) | _, _, _, _ => none))) | _ => none
noncomputable def period_Close.j1000.J : JDen U := { Y := (Int × Bool × Speriod_Table × Speriod_Table), re := period_Close.j1000.re, fin := period_Close.j1000.fin, finK := period_Close.j1000.finK, finK_eq := period_Close.j1000.finK_eq }
theorem period_Close.j1000.fit (o : Out U) (y : (Int × Bool × Speriod_Table × Speriod_Table)) (h : period_Close.j1000.re o = some y) : FitsO o (period_Close.j1000.fin y) := by
  unfold period_Close.j1000.re at h
  split at h
  · obtain ⟨q0, eq0, h1⟩ := Option.bind_eq_some_iff.1 h
    obtain ⟨q1, eq1, h2⟩ := Option.bind_eq_some_iff.1 h1
    split at h2
    · cases h2
      refine fitsO_norm (fits_ren [] ?_ ?_ ren_nil rfl)
      · exact List.forall_mem_cons.2 ⟨FV.one (FV.ptr (by assumption)), List.forall_mem_cons.2 ⟨FV.one (FV.ptr (by assumption)), List.forall_mem_cons.2 ⟨FV.one (FV.same (by assumption) rfl), List.forall_mem_cons.2 ⟨FV.one (FV.same (by assumption) rfl), fun _ hp => (List.not_mem_nil hp).elim⟩⟩⟩⟩
      · exact List.forall_mem_cons.2 ⟨(FO.same (Cd.ofLit_ok eq0) rfl), List.forall_mem_cons.2 ⟨(FO.same (Cd.ofLit_ok eq1) rfl), fun _ hp => (List.not_mem_nil hp).elim⟩⟩
    · cases h2
  · cases h
noncomputable def period_Close.jl : List (Nat × JDen U) := [(1000, period_Close.j1000.J)]
noncomputable def period_Close.fl (k : Nat) : List (Nat × FDen U) := [(121, period_IsOpen.D k)]
noncomputable def period_Close.ll (k : Nat) : List (Nat × LDen U) := []
noncomputable def period_Close.E (k : Nat) : Env U := { P := Try.prog, D := DD, fd := lk (period_Close.fl k), ld := lk (period_Close.ll k), jd := lk period_Close.jl, mode := lk [], elc := lk ec, mpc := lk mc, rts := Try.f78.resultTypes.toList, dyn := fun t => Nat.beq t 90 || Nat.beq t 91, vecs := fun d => false, results := Try.f78.results.toList, gh := [], own := false, io := fun g i => false }
theorem period_Close.ok (k : Nat) : EnvOk (period_Close.E k) := envOk lawful (period_Close.fl k) (period_Close.ll k) period_Close.jl _ _ _ _ _ _ _ _ _ _ (by
  intro p hp
  simp only [period_Close.fl, List.mem_cons, List.not_mem_nil, or_false] at hp
  rcases hp with rfl
  · exact ⟨period_IsOpen.sound k, enter_of Try.func121 (by kernel_rfl) (by kernel_rfl)⟩) (by
  intro p hp
  simp only [period_Close.jl, List.mem_cons, List.not_mem_nil, or_false] at hp
  rcases hp with rfl
  · exact period_Close.j1000.fit)
theorem period_Close.eq (k : Nat) (x : (Speriod_Table × Int)) : runF (period_Close.E k) (codeOf Try.f78) (period_Close.mk x) period_Close.re = (period_Close.D k).f x := by kernel_rfl
theorem period_Close.fit (s : St U) (x : (Speriod_Table × Int)) (h : period_Close.un s = some x) : Fits s (period_Close.mk x) := by
  unfold period_Close.un at h
  split at h
  · obtain ⟨x2, hx2, hh1⟩ := Option.bind_eq_some_iff.1 h
    have hc1 := Cd.full_ok hx2
    clear hx2
    subst hc1
    cases hh1
    refine fits_ren [] ?_ ?_ ren_nil rfl
    · exact List.forall_mem_cons.2 ⟨FV.one (FV.same (by assumption) rfl), List.forall_mem_cons.2 ⟨FV.one (FV.same (by assumption) rfl), fun _ hp => (List.not_mem_nil hp).elim⟩⟩
    · exact fun _ hp => (List.not_mem_nil hp).elim
  · cases h
theorem period_Close.fitR (s : St U) (y : (Speriod_Table × Int)) (h : period_Close.re s = some y) : Fits s (period_Close.fin y) := by
  unfold period_Close.re at h
  split at h
  · obtain ⟨x2, hx2, hh1⟩ := Option.bind_eq_some_iff.1 h
    have hc1 := Cd.full_ok hx2
    clear hx2
    subst hc1
    cases hh1
    refine fits_ren [] ?_ ?_ ren_nil rfl
    · exact List.forall_mem_cons.2 ⟨FV.tup (by assumption) (FTs.cons (FVA.one (FV.same rfl rfl)) (FTs.cons (FVA.one (FV.same rfl rfl)) (FTs.nil))), fun _ hp => (List.not_mem_nil hp).elim⟩
    · exact fun _ hp => (List.not_mem_nil hp).elim
  · cases h
theorem period_Close.sound (k : Nat) : Sound Try.prog DD 78 (period_Close.D k) :=
  fun_sound (E := period_Close.E k) (fn := Try.f78) (c := codeOf Try.f78) (period_Close.ok k) mixed rfl Try.func78 (by kernel_rfl) (by kernel_rfl) (allL_of (l := []) (by kernel_rfl) allL_nil) (period_Close.D k) period_Close.mk period_Close.re (by kernel_rfl) (by kernel_rfl) period_Close.fit period_Close.fitR (period_Close.eq k)
/-! ### (*pyx/ledger.Book).turn: function 77 -/
noncomputable def ledger_Book_turn_c78.f (k : Nat) (a0 : Sledger_Book) (a1 : Unit) (a2 : Int) : Option (Int × Sledger_Book) := (period_Close.f k (⟨pack 12 false a0.f_t.f_Closed, pack 12 0 a0.f_t.f_Version⟩ : Speriod_Table) a2).bind fun t1 => (cond (t1.2 == 0) (some (t1.2, (⟨a0.f_scale, a0.f_l, (⟨pack 12 false t1.1.f_Closed, pack 12 0 t1.1.f_Version⟩ : Speriod_Table)⟩ : Sledger_Book))) (some (t1.2, (⟨a0.f_scale, a0.f_l, (⟨pack 12 false a0.f_t.f_Closed, pack 12 0 a0.f_t.f_Version⟩ : Speriod_Table)⟩ : Sledger_Book))))
noncomputable def ledger_Book_turn_c78.un (s : St U) : Option (Sledger_Book × Unit × Int) := match s.get 0, lk s.o 7000000000000, s.get 1, s.get 2, s.get 1000000000000000 with | .ptr 7000000000000 0, some (.lit (.flat (.int .i64 x1) :: x5 :: x3)), .fn 78 [], .flat (.int .i64 x6), .ptr 7000000000000 0 => (tip_Sapi_Entry s.o 3 x5).bind fun ex2 => ((cd_Speriod_Table.full x3).bind fun x4 => (some ((⟨x1, ex2.2, x4⟩ : Sledger_Book), (), x6))) | _, _, _, _, _ => none
noncomputable def ledger_Book_turn_c78.mk (x : (Sledger_Book × Unit × Int)) : St U := ⟨[(0, .ptr 7000000000000 0), (1, .fn 78 []), (2, .flat (.int .i64 x.2.2)), (1000000000000000, .ptr 7000000000000 0)], [(7000000000000, .lit ((.flat (.int .i64 x.1.f_scale)) :: (.tip 7000000000002 C.Sapi_Entry x.1.f_l) :: cd_Speriod_Table.enc x.1.f_t)), (7000000000002, .tip 3)]⟩
noncomputable def ledger_Book_turn_c78.fin (y : (Int × Sledger_Book)) : St U := ⟨[(0, .flat (.int .i64 y.1)), (1000000000000000, .ptr 7000000000000 0)], [(7000000000000, .lit ((.flat (.int .i64 y.2.f_scale)) :: (.tip 7000000000002 C.Sapi_Entry y.2.f_l) :: cd_Speriod_Table.enc y.2.f_t)), (7000000000002, .tip 3)]⟩
noncomputable def ledger_Book_turn_c78.D (k : Nat) : FDen U := { X := (Sledger_Book × Unit × Int), Y := (Int × Sledger_Book), nt := 28, gh := [0], un := ledger_Book_turn_c78.un, f := fun x => ledger_Book_turn_c78.f k (x.1) (x.2.1) (x.2.2), fin := ledger_Book_turn_c78.fin, cl := false, clo := fun h => by cases h }
noncomputable def ledger_Book_turn_c78.re (s : St U) : Option (Int × Sledger_Book) := match s.get 0, s.get 1000000000000000, lk s.o 7000000000000 with | .flat (.int .i64 x1), .ptr 7000000000000 0, some (.lit (.flat (.int .i64 x2) :: x6 :: x4)) => (tip_Sapi_Entry s.o 3 x6).bind fun ex3 => ((cd_Speriod_Table.full x4).bind fun x5 => (some (x1, (⟨x2, ex3.2, x5⟩ : Sledger_Book)))) | _, _, _ => none
noncomputable def ledger_Book_turn_c78.jl : List (Nat × JDen U) := []
noncomputable def ledger_Book_turn_c78.fl (k : Nat) : List (Nat × FDen U) := [(78, period_Close.D k)]
noncomputable def ledger_Book_turn_c78.ll (k : Nat) : List (Nat × LDen U) := []
noncomputable def ledger_Book_turn_c78.E (k : Nat) : Env U := { P := Try.prog, D := DD, fd := lk (ledger_Book_turn_c78.fl k), ld := lk (ledger_Book_turn_c78.ll k), jd := lk ledger_Book_turn_c78.jl, mode := lk [], elc := lk ec, mpc := lk mc, rts := Try.f77.resultTypes.toList, dyn := fun t => false, vecs := fun d => false, results := Try.f77.results.toList, gh := [0], own := false, io := fun g i => false }
theorem ledger_Book_turn_c78.ok (k : Nat) : EnvOk (ledger_Book_turn_c78.E k) := envOk lawful (ledger_Book_turn_c78.fl k) (ledger_Book_turn_c78.ll k) ledger_Book_turn_c78.jl _ _ _ _ _ _ _ _ _ _ (by
  intro p hp
  simp only [ledger_Book_turn_c78.fl, List.mem_cons, List.not_mem_nil, or_false] at hp
  rcases hp with rfl
  · exact ⟨period_Close.sound k, enter_of Try.func78 (by kernel_rfl) (by kernel_rfl)⟩) (by
  intro p hp
  simp [ledger_Book_turn_c78.jl] at hp)
theorem ledger_Book_turn_c78.eq (k : Nat) (x : (Sledger_Book × Unit × Int)) : runF (ledger_Book_turn_c78.E k) (codeOf Try.f77) (ledger_Book_turn_c78.mk x) ledger_Book_turn_c78.re = (ledger_Book_turn_c78.D k).f x := by kernel_rfl
theorem ledger_Book_turn_c78.fit (s : St U) (x : (Sledger_Book × Unit × Int)) (h : ledger_Book_turn_c78.un s = some x) : Fits s (ledger_Book_turn_c78.mk x) := by
  unfold ledger_Book_turn_c78.un at h
  split at h
  · obtain ⟨ex2, hex2, hh1⟩ := Option.bind_eq_some_iff.1 h
    obtain ⟨x4, hx4, hh2⟩ := Option.bind_eq_some_iff.1 hh1
    cases hh2
    refine fits_ren [(7000000000002, ex2.1)] ?_ ?_ ren_one rfl
    · exact List.forall_mem_cons.2 ⟨FV.one (FV.ptr (by assumption)), List.forall_mem_cons.2 ⟨FV.one (FV.same (by assumption) rfl), List.forall_mem_cons.2 ⟨FV.one (FV.same (by assumption) rfl), List.forall_mem_cons.2 ⟨FV.one (FV.ptr (by assumption)), fun _ hp => (List.not_mem_nil hp).elim⟩⟩⟩⟩
    · exact List.forall_mem_cons.2 ⟨FO.cells (show lk (St.o _) 7000000000000 = some _ from by assumption) (FCs.cons (c0_same rfl rfl) (FCs.cons ((tip_Sapi_Entry_fit hex2 rfl).1) (FCs.tail (Cd.full_ok hx4) rfl))), List.forall_mem_cons.2 ⟨(tip_Sapi_Entry_fit hex2 rfl).2, fun _ hp => (List.not_mem_nil hp).elim⟩⟩
  · cases h
theorem ledger_Book_turn_c78.fitR (s : St U) (y : (Int × Sledger_Book)) (h : ledger_Book_turn_c78.re s = some y) : Fits s (ledger_Book_turn_c78.fin y) := by
  unfold ledger_Book_turn_c78.re at h
  split at h
  · obtain ⟨ex3, hex3, hh1⟩ := Option.bind_eq_some_iff.1 h
    obtain ⟨x5, hx5, hh2⟩ := Option.bind_eq_some_iff.1 hh1
    cases hh2
    refine fits_ren [(7000000000002, ex3.1)] ?_ ?_ ren_one rfl
    · exact List.forall_mem_cons.2 ⟨FV.one (FV.same (by assumption) rfl), List.forall_mem_cons.2 ⟨FV.one (FV.ptr (by assumption)), fun _ hp => (List.not_mem_nil hp).elim⟩⟩
    · exact List.forall_mem_cons.2 ⟨FO.cells (show lk (St.o _) 7000000000000 = some _ from by assumption) (FCs.cons (c0_same rfl rfl) (FCs.cons ((tip_Sapi_Entry_fit hex3 rfl).1) (FCs.tail (Cd.full_ok hx5) rfl))), List.forall_mem_cons.2 ⟨(tip_Sapi_Entry_fit hex3 rfl).2, fun _ hp => (List.not_mem_nil hp).elim⟩⟩
  · cases h
theorem ledger_Book_turn_c78.sound (k : Nat) : Sound Try.prog DD 77 (ledger_Book_turn_c78.D k) :=
  fun_sound (E := ledger_Book_turn_c78.E k) (fn := Try.f77) (c := codeOf Try.f77) (ledger_Book_turn_c78.ok k) mixed rfl Try.func77 (by kernel_rfl) (by kernel_rfl) (allL_of (l := []) (by kernel_rfl) allL_nil) (ledger_Book_turn_c78.D k) ledger_Book_turn_c78.mk ledger_Book_turn_c78.re (by kernel_rfl) (by kernel_rfl) ledger_Book_turn_c78.fit ledger_Book_turn_c78.fitR (ledger_Book_turn_c78.eq k)
/-! ### (*pyx/ledger.Book).Close: function 33 -/
noncomputable def ledger_Book_Close.f (k : Nat) (a0 : Sledger_Book) (a1 : Int) : Option (Int × Sledger_Book) := (ledger_Book_turn_c78.f k (⟨a0.f_scale, a0.f_l, (⟨pack 12 false a0.f_t.f_Closed, pack 12 0 a0.f_t.f_Version⟩ : Speriod_Table)⟩ : Sledger_Book) () a1).bind fun t1 => (some (t1.1, (⟨t1.2.f_scale, t1.2.f_l, (⟨pack 12 false t1.2.f_t.f_Closed, pack 12 0 t1.2.f_t.f_Version⟩ : Speriod_Table)⟩ : Sledger_Book)))
noncomputable def ledger_Book_Close.un (s : St U) : Option (Sledger_Book × Int) := match s.get 0, lk s.o 7000000000000, s.get 1, s.get 1000000000000000 with | .ptr 7000000000000 0, some (.lit (.flat (.int .i64 x1) :: x5 :: x3)), .flat (.int .i64 x6), .ptr 7000000000000 0 => (tip_Sapi_Entry s.o 3 x5).bind fun ex2 => ((cd_Speriod_Table.full x3).bind fun x4 => (some ((⟨x1, ex2.2, x4⟩ : Sledger_Book), x6))) | _, _, _, _ => none
noncomputable def ledger_Book_Close.mk (x : (Sledger_Book × Int)) : St U := ⟨[(0, .ptr 7000000000000 0), (1, .flat (.int .i64 x.2)), (1000000000000000, .ptr 7000000000000 0)], [(7000000000000, .lit ((.flat (.int .i64 x.1.f_scale)) :: (.tip 7000000000002 C.Sapi_Entry x.1.f_l) :: cd_Speriod_Table.enc x.1.f_t)), (7000000000002, .tip 3)]⟩
noncomputable def ledger_Book_Close.fin (y : (Int × Sledger_Book)) : St U := ⟨[(0, .flat (.int .i64 y.1)), (1000000000000000, .ptr 7000000000000 0)], [(7000000000000, .lit ((.flat (.int .i64 y.2.f_scale)) :: (.tip 7000000000002 C.Sapi_Entry y.2.f_l) :: cd_Speriod_Table.enc y.2.f_t)), (7000000000002, .tip 3)]⟩
noncomputable def ledger_Book_Close.D (k : Nat) : FDen U := { X := (Sledger_Book × Int), Y := (Int × Sledger_Book), nt := 8, gh := [0], un := ledger_Book_Close.un, f := fun x => ledger_Book_Close.f k (x.1) (x.2), fin := ledger_Book_Close.fin, cl := false, clo := fun h => by cases h }
noncomputable def ledger_Book_Close.re (s : St U) : Option (Int × Sledger_Book) := match s.get 0, s.get 1000000000000000, lk s.o 7000000000000 with | .flat (.int .i64 x1), .ptr 7000000000000 0, some (.lit (.flat (.int .i64 x2) :: x6 :: x4)) => (tip_Sapi_Entry s.o 3 x6).bind fun ex3 => ((cd_Speriod_Table.full x4).bind fun x5 => (some (x1, (⟨x2, ex3.2, x5⟩ : Sledger_Book)))) | _, _, _ => none
noncomputable def ledger_Book_Close.jl : List (Nat × JDen U) := []
noncomputable def ledger_Book_Close.fl (k : Nat) : List (Nat × FDen U) := [(77, ledger_Book_turn_c78.D k)]
noncomputable def ledger_Book_Close.ll (k : Nat) : List (Nat × LDen U) := []
noncomputable def ledger_Book_Close.E (k : Nat) : Env U := { P := Try.prog, D := DD, fd := lk (ledger_Book_Close.fl k), ld := lk (ledger_Book_Close.ll k), jd := lk ledger_Book_Close.jl, mode := lk [], elc := lk ec, mpc := lk mc, rts := Try.f33.resultTypes.toList, dyn := fun t => false, vecs := fun d => false, results := Try.f33.results.toList, gh := [0], own := false, io := fun g i => false }
theorem ledger_Book_Close.ok (k : Nat) : EnvOk (ledger_Book_Close.E k) := envOk lawful (ledger_Book_Close.fl k) (ledger_Book_Close.ll k) ledger_Book_Close.jl _ _ _ _ _ _ _ _ _ _ (by
  intro p hp
  simp only [ledger_Book_Close.fl, List.mem_cons, List.not_mem_nil, or_false] at hp
  rcases hp with rfl
  · exact ⟨ledger_Book_turn_c78.sound k, enter_of Try.func77 (by kernel_rfl) (by kernel_rfl)⟩) (by
  intro p hp
  simp [ledger_Book_Close.jl] at hp)
theorem ledger_Book_Close.eq (k : Nat) (x : (Sledger_Book × Int)) : runF (ledger_Book_Close.E k) (codeOf Try.f33) (ledger_Book_Close.mk x) ledger_Book_Close.re = (ledger_Book_Close.D k).f x := by kernel_rfl
theorem ledger_Book_Close.fit (s : St U) (x : (Sledger_Book × Int)) (h : ledger_Book_Close.un s = some x) : Fits s (ledger_Book_Close.mk x) := by
  unfold ledger_Book_Close.un at h
  split at h
  · obtain ⟨ex2, hex2, hh1⟩ := Option.bind_eq_some_iff.1 h
    obtain ⟨x4, hx4, hh2⟩ := Option.bind_eq_some_iff.1 hh1
    cases hh2
    refine fits_ren [(7000000000002, ex2.1)] ?_ ?_ ren_one rfl
    · exact List.forall_mem_cons.2 ⟨FV.one (FV.ptr (by assumption)), List.forall_mem_cons.2 ⟨FV.one (FV.same (by assumption) rfl), List.forall_mem_cons.2 ⟨FV.one (FV.ptr (by assumption)), fun _ hp => (List.not_mem_nil hp).elim⟩⟩⟩
    · exact List.forall_mem_cons.2 ⟨FO.cells (show lk (St.o _) 7000000000000 = some _ from by assumption) (FCs.cons (c0_same rfl rfl) (FCs.cons ((tip_Sapi_Entry_fit hex2 rfl).1) (FCs.tail (Cd.full_ok hx4) rfl))), List.forall_mem_cons.2 ⟨(tip_Sapi_Entry_fit hex2 rfl).2, fun _ hp => (List.not_mem_nil hp).elim⟩⟩
  · cases h
theorem ledger_Book_Close.fitR (s : St U) (y : (Int × Sledger_Book)) (h : ledger_Book_Close.re s = some y) : Fits s (ledger_Book_Close.fin y) := by
  unfold ledger_Book_Close.re at h
  split at h
  · obtain ⟨ex3, hex3, hh1⟩ := Option.bind_eq_some_iff.1 h
    obtain ⟨x5, hx5, hh2⟩ := Option.bind_eq_some_iff.1 hh1
    cases hh2
    refine fits_ren [(7000000000002, ex3.1)] ?_ ?_ ren_one rfl
    · exact List.forall_mem_cons.2 ⟨FV.one (FV.same (by assumption) rfl), List.forall_mem_cons.2 ⟨FV.one (FV.ptr (by assumption)), fun _ hp => (List.not_mem_nil hp).elim⟩⟩
    · exact List.forall_mem_cons.2 ⟨FO.cells (show lk (St.o _) 7000000000000 = some _ from by assumption) (FCs.cons (c0_same rfl rfl) (FCs.cons ((tip_Sapi_Entry_fit hex3 rfl).1) (FCs.tail (Cd.full_ok hx5) rfl))), List.forall_mem_cons.2 ⟨(tip_Sapi_Entry_fit hex3 rfl).2, fun _ hp => (List.not_mem_nil hp).elim⟩⟩
  · cases h
theorem ledger_Book_Close.sound (k : Nat) : Sound Try.prog DD 33 (ledger_Book_Close.D k) :=
  fun_sound (E := ledger_Book_Close.E k) (fn := Try.f33) (c := codeOf Try.f33) (ledger_Book_Close.ok k) mixed rfl Try.func33 (by kernel_rfl) (by kernel_rfl) (allL_of (l := []) (by kernel_rfl) allL_nil) (ledger_Book_Close.D k) ledger_Book_Close.mk ledger_Book_Close.re (by kernel_rfl) (by kernel_rfl) ledger_Book_Close.fit ledger_Book_Close.fitR (ledger_Book_Close.eq k)
/-! ### pyx/period.Reopen: function 90 -/
noncomputable def period_Reopen.f (k : Nat) (a0 : Speriod_Table) (a1 : Int) : Option (Speriod_Table × Int) := (((period_is.f k a1).bind fun t1 => (cond (!t1) (some (a1, true, (⟨pack 12 false a0.f_Closed, pack 12 0 a0.f_Version⟩ : Speriod_Table), (⟨[false, false, false, false, false, false, false, false, false, false, false, false], [0, 0, 0, 0, 0, 0, 0, 0, 0, 0, 0, 0]⟩ : Speriod_Table))) (cond (inb a1 12) (cond (Nat.blt (Int.toNat a1) 12) (cond (!(List.getD (pack 12 false a0.f_Closed) (Int.toNat a1) false)) (some (a1, true, (⟨pack 12 false a0.f_Closed, pack 12 0 a0.f_Version⟩ : Speriod_Table), (⟨[false, false, false, false, false, false, false, false, false, false, false, false], [0, 0, 0, 0, 0, 0, 0, 0, 0, 0, 0, 0]⟩ : Speriod_Table))) ((period_is.f k (IntKind.wrap .i64 (a1 + 1))).bind fun t6 => (cond (t6) (cond (inb (IntKind.wrap .i64 (a1 + 1)) 12) (cond (Nat.blt (Int.toNat (IntKind.wrap .i64 (a1 + 1))) 12) (some (a1, List.getD (pack 12 false a0.f_Closed) (Int.toNat (IntKind.wrap .i64 (a1 + 1))) false, (⟨pack 12 false a0.f_Closed, pack 12 0 a0.f_Version⟩ : Speriod_Table), (⟨[false, false, false, false, false, false, false, false, false, false, false, false], [0, 0, 0, 0, 0, 0, 0, 0, 0, 0, 0, 0]⟩ : Speriod_Table))) none) none) (some (a1, false, (⟨pack 12 false a0.f_Closed, pack 12 0 a0.f_Version⟩ : Speriod_Table), (⟨[false, false, false, false, false, false, false, false, false, false, false, false], [0, 0, 0, 0, 0, 0, 0, 0, 0, 0, 0, 0]⟩ : Speriod_Table)))))) none) none))) : Option (Int × Bool × Speriod_Table × Speriod_Table)).bind fun y7 => (cond (y7.2.1) (some ((⟨[false, false, false, false, false, false, false, false, false, false, false, false], [0, 0, 0, 0, 0, 0, 0, 0, 0, 0, 0, 0]⟩ : Speriod_Table), 8)) (cond (inb y7.1 12) (cond (Nat.blt (Int.toNat y7.1) 12) (some ((⟨putAll (Int.toNat y7.1) false 0 (pack 12 false y7.2.2.1.f_Closed), pack 12 0 y7.2.2.1.f_Version⟩ : Speriod_Table), 0)) none) none))
noncomputable def period_Reopen.un (s : St U) : Option (Speriod_Table × Int) := match s.get 0, s.get 1 with | .agg x1, .flat (.int .i64 x3) => (cd_Speriod_Table.full x1).bind fun x2 => (some (x2, x3)) | _, _ => none
noncomputable def period_Reopen.mk (x : (Speriod_Table × Int)) : St U := ⟨[(0, .agg (cd_Speriod_Table.enc x.1)), (1, .flat (.int .i64 x.2))], []⟩
noncomputable def period_Reopen.fin (y : (Speriod_Table × Int)) : St U := ⟨[(0, .tup [.agg (cd_Speriod_Table.enc y.1), .flat (.int .i64 y.2)])], []⟩
noncomputable def period_Reopen.D (k : Nat) : FDen U := { X := (Speriod_Table × Int), Y := (Speriod_Table × Int), nt := 33, gh := [], un := period_Reopen.un, f := fun x => period_Reopen.f k (x.1) (x.2), fin := period_Reopen.fin, cl := true, clo := fun _ _ => rfl }
noncomputable def period_Reopen.re (s : St U) : Option (Speriod_Table × Int) := match s.get 0 with | .tup [.agg x1, .flat (.int .i64 x3)] => (cd_Speriod_Table.full x1).bind fun x2 => (some (x2, x3)) | _ => none
noncomputable def period_Reopen.j1000.fin (y : (Int × Bool × Speriod_Table × Speriod_Table)) : Out U := match y with | (x2, x5, x3, x4) => .norm ⟨[(2, .ptr 2 0), (4, .ptr 4 0), (1, .flat (.int .i64 x2)), (27, .flat (.bool x5))], [(2, .lit (cd_Speriod_Table.enc x3)), (4, .lit (cd_Speriod_Table.enc x4))]⟩
noncomputable def period_Reopen.j1000.finK {ρ : Type} (y : (Int × Bool × Speriod_Table × Speriod_Table)) (K : Out U → Option ρ) : Option ρ := match y with | (x2, x5, x3, x4) => K (.norm ⟨[(2, .ptr 2 0), (4, .ptr 4 0), (1, .flat (.int .i64 x2)), (27, .flat (.bool x5))], [(2, .lit (cd_Speriod_Table.enc x3)), (4, .lit (cd_Speriod_Table.enc x4))]⟩)
theorem period_Reopen.j1000.finK_eq {ρ : Type} (y : (Int × Bool × Speriod_Table × Speriod_Table)) (K : Out U → Option ρ) : period_Reopen.j1000.finK y K = K (period_Reopen.j1000.fin y) := by
  unfold period_Reopen.j1000.finK period_Reopen.j1000.fin
  first | rfl | (split <;> rfl)
noncomputable def period_Reopen.j1000.re : Out U → Option ((Int × Bool × Speriod_Table × Speriod_Table)) | .norm s => ((Cd.ofLit cd_Speriod_Table s.o 2).bind fun q0 => ((Cd.ofLit cd_Speriod_Table s.o 4).bind fun q1 => (match s.get 2, s.get 4, s.get 1, s.get 27 with | .ptr 2 0, .ptr 4 0, .flat (.int .i64 x2), .flat (.bool x5) => some (x2, x5, q0, q1) | _, _, _, _ => none))) | _ => none
noncomputable def period_Reopen.j1000.J : JDen U := { Y := (Int × Bool × Speriod_Table × Speriod_Table), re := period_Reopen.j1000.re, fin := period_Reopen.j1000.fin, finK := period_Reopen.j1000.finK, finK_eq := period_Reopen.j1000.finK_eq }
theorem period_Reopen.j1000.fit (o : Out U) (y : (Int × Bool × Speriod_Table × Speriod_Table)) (h : period_Reopen.j1000.re o = some y) : FitsO o (period_Reopen.j1000.fin y) := by
  unfold period_Reopen.j1000.re at h
  split at h
  · obtain ⟨q0, eq0, h1⟩ := Option.bind_eq_some_iff.1 h
    obtain ⟨q1, eq1, h2⟩ := Option.bind_eq_some_iff.1 h1
    split at h2
    · cases h2
      refine fitsO_norm (fits_ren [] ?_ ?_ ren_nil rfl)
      · exact List.forall_mem_cons.2 ⟨FV.one (FV.ptr (by assumption)), List.forall_mem_cons.2 ⟨FV.one (FV.ptr (by assumption)), List.forall_mem_cons.2 ⟨FV.one (FV.same (by assumption) rfl), List.forall_mem_cons.2 ⟨FV.one (FV.same (by assumption) rfl), fun _ hp => (List.not_mem_nil hp).elim⟩⟩⟩⟩
      · exact List.forall_mem_cons.2 ⟨(FO.same (Cd.ofLit_ok eq0) rfl), List.forall_mem_cons.2 ⟨(FO.same (Cd.ofLit_ok eq1) rfl), fun _ hp => (List.not_mem_nil hp).elim⟩⟩
    · cases h2
  · cases h
noncomputable def period_Reopen.jl : List (Nat × JDen U) := [(1000, period_Reopen.j1000.J)]
noncomputable def period_Reopen.fl (k : Nat) : List (Nat × FDen U) := [(130, period_is.D k)]
noncomputable def period_Reopen.ll (k : Nat) : List (Nat × LDen U) := []
noncomputable def period_Reopen.E (k : Nat) : Env U := { P := Try.prog, D := DD, fd := lk (period_Reopen.fl k), ld := lk (period_Reopen.ll k), jd := lk period_Reopen.jl, mode := lk [], elc := lk ec, mpc := lk mc, rts := Try.f90.resultTypes.toList, dyn := fun t => Nat.beq t 90, vecs := fun d => false, results := Try.f90.results.toList, gh := [], own := false, io := fun g i => false }
theorem period_Reopen.ok (k : Nat) : EnvOk (period_Reopen.E k) := envOk lawful (period_Reopen.fl k) (period_Reopen.ll k) period_Reopen.jl _ _ _ _ _ _ _ _ _ _ (by
  intro p hp
  simp only [period_Reopen.fl, List.mem_cons, List.not_mem_nil, or_false] at hp
  rcases hp with rfl
  · exact ⟨period_is.sound k, enter_of Try.func130 (by kernel_rfl) (by kernel_rfl)⟩) (by
  intro p hp
  simp only [period_Reopen.jl, List.mem_cons, List.not_mem_nil, or_false] at hp
  rcases hp with rfl
  · exact period_Reopen.j1000.fit)
theorem period_Reopen.eq (k : Nat) (x : (Speriod_Table × Int)) : runF (period_Reopen.E k) (codeOf Try.f90) (period_Reopen.mk x) period_Reopen.re = (period_Reopen.D k).f x := by kernel_rfl
theorem period_Reopen.fit (s : St U) (x : (Speriod_Table × Int)) (h : period_Reopen.un s = some x) : Fits s (period_Reopen.mk x) := by
  unfold period_Reopen.un at h
  split at h
  · obtain ⟨x2, hx2, hh1⟩ := Option.bind_eq_some_iff.1 h
    have hc1 := Cd.full_ok hx2
    clear hx2
    subst hc1
    cases hh1
    refine fits_ren [] ?_ ?_ ren_nil rfl
    · exact List.forall_mem_cons.2 ⟨FV.one (FV.same (by assumption) rfl), List.forall_mem_cons.2 ⟨FV.one (FV.same (by assumption) rfl), fun _ hp => (List.not_mem_nil hp).elim⟩⟩
    · exact fun _ hp => (List.not_mem_nil hp).elim
  · cases h
theorem period_Reopen.fitR (s : St U) (y : (Speriod_Table × Int)) (h : period_Reopen.re s = some y) : Fits s (period_Reopen.fin y) := by
  unfold period_Reopen.re at h
  split at h
  · obtain ⟨x2, hx2, hh1⟩ := Option.bind_eq_some_iff.1 h
    have hc1 := Cd.full_ok hx2
    clear hx2
    subst hc1
    cases hh1
    refine fits_ren [] ?_ ?_ ren_nil rfl
    · exact List.forall_mem_cons.2 ⟨FV.tup (by assumption) (FTs.cons (FVA.one (FV.same rfl rfl)) (FTs.cons (FVA.one (FV.same rfl rfl)) (FTs.nil))), fun _ hp => (List.not_mem_nil hp).elim⟩
    · exact fun _ hp => (List.not_mem_nil hp).elim
  · cases h
theorem period_Reopen.sound (k : Nat) : Sound Try.prog DD 90 (period_Reopen.D k) :=
  fun_sound (E := period_Reopen.E k) (fn := Try.f90) (c := codeOf Try.f90) (period_Reopen.ok k) mixed rfl Try.func90 (by kernel_rfl) (by kernel_rfl) (allL_of (l := []) (by kernel_rfl) allL_nil) (period_Reopen.D k) period_Reopen.mk period_Reopen.re (by kernel_rfl) (by kernel_rfl) period_Reopen.fit period_Reopen.fitR (period_Reopen.eq k)
/-! ### (*pyx/ledger.Book).turn: function 77 -/
noncomputable def ledger_Book_turn_c90.f (k : Nat) (a0 : Sledger_Book) (a1 : Unit) (a2 : Int) : Option (Int × Sledger_Book) := (period_Reopen.f k (⟨pack 12 false a0.f_t.f_Closed, pack 12 0 a0.f_t.f_Version⟩ : Speriod_Table) a2).bind fun t1 => (cond (t1.2 == 0) (some (t1.2, (⟨a0.f_scale, a0.f_l, (⟨pack 12 false t1.1.f_Closed, pack 12 0 t1.1.f_Version⟩ : Speriod_Table)⟩ : Sledger_Book))) (some (t1.2, (⟨a0.f_scale, a0.f_l, (⟨pack 12 false a0.f_t.f_Closed, pack 12 0 a0.f_t.f_Version⟩ : Speriod_Table)⟩ : Sledger_Book))))
noncomputable def ledger_Book_turn_c90.un (s : St U) : Option (Sledger_Book × Unit × Int) := match s.get 0, lk s.o 7000000000000, s.get 1, s.get 2, s.get 1000000000000000 with | .ptr 7000000000000 0, some (.lit (.flat (.int .i64 x1) :: x5 :: x3)), .fn 90 [], .flat (.int .i64 x6), .ptr 7000000000000 0 => (tip_Sapi_Entry s.o 3 x5).bind fun ex2 => ((cd_Speriod_Table.full x3).bind fun x4 => (some ((⟨x1, ex2.2, x4⟩ : Sledger_Book), (), x6))) | _, _, _, _, _ => none
noncomputable def ledger_Book_turn_c90.mk (x : (Sledger_Book × Unit × Int)) : St U := ⟨[(0, .ptr 7000000000000 0), (1, .fn 90 []), (2, .flat (.int .i64 x.2.2)), (1000000000000000, .ptr 7000000000000 0)], [(7000000000000, .lit ((.flat (.int .i64 x.1.f_scale)) :: (.tip 7000000000002 C.Sapi_Entry x.1.f_l) :: cd_Speriod_Table.enc x.1.f_t)), (7000000000002, .tip 3)]⟩
noncomputable def ledger_Book_turn_c90.fin (y : (Int × Sledger_Book)) : St U := ⟨[(0, .flat (.int .i64 y.1)), (1000000000000000, .ptr 7000000000000 0)], [(7000000000000, .lit ((.flat (.int .i64 y.2.f_scale)) :: (.tip 7000000000002 C.Sapi_Entry y.2.f_l) :: cd_Speriod_Table.enc y.2.f_t)), (7000000000002, .tip 3)]⟩
noncomputable def ledger_Book_turn_c90.D (k : Nat) : FDen U := { X := (Sledger_Book × Unit × Int), Y := (Int × Sledger_Book), nt := 28, gh := [0], un := ledger_Book_turn_c90.un, f := fun x => ledger_Book_turn_c90.f k (x.1) (x.2.1) (x.2.2), fin := ledger_Book_turn_c90.fin, cl := false, clo := fun h => by cases h }
noncomputable def ledger_Book_turn_c90.re (s : St U) : Option (Int × Sledger_Book) := match s.get 0, s.get 1000000000000000, lk s.o 7000000000000 with | .flat (.int .i64 x1), .ptr 7000000000000 0, some (.lit (.flat (.int .i64 x2) :: x6 :: x4)) => (tip_Sapi_Entry s.o 3 x6).bind fun ex3 => ((cd_Speriod_Table.full x4).bind fun x5 => (some (x1, (⟨x2, ex3.2, x5⟩ : Sledger_Book)))) | _, _, _ => none
noncomputable def ledger_Book_turn_c90.jl : List (Nat × JDen U) := []
noncomputable def ledger_Book_turn_c90.fl (k : Nat) : List (Nat × FDen U) := [(90, period_Reopen.D k)]
noncomputable def ledger_Book_turn_c90.ll (k : Nat) : List (Nat × LDen U) := []
noncomputable def ledger_Book_turn_c90.E (k : Nat) : Env U := { P := Try.prog, D := DD, fd := lk (ledger_Book_turn_c90.fl k), ld := lk (ledger_Book_turn_c90.ll k), jd := lk ledger_Book_turn_c90.jl, mode := lk [], elc := lk ec, mpc := lk mc, rts := Try.f77.resultTypes.toList, dyn := fun t => false, vecs := fun d => false, results := Try.f77.results.toList, gh := [0], own := false, io := fun g i => false }
theorem ledger_Book_turn_c90.ok (k : Nat) : EnvOk (ledger_Book_turn_c90.E k) := envOk lawful (ledger_Book_turn_c90.fl k) (ledger_Book_turn_c90.ll k) ledger_Book_turn_c90.jl _ _ _ _ _ _ _ _ _ _ (by
  intro p hp
  simp only [ledger_Book_turn_c90.fl, List.mem_cons, List.not_mem_nil, or_false] at hp
  rcases hp with rfl
  · exact ⟨period_Reopen.sound k, enter_of Try.func90 (by kernel_rfl) (by kernel_rfl)⟩) (by
  intro p hp
  simp [ledger_Book_turn_c90.jl] at hp)
theorem ledger_Book_turn_c90.eq (k : Nat) (x : (Sledger_Book × Unit × Int)) : runF (ledger_Book_turn_c90.E k) (codeOf Try.f77) (ledger_Book_turn_c90.mk x) ledger_Book_turn_c90.re = (ledger_Book_turn_c90.D k).f x := by kernel_rfl
theorem ledger_Book_turn_c90.fit (s : St U) (x : (Sledger_Book × Unit × Int)) (h : ledger_Book_turn_c90.un s = some x) : Fits s (ledger_Book_turn_c90.mk x) := by
  unfold ledger_Book_turn_c90.un at h
  split at h
  · obtain ⟨ex2, hex2, hh1⟩ := Option.bind_eq_some_iff.1 h
    obtain ⟨x4, hx4, hh2⟩ := Option.bind_eq_some_iff.1 hh1
    cases hh2
    refine fits_ren [(7000000000002, ex2.1)] ?_ ?_ ren_one rfl
    · exact List.forall_mem_cons.2 ⟨FV.one (FV.ptr (by assumption)), List.forall_mem_cons.2 ⟨FV.one (FV.same (by assumption) rfl), List.forall_mem_cons.2 ⟨FV.one (FV.same (by assumption) rfl), List.forall_mem_cons.2 ⟨FV.one (FV.ptr (by assumption)), fun _ hp => (List.not_mem_nil hp).elim⟩⟩⟩⟩
    · exact List.forall_mem_cons.2 ⟨FO.cells (show lk (St.o _) 7000000000000 = some _ from by assumption) (FCs.cons (c0_same rfl rfl) (FCs.cons ((tip_Sapi_Entry_fit hex2 rfl).1) (FCs.tail (Cd.full_ok hx4) rfl))), List.forall_mem_cons.2 ⟨(tip_Sapi_Entry_fit hex2 rfl).2, fun _ hp => (List.not_mem_nil hp).elim⟩⟩
  · cases h
theorem ledger_Book_turn_c90.fitR (s : St U) (y : (Int × Sledger_Book)) (h : ledger_Book_turn_c90.re s = some y) : Fits s (ledger_Book_turn_c90.fin y) := by
  unfold ledger_Book_turn_c90.re at h
  split at h
  · obtain ⟨ex3, hex3, hh1⟩ := Option.bind_eq_some_iff.1 h
    obtain ⟨x5, hx5, hh2⟩ := Option.bind_eq_some_iff.1 hh1
    cases hh2
    refine fits_ren [(7000000000002, ex3.1)] ?_ ?_ ren_one rfl
    · exact List.forall_mem_cons.2 ⟨FV.one (FV.same (by assumption) rfl), List.forall_mem_cons.2 ⟨FV.one (FV.ptr (by assumption)), fun _ hp => (List.not_mem_nil hp).elim⟩⟩
    · exact List.forall_mem_cons.2 ⟨FO.cells (show lk (St.o _) 7000000000000 = some _ from by assumption) (FCs.cons (c0_same rfl rfl) (FCs.cons ((tip_Sapi_Entry_fit hex3 rfl).1) (FCs.tail (Cd.full_ok hx5) rfl))), List.forall_mem_cons.2 ⟨(tip_Sapi_Entry_fit hex3 rfl).2, fun _ hp => (List.not_mem_nil hp).elim⟩⟩
  · cases h
theorem ledger_Book_turn_c90.sound (k : Nat) : Sound Try.prog DD 77 (ledger_Book_turn_c90.D k) :=
  fun_sound (E := ledger_Book_turn_c90.E k) (fn := Try.f77) (c := codeOf Try.f77) (ledger_Book_turn_c90.ok k) mixed rfl Try.func77 (by kernel_rfl) (by kernel_rfl) (allL_of (l := []) (by kernel_rfl) allL_nil) (ledger_Book_turn_c90.D k) ledger_Book_turn_c90.mk ledger_Book_turn_c90.re (by kernel_rfl) (by kernel_rfl) ledger_Book_turn_c90.fit ledger_Book_turn_c90.fitR (ledger_Book_turn_c90.eq k)
/-! ### (*pyx/ledger.Book).Reopen: function 41 -/
noncomputable def ledger_Book_Reopen.f (k : Nat) (a0 : Sledger_Book) (a1 : Int) : Option (Int × Sledger_Book) := (ledger_Book_turn_c90.f k (⟨a0.f_scale, a0.f_l, (⟨pack 12 false a0.f_t.f_Closed, pack 12 0 a0.f_t.f_Version⟩ : Speriod_Table)⟩ : Sledger_Book) () a1).bind fun t1 => (some (t1.1, (⟨t1.2.f_scale, t1.2.f_l, (⟨pack 12 false t1.2.f_t.f_Closed, pack 12 0 t1.2.f_t.f_Version⟩ : Speriod_Table)⟩ : Sledger_Book)))
noncomputable def ledger_Book_Reopen.un (s : St U) : Option (Sledger_Book × Int) := match s.get 0, lk s.o 7000000000000, s.get 1, s.get 1000000000000000 with | .ptr 7000000000000 0, some (.lit (.flat (.int .i64 x1) :: x5 :: x3)), .flat (.int .i64 x6), .ptr 7000000000000 0 => (tip_Sapi_Entry s.o 3 x5).bind fun ex2 => ((cd_Speriod_Table.full x3).bind fun x4 => (some ((⟨x1, ex2.2, x4⟩ : Sledger_Book), x6))) | _, _, _, _ => none
noncomputable def ledger_Book_Reopen.mk (x : (Sledger_Book × Int)) : St U := ⟨[(0, .ptr 7000000000000 0), (1, .flat (.int .i64 x.2)), (1000000000000000, .ptr 7000000000000 0)], [(7000000000000, .lit ((.flat (.int .i64 x.1.f_scale)) :: (.tip 7000000000002 C.Sapi_Entry x.1.f_l) :: cd_Speriod_Table.enc x.1.f_t)), (7000000000002, .tip 3)]⟩
noncomputable def ledger_Book_Reopen.fin (y : (Int × Sledger_Book)) : St U := ⟨[(0, .flat (.int .i64 y.1)), (1000000000000000, .ptr 7000000000000 0)], [(7000000000000, .lit ((.flat (.int .i64 y.2.f_scale)) :: (.tip 7000000000002 C.Sapi_Entry y.2.f_l) :: cd_Speriod_Table.enc y.2.f_t)), (7000000000002, .tip 3)]⟩
noncomputable def ledger_Book_Reopen.D (k : Nat) : FDen U := { X := (Sledger_Book × Int), Y := (Int × Sledger_Book), nt := 8, gh := [0], un := ledger_Book_Reopen.un, f := fun x => ledger_Book_Reopen.f k (x.1) (x.2), fin := ledger_Book_Reopen.fin, cl := false, clo := fun h => by cases h }
noncomputable def ledger_Book_Reopen.re (s : St U) : Option (Int × Sledger_Book) := match s.get 0, s.get 1000000000000000, lk s.o 7000000000000 with | .flat (.int .i64 x1), .ptr 7000000000000 0, some (.lit (.flat (.int .i64 x2) :: x6 :: x4)) => (tip_Sapi_Entry s.o 3 x6).bind fun ex3 => ((cd_Speriod_Table.full x4).bind fun x5 => (some (x1, (⟨x2, ex3.2, x5⟩ : Sledger_Book)))) | _, _, _ => none
noncomputable def ledger_Book_Reopen.jl : List (Nat × JDen U) := []
noncomputable def ledger_Book_Reopen.fl (k : Nat) : List (Nat × FDen U) := [(77, ledger_Book_turn_c90.D k)]
noncomputable def ledger_Book_Reopen.ll (k : Nat) : List (Nat × LDen U) := []
noncomputable def ledger_Book_Reopen.E (k : Nat) : Env U := { P := Try.prog, D := DD, fd := lk (ledger_Book_Reopen.fl k), ld := lk (ledger_Book_Reopen.ll k), jd := lk ledger_Book_Reopen.jl, mode := lk [], elc := lk ec, mpc := lk mc, rts := Try.f41.resultTypes.toList, dyn := fun t => false, vecs := fun d => false, results := Try.f41.results.toList, gh := [0], own := false, io := fun g i => false }
theorem ledger_Book_Reopen.ok (k : Nat) : EnvOk (ledger_Book_Reopen.E k) := envOk lawful (ledger_Book_Reopen.fl k) (ledger_Book_Reopen.ll k) ledger_Book_Reopen.jl _ _ _ _ _ _ _ _ _ _ (by
  intro p hp
  simp only [ledger_Book_Reopen.fl, List.mem_cons, List.not_mem_nil, or_false] at hp
  rcases hp with rfl
  · exact ⟨ledger_Book_turn_c90.sound k, enter_of Try.func77 (by kernel_rfl) (by kernel_rfl)⟩) (by
  intro p hp
  simp [ledger_Book_Reopen.jl] at hp)
theorem ledger_Book_Reopen.eq (k : Nat) (x : (Sledger_Book × Int)) : runF (ledger_Book_Reopen.E k) (codeOf Try.f41) (ledger_Book_Reopen.mk x) ledger_Book_Reopen.re = (ledger_Book_Reopen.D k).f x := by kernel_rfl
theorem ledger_Book_Reopen.fit (s : St U) (x : (Sledger_Book × Int)) (h : ledger_Book_Reopen.un s = some x) : Fits s (ledger_Book_Reopen.mk x) := by
  unfold ledger_Book_Reopen.un at h
  split at h
  · obtain ⟨ex2, hex2, hh1⟩ := Option.bind_eq_some_iff.1 h
    obtain ⟨x4, hx4, hh2⟩ := Option.bind_eq_some_iff.1 hh1
    cases hh2
    refine fits_ren [(7000000000002, ex2.1)] ?_ ?_ ren_one rfl
    · exact List.forall_mem_cons.2 ⟨FV.one (FV.ptr (by assumption)), List.forall_mem_cons.2 ⟨FV.one (FV.same (by assumption) rfl), List.forall_mem_cons.2 ⟨FV.one (FV.ptr (by assumption)), fun _ hp => (List.not_mem_nil hp).elim⟩⟩⟩
    · exact List.forall_mem_cons.2 ⟨FO.cells (show lk (St.o _) 7000000000000 = some _ from by assumption) (FCs.cons (c0_same rfl rfl) (FCs.cons ((tip_Sapi_Entry_fit hex2 rfl).1) (FCs.tail (Cd.full_ok hx4) rfl))), List.forall_mem_cons.2 ⟨(tip_Sapi_Entry_fit hex2 rfl).2, fun _ hp => (List.not_mem_nil hp).elim⟩⟩
  · cases h
theorem ledger_Book_Reopen.fitR (s : St U) (y : (Int × Sledger_Book)) (h : ledger_Book_Reopen.re s = some y) : Fits s (ledger_Book_Reopen.fin y) := by
  unfold ledger_Book_Reopen.re at h
  split at h
  · obtain ⟨ex3, hex3, hh1⟩ := Option.bind_eq_some_iff.1 h
    obtain ⟨x5, hx5, hh2⟩ := Option.bind_eq_some_iff.1 hh1
    cases hh2
    refine fits_ren [(7000000000002, ex3.1)] ?_ ?_ ren_one rfl
    · exact List.forall_mem_cons.2 ⟨FV.one (FV.same (by assumption) rfl), List.forall_mem_cons.2 ⟨FV.one (FV.ptr (by assumption)), fun _ hp => (List.not_mem_nil hp).elim⟩⟩
    · exact List.forall_mem_cons.2 ⟨FO.cells (show lk (St.o _) 7000000000000 = some _ from by assumption) (FCs.cons (c0_same rfl rfl) (FCs.cons ((tip_Sapi_Entry_fit hex3 rfl).1) (FCs.tail (Cd.full_ok hx5) rfl))), List.forall_mem_cons.2 ⟨(tip_Sapi_Entry_fit hex3 rfl).2, fun _ hp => (List.not_mem_nil hp).elim⟩⟩
  · cases h
theorem ledger_Book_Reopen.sound (k : Nat) : Sound Try.prog DD 41 (ledger_Book_Reopen.D k) :=
  fun_sound (E := ledger_Book_Reopen.E k) (fn := Try.f41) (c := codeOf Try.f41) (ledger_Book_Reopen.ok k) mixed rfl Try.func41 (by kernel_rfl) (by kernel_rfl) (allL_of (l := []) (by kernel_rfl) allL_nil) (ledger_Book_Reopen.D k) ledger_Book_Reopen.mk ledger_Book_Reopen.re (by kernel_rfl) (by kernel_rfl) ledger_Book_Reopen.fit ledger_Book_Reopen.fitR (ledger_Book_Reopen.eq k)
/-! ### pyx/dec.Cmp: function 48 -/
noncomputable def dec_Cmp.f (k : Nat) (a0 : Sapi_Dec) (a1 : Sapi_Dec) : Option Int := (((dec_Right.f k (⟨a0.f_Neg, (a0.f_C.1, a0.f_C.2), a0.f_Scale⟩ : Sapi_Dec)).bind fun t1 => (cond (!t1) (some (true, a0.f_Neg, a0.f_C.1, a0.f_C.2, a0.f_Scale, a1.f_Neg, a1.f_C.1, a1.f_C.2, a1.f_Scale)) ((dec_Right.f k (⟨a1.f_Neg, (a1.f_C.1, a1.f_C.2), a1.f_Scale⟩ : Sapi_Dec)).bind fun t11 => (some (!t11, a0.f_Neg, a0.f_C.1, a0.f_C.2, a0.f_Scale, a1.f_Neg, a1.f_C.1, a1.f_C.2, a1.f_Scale))))) : Option (Bool × Bool × Int × Int × Int × Bool × Int × Int × Int)).bind fun y12 => (cond (y12.1) (some 0) ((dec_Sign.f k (⟨y12.2.1, (y12.2.2.1, y12.2.2.2.1), y12.2.2.2.2.1⟩ : Sapi_Dec)).bind fun t13 => ((dec_Sign.f k (⟨y12.2.2.2.2.2.1, (y12.2.2.2.2.2.2.1, y12.2.2.2.2.2.2.2.1), y12.2.2.2.2.2.2.2.2⟩ : Sapi_Dec)).bind fun t14 => (cond (t13 != t14) (cond (decide (t13 < t14)) (some (-1)) (some 1)) ((dec_wide.f k (⟨y12.2.1, (y12.2.2.1, y12.2.2.2.1), y12.2.2.2.2.1⟩ : Sapi_Dec) (if y12.2.2.2.2.2.2.2.2 > y12.2.2.2.2.1 then y12.2.2.2.2.2.2.2.2 else y12.2.2.2.2.1)).bind fun t15 => ((dec_wide.f k (⟨y12.2.2.2.2.2.1, (y12.2.2.2.2.2.2.1, y12.2.2.2.2.2.2.2.1), y12.2.2.2.2.2.2.2.2⟩ : Sapi_Dec) (if y12.2.2.2.2.2.2.2.2 > y12.2.2.2.2.1 then y12.2.2.2.2.2.2.2.2 else y12.2.2.2.2.1)).bind fun t16 => ((dec_cmp.f k (t15.1, t15.2.1, t15.2.2.1, t15.2.2.2) (t16.1, t16.2.1, t16.2.2.1, t16.2.2.2)).bind fun t17 => (some (IntKind.wrap .i64 (t17 * t13))))))))))
noncomputable def dec_Cmp.un (s : St U) : Option (Sapi_Dec × Sapi_Dec) := match s.get 0, s.get 1 with | .agg [.flat (.bool x1), .flat (.int .u64 x2), .flat (.int .u64 x3), .flat (.int .i64 x4)], .agg [.flat (.bool x5), .flat (.int .u64 x6), .flat (.int .u64 x7), .flat (.int .i64 x8)] => some ((⟨x1, (x2, x3), x4⟩ : Sapi_Dec), (⟨x5, (x6, x7), x8⟩ : Sapi_Dec)) | _, _ => none
noncomputable def dec_Cmp.mk (x : (Sapi_Dec × Sapi_Dec)) : St U := ⟨[(0, .agg [.flat (.bool x.1.f_Neg), .flat (.int .u64 x.1.f_C.1), .flat (.int .u64 x.1.f_C.2), .flat (.int .i64 x.1.f_Scale)]), (1, .agg [.flat (.bool x.2.f_Neg), .flat (.int .u64 x.2.f_C.1), .flat (.int .u64 x.2.f_C.2), .flat (.int .i64 x.2.f_Scale)])], []⟩
noncomputable def dec_Cmp.fin (y : Int) : St U := ⟨[(0, .flat (.int .i64 y))], []⟩
noncomputable def dec_Cmp.D (k : Nat) : FDen U := { X := (Sapi_Dec × Sapi_Dec), Y := Int, nt := 40, gh := [], un := dec_Cmp.un, f := fun x => dec_Cmp.f k (x.1) (x.2), fin := dec_Cmp.fin, cl := true, clo := fun _ _ => rfl }
noncomputable def dec_Cmp.re (s : St U) : Option Int := match s.get 0 with | .flat (.int .i64 x1) => some x1 | _ => none
noncomputable def dec_Cmp.j1000.fin (y : (Bool × Bool × Int × Int × Int × Bool × Int × Int × Int)) : Out U := match y with | (x10, x2, x3, x4, x5, x6, x7, x8, x9) => .norm ⟨[(2, .ptr 2 0), (3, .ptr 3 0), (15, .flat (.bool x10))], [(2, .lit [.flat (.bool x2), .flat (.int .u64 x3), .flat (.int .u64 x4), .flat (.int .i64 x5)]), (3, .lit [.flat (.bool x6), .flat (.int .u64 x7), .flat (.int .u64 x8), .flat (.int .i64 x9)])]⟩
noncomputable def dec_Cmp.j1000.finK {ρ : Type} (y : (Bool × Bool × Int × Int × Int × Bool × Int × Int × Int)) (K : Out U → Option ρ) : Option ρ := match y with | (x10, x2, x3, x4, x5, x6, x7, x8, x9) => K (.norm ⟨[(2, .ptr 2 0), (3, .ptr 3 0), (15, .flat (.bool x10))], [(2, .lit [.flat (.bool x2), .flat (.int .u64 x3), .flat (.int .u64 x4), .flat (.int .i64 x5)]), (3, .lit [.flat (.bool x6), .flat (.int .u64 x7), .flat (.int .u64 x8), .flat (.int .i64 x9)])]⟩)
theorem dec_Cmp.j1000.finK_eq {ρ : Type} (y : (Bool × Bool × Int × Int × Int × Bool × Int × Int × Int)) (K : Out U → Option ρ) : dec_Cmp.j1000.finK y K = K (dec_Cmp.j1000.fin y) := by
  unfold dec_Cmp.j1000.finK dec_Cmp.j1000.fin
  first | rfl | (split <;> rfl)
noncomputable def dec_Cmp.j1000.re : Out U → Option ((Bool × Bool × Int × Int × Int × Bool × Int × Int × Int)) | .norm s => (match s.get 2, s.get 3, s.get 15, lk s.o 2, lk s.o 3 with | .ptr 2 0, .ptr 3 0, .flat (.bool x10), some (.lit [.flat (.bool x2), .flat (.int .u64 x3), .flat (.int .u64 x4), .flat (.int .i64 x5)]), some (.lit [.flat (.bool x6), .flat (.int .u64 x7), .flat (.int .u64 x8), .flat (.int .i64 x9)]) => some (x10, x2, x3, x4, x5, x6, x7, x8, x9) | _, _, _, _, _ => none) | _ => none
noncomputable def dec_Cmp.j1000.J : JDen U := { Y := (Bool × Bool × Int × Int × Int × Bool × Int × Int × Int), re := dec_Cmp.j1000.re, fin := dec_Cmp.j1000.fin, finK := dec_Cmp.j1000.finK, finK_eq := dec_Cmp.j1000.finK_eq }
theorem dec_Cmp.j1000.fit (o : Out U) (y : (Bool × Bool × Int × Int × Int × Bool × Int × Int × Int)) (h : dec_Cmp.j1000.re o = some y) : FitsO o (dec_Cmp.j1000.fin y) := by
  unfold dec_Cmp.j1000.re at h
  split at h
  · split at h
    · cases h
      refine fitsO_norm (fits_ren [] ?_ ?_ ren_nil rfl)
      · exact List.forall_mem_cons.2 ⟨FV.one (FV.ptr (by assumption)), List.forall_mem_cons.2 ⟨FV.one (FV.ptr (by assumption)), List.forall_mem_cons.2 ⟨FV.one (FV.same (by assumption) rfl), fun _ hp => (List.not_mem_nil hp).elim⟩⟩⟩
      · exact List.forall_mem_cons.2 ⟨(FO.same (show lk (St.o _) 2 = some _ from by assumption) rfl), List.forall_mem_cons.2 ⟨(FO.same (show lk (St.o _) 3 = some _ from by assumption) rfl), fun _ hp => (List.not_mem_nil hp).elim⟩⟩
    · cases h
  · cases h
noncomputable def dec_Cmp.jl : List (Nat × JDen U) := [(1000, dec_Cmp.j1000.J)]
noncomputable def dec_Cmp.fl (k : Nat) : List (Nat × FDen U) := [(82, dec_Right.D k), (37, dec_Sign.D k), (83, dec_wide.D k), (86, dec_cmp.D k)]
noncomputable def dec_Cmp.ll (k : Nat) : List (Nat × LDen U) := []
noncomputable def dec_Cmp.E (k : Nat) : Env U := { P := Try.prog, D := DD, fd := lk (dec_Cmp.fl k), ld := lk (dec_Cmp.ll k), jd := lk dec_Cmp.jl, mode := lk [], elc := lk ec, mpc := lk mc, rts := Try.f48.resultTypes.toList, dyn := fun t => false, vecs := fun d => false, results := Try.f48.results.toList, gh := [], own := false, io := fun g i => false }
theorem dec_Cmp.ok (k : Nat) : EnvOk (dec_Cmp.E k) := envOk lawful (dec_Cmp.fl k) (dec_Cmp.ll k) dec_Cmp.jl _ _ _ _ _ _ _ _ _ _ (by
  intro p hp
  simp only [dec_Cmp.fl, List.mem_cons, List.not_mem_nil, or_false] at hp
  rcases hp with rfl | rfl | rfl | rfl
  · exact ⟨dec_Right.sound k, enter_of Try.func82 (by kernel_rfl) (by kernel_rfl)⟩
  · exact ⟨dec_Sign.sound k, enter_of Try.func37 (by kernel_rfl) (by kernel_rfl)⟩
  · exact ⟨dec_wide.sound k, enter_of Try.func83 (by kernel_rfl) (by kernel_rfl)⟩
  · exact ⟨dec_cmp.sound k, enter_of Try.func86 (by kernel_rfl) (by kernel_rfl)⟩) (by
  intro p hp
  simp only [dec_Cmp.jl, List.mem_cons, List.not_mem_nil, or_false] at hp
  rcases hp with rfl
  · exact dec_Cmp.j1000.fit)
theorem dec_Cmp.eq (k : Nat) (x : (Sapi_Dec × Sapi_Dec)) : runF (dec_Cmp.E k) (codeOf Try.f48) (dec_Cmp.mk x) dec_Cmp.re = (dec_Cmp.D k).f x := by kernel_rfl
theorem dec_Cmp.fit (s : St U) (x : (Sapi_Dec × Sapi_Dec)) (h : dec_Cmp.un s = some x) : Fits s (dec_Cmp.mk x) := by
  unfold dec_Cmp.un at h
  split at h
  · cases h
    refine fits_ren [] ?_ ?_ ren_nil rfl
    · exact List.forall_mem_cons.2 ⟨FV.one (FV.same (by assumption) rfl), List.forall_mem_cons.2 ⟨FV.one (FV.same (by assumption) rfl), fun _ hp => (List.not_mem_nil hp).elim⟩⟩
    · exact fun _ hp => (List.not_mem_nil hp).elim
  · cases h
theorem dec_Cmp.fitR (s : St U) (y : Int) (h : dec_Cmp.re s = some y) : Fits s (dec_Cmp.fin y) := by
  unfold dec_Cmp.re at h
  split at h
  · cases h
    refine fits_ren [] ?_ ?_ ren_nil rfl
    · exact List.forall_mem_cons.2 ⟨FV.one (FV.same (by assumption) rfl), fun _ hp => (List.not_mem_nil hp).elim⟩
    · exact fun _ hp => (List.not_mem_nil hp).elim
  · cases h
theorem dec_Cmp.sound (k : Nat) : Sound Try.prog DD 48 (dec_Cmp.D k) :=
  fun_sound (E := dec_Cmp.E k) (fn := Try.f48) (c := codeOf Try.f48) (dec_Cmp.ok k) mixed rfl Try.func48 (by kernel_rfl) (by kernel_rfl) (allL_of (l := []) (by kernel_rfl) allL_nil) (dec_Cmp.D k) dec_Cmp.mk dec_Cmp.re (by kernel_rfl) (by kernel_rfl) dec_Cmp.fit dec_Cmp.fitR (dec_Cmp.eq k)
/-! ### (*pyx/ledger.Book).Periods: function 45 -/
noncomputable def ledger_Book_Periods.f (k : Nat) (a0 : Sledger_Book) : Option (Speriod_Table × Sledger_Book) := some ((⟨pack 12 false a0.f_t.f_Closed, pack 12 0 a0.f_t.f_Version⟩ : Speriod_Table), (⟨a0.f_scale, a0.f_l, (⟨pack 12 false a0.f_t.f_Closed, pack 12 0 a0.f_t.f_Version⟩ : Speriod_Table)⟩ : Sledger_Book))
noncomputable def ledger_Book_Periods.un (s : St U) : Option Sledger_Book := match s.get 0, lk s.o 7000000000000, s.get 1000000000000000 with | .ptr 7000000000000 0, some (.lit (.flat (.int .i64 x1) :: x5 :: x3)), .ptr 7000000000000 0 => (tip_Sapi_Entry s.o 3 x5).bind fun ex2 => ((cd_Speriod_Table.full x3).bind fun x4 => (some (⟨x1, ex2.2, x4⟩ : Sledger_Book))) | _, _, _ => none
noncomputable def ledger_Book_Periods.mk (x : Sledger_Book) : St U := ⟨[(0, .ptr 7000000000000 0), (1000000000000000, .ptr 7000000000000 0)], [(7000000000000, .lit ((.flat (.int .i64 x.f_scale)) :: (.tip 7000000000002 C.Sapi_Entry x.f_l) :: cd_Speriod_Table.enc x.f_t)), (7000000000002, .tip 3)]⟩
noncomputable def ledger_Book_Periods.fin (y : (Speriod_Table × Sledger_Book)) : St U := ⟨[(0, .agg (cd_Speriod_Table.enc y.1)), (1000000000000000, .ptr 7000000000000 0)], [(7000000000000, .lit ((.flat (.int .i64 y.2.f_scale)) :: (.tip 7000000000002 C.Sapi_Entry y.2.f_l) :: cd_Speriod_Table.enc y.2.f_t)), (7000000000002, .tip 3)]⟩
noncomputable def ledger_Book_Periods.D (k : Nat) : FDen U := { X := Sledger_Book, Y := (Speriod_Table × Sledger_Book), nt := 10, gh := [0], un := ledger_Book_Periods.un, f := fun x => ledger_Book_Periods.f k (x), fin := ledger_Book_Periods.fin, cl := false, clo := fun h => by cases h }
noncomputable def ledger_Book_Periods.re (s : St U) : Option (Speriod_Table × Sledger_Book) := match s.get 0, s.get 1000000000000000, lk s.o 7000000000000 with | .agg x1, .ptr 7000000000000 0, some (.lit (.flat (.int .i64 x3) :: x7 :: x5)) => (cd_Speriod_Table.full x1).bind fun x2 => ((tip_Sapi_Entry s.o 3 x7).bind fun ex4 => ((cd_Speriod_Table.full x5).bind fun x6 => (some (x2, (⟨x3, ex4.2, x6⟩ : Sledger_Book))))) | _, _, _ => none
noncomputable def ledger_Book_Periods.jl : List (Nat × JDen U) := []
noncomputable def ledger_Book_Periods.fl (k : Nat) : List (Nat × FDen U) := []
noncomputable def ledger_Book_Periods.ll (k : Nat) : List (Nat × LDen U) := []
noncomputable def ledger_Book_Periods.E (k : Nat) : Env U := { P := Try.prog, D := DD, fd := lk (ledger_Book_Periods.fl k), ld := lk (ledger_Book_Periods.ll k), jd := lk ledger_Book_Periods.jl, mode := lk [], elc := lk ec, mpc := lk mc, rts := Try.f45.resultTypes.toList, dyn := fun t => false, vecs := fun d => false, results := Try.f45.results.toList, gh := [0], own := false, io := fun g i => false }
theorem ledger_Book_Periods.ok (k : Nat) : EnvOk (ledger_Book_Periods.E k) := envOk lawful (ledger_Book_Periods.fl k) (ledger_Book_Periods.ll k) ledger_Book_Periods.jl _ _ _ _ _ _ _ _ _ _ (by
  intro p hp
  simp [ledger_Book_Periods.fl] at hp) (by
  intro p hp
  simp [ledger_Book_Periods.jl] at hp)
theorem ledger_Book_Periods.eq (k : Nat) (x : Sledger_Book) : runF (ledger_Book_Periods.E k) (codeOf Try.f45) (ledger_Book_Periods.mk x) ledger_Book_Periods.re = (ledger_Book_Periods.D k).f x := by kernel_rfl
theorem ledger_Book_Periods.fit (s : St U) (x : Sledger_Book) (h : ledger_Book_Periods.un s = some x) : Fits s (ledger_Book_Periods.mk x) := by
  unfold ledger_Book_Periods.un at h
  split at h
  · obtain ⟨ex2, hex2, hh1⟩ := Option.bind_eq_some_iff.1 h
    obtain ⟨x4, hx4, hh2⟩ := Option.bind_eq_some_iff.1 hh1
    cases hh2
    refine fits_ren [(7000000000002, ex2.1)] ?_ ?_ ren_one rfl
    · exact List.forall_mem_cons.2 ⟨FV.one (FV.ptr (by assumption)), List.forall_mem_cons.2 ⟨FV.one (FV.ptr (by assumption)), fun _ hp => (List.not_mem_nil hp).elim⟩⟩
    · exact List.forall_mem_cons.2 ⟨FO.cells (show lk (St.o _) 7000000000000 = some _ from by assumption) (FCs.cons (c0_same rfl rfl) (FCs.cons ((tip_Sapi_Entry_fit hex2 rfl).1) (FCs.tail (Cd.full_ok hx4) rfl))), List.forall_mem_cons.2 ⟨(tip_Sapi_Entry_fit hex2 rfl).2, fun _ hp => (List.not_mem_nil hp).elim⟩⟩
  · cases h
theorem ledger_Book_Periods.fitR (s : St U) (y : (Speriod_Table × Sledger_Book)) (h : ledger_Book_Periods.re s = some y) : Fits s (ledger_Book_Periods.fin y) := by
  unfold ledger_Book_Periods.re at h
  split at h
  · obtain ⟨x2, hx2, hh1⟩ := Option.bind_eq_some_iff.1 h
    have hc1 := Cd.full_ok hx2
    clear hx2
    subst hc1
    obtain ⟨ex4, hex4, hh2⟩ := Option.bind_eq_some_iff.1 hh1
    obtain ⟨x6, hx6, hh3⟩ := Option.bind_eq_some_iff.1 hh2
    cases hh3
    refine fits_ren [(7000000000002, ex4.1)] ?_ ?_ ren_one rfl
    · exact List.forall_mem_cons.2 ⟨FV.one (FV.same (by assumption) rfl), List.forall_mem_cons.2 ⟨FV.one (FV.ptr (by assumption)), fun _ hp => (List.not_mem_nil hp).elim⟩⟩
    · exact List.forall_mem_cons.2 ⟨FO.cells (show lk (St.o _) 7000000000000 = some _ from by assumption) (FCs.cons (c0_same rfl rfl) (FCs.cons ((tip_Sapi_Entry_fit hex4 rfl).1) (FCs.tail (Cd.full_ok hx6) rfl))), List.forall_mem_cons.2 ⟨(tip_Sapi_Entry_fit hex4 rfl).2, fun _ hp => (List.not_mem_nil hp).elim⟩⟩
  · cases h
theorem ledger_Book_Periods.sound (k : Nat) : Sound Try.prog DD 45 (ledger_Book_Periods.D k) :=
  fun_sound (E := ledger_Book_Periods.E k) (fn := Try.f45) (c := codeOf Try.f45) (ledger_Book_Periods.ok k) mixed rfl Try.func45 (by kernel_rfl) (by kernel_rfl) (allL_of (l := []) (by kernel_rfl) allL_nil) (ledger_Book_Periods.D k) ledger_Book_Periods.mk ledger_Book_Periods.re (by kernel_rfl) (by kernel_rfl) ledger_Book_Periods.fit ledger_Book_Periods.fitR (ledger_Book_Periods.eq k)
/-! ### pyx/pyxlaw14.LedgerKnown: function 10 -/
noncomputable def pyxlaw14_LedgerKnown.l20.once (k : Nat) (x : (List Sapi_Line × Int × Int × Int × Int × Int × Int × Int × Int × Int × Int × Int × Int × Int × Int × Int × Int × List Sapi_Entry × Speriod_Table)) : Option ((List Sapi_Line × Int × Int × Int × Int × Int × Int × Int × Int × Int × Int × Int × Int × Int × Int × Int × Int × List Sapi_Entry × Speriod_Table) ⊕ ((List Sapi_Line × Int × Int × Int × Int × Int × Int × Int × Int × Int × Int × Int × Int × Int × Int × Int × Int × List Sapi_Entry × Speriod_Table) ⊕ Bool)) := match x with | (x121, x122, x123, x124, x125, x126, x127, x128, x129, x130, x131, x132, x133, x134, x135, x136, x94, x95, x120) => (ledger_Book_Entries.f k (⟨x94, x95, (⟨pack 12 false x120.f_Closed, pack 12 0 x120.f_Version⟩ : Speriod_Table)⟩ : Sledger_Book)).bind fun t137 => (cond (decide ((List.length t137.1 : Int) < 40)) ((ledger_Book_Post.f k (⟨t137.2.f_scale, t137.2.f_l, (⟨pack 12 false t137.2.f_t.f_Closed, pack 12 0 t137.2.f_t.f_Version⟩ : Speriod_Table)⟩ : Sledger_Book) 0 x121).bind fun t138 => (cond (t138.2.1 != 0) (some (.inr (.inr false))) (some (.inl (x121, x122, x123, x124, x125, x126, x127, x128, x129, x130, x131, x132, x133, x134, x135, x136, t138.2.2.f_scale, t138.2.2.f_l, (⟨pack 12 false t138.2.2.f_t.f_Closed, pack 12 0 t138.2.2.f_t.f_Version⟩ : Speriod_Table)))))) (some (.inr (.inl (x121, x122, x123, x124, x125, x126, x127, x128, x129, x130, x131, x132, x133, x134, x135, x136, t137.2.f_scale, t137.2.f_l, (⟨pack 12 false t137.2.f_t.f_Closed, pack 12 0 t137.2.f_t.f_Version⟩ : Speriod_Table))))))
noncomputable def pyxlaw14_LedgerKnown.f (k : Nat)  : Option Bool := (ledger_New.f k 9).bind fun t1 => ((((pyxlaw14_known.f k).bind fun t2 => (cond (!t2) (some (true, t1.f_scale, t1.f_l, (⟨pack 12 false t1.f_t.f_Closed, pack 12 0 t1.f_t.f_Version⟩ : Speriod_Table))) ((ledger_Book_Scale.f k (⟨t1.f_scale, t1.f_l, (⟨pack 12 false t1.f_t.f_Closed, pack 12 0 t1.f_t.f_Version⟩ : Speriod_Table)⟩ : Sledger_Book)).bind fun t31 => (some (t31.1 != 4, t31.2.f_scale, t31.2.f_l, (⟨pack 12 false t31.2.f_t.f_Closed, pack 12 0 t31.2.f_t.f_Version⟩ : Speriod_Table)))))) : Option (Bool × Int × List Sapi_Entry × Speriod_Table)).bind fun y32 => (cond (y32.1) (some false) ((pyxhand_Lines.f k ([] : List Int) 4 0 2).bind fun t33 => ((ledger_Book_Post.f k (⟨y32.2.1, y32.2.2.1, (⟨pack 12 false y32.2.2.2.f_Closed, pack 12 0 y32.2.2.2.f_Version⟩ : Speriod_Table)⟩ : Sledger_Book) 0 ([] : List Sapi_Line)).bind fun t34 => ((ledger_Book_Post.f k (⟨t34.2.2.f_scale, t34.2.2.f_l, (⟨pack 12 false t34.2.2.f_t.f_Closed, pack 12 0 t34.2.2.f_t.f_Version⟩ : Speriod_Table)⟩ : Sledger_Book) 12 t33).bind fun t35 => ((ledger_Book_Post.f k (⟨t35.2.2.f_scale, t35.2.2.f_l, (⟨pack 12 false t35.2.2.f_t.f_Closed, pack 12 0 t35.2.2.f_t.f_Version⟩ : Speriod_Table)⟩ : Sledger_Book) 1 t33).bind fun t36 => ((ledger_Book_Reverse.f k (⟨t36.2.2.f_scale, t36.2.2.f_l, (⟨pack 12 false t36.2.2.f_t.f_Closed, pack 12 0 t36.2.2.f_t.f_Version⟩ : Speriod_Table)⟩ : Sledger_Book) 0 2).bind fun t37 => ((ledger_Book_Reverse.f k (⟨t37.2.2.f_scale, t37.2.2.f_l, (⟨pack 12 false t37.2.2.f_t.f_Closed, pack 12 0 t37.2.2.f_t.f_Version⟩ : Speriod_Table)⟩ : Sledger_Book) 0 2).bind fun t38 => ((ledger_Book_Reverse.f k (⟨t38.2.2.f_scale, t38.2.2.f_l, (⟨pack 12 false t38.2.2.f_t.f_Closed, pack 12 0 t38.2.2.f_t.f_Version⟩ : Speriod_Table)⟩ : Sledger_Book) 1 2).bind fun t39 => ((ledger_Book_Reverse.f k (⟨t39.2.2.f_scale, t39.2.2.f_l, (⟨pack 12 false t39.2.2.f_t.f_Closed, pack 12 0 t39.2.2.f_t.f_Version⟩ : Speriod_Table)⟩ : Sledger_Book) 2 2).bind fun t40 => ((ledger_Book_Close.f k (⟨t40.2.2.f_scale, t40.2.2.f_l, (⟨pack 12 false t40.2.2.f_t.f_Closed, pack 12 0 t40.2.2.f_t.f_Version⟩ : Speriod_Table)⟩ : Sledger_Book) 0).bind fun t41 => ((ledger_Book_Post.f k (⟨t41.2.f_scale, t41.2.f_l, (⟨pack 12 false t41.2.f_t.f_Closed, pack 12 0 t41.2.f_t.f_Version⟩ : Speriod_Table)⟩ : Sledger_Book) 0 t33).bind fun t42 => ((ledger_Book_Close.f k (⟨t42.2.2.f_scale, t42.2.2.f_l, (⟨pack 12 false t42.2.2.f_t.f_Closed, pack 12 0 t42.2.2.f_t.f_Version⟩ : Speriod_Table)⟩ : Sledger_Book) 2).bind fun t43 => ((ledger_Book_Reopen.f k (⟨t43.2.f_scale, t43.2.f_l, (⟨pack 12 false t43.2.f_t.f_Closed, pack 12 0 t43.2.f_t.f_Version⟩ : Speriod_Table)⟩ : Sledger_Book) 0).bind fun t44 => ((ledger_Book_Post.f k (⟨t44.2.f_scale, t44.2.f_l, (⟨pack 12 false t44.2.f_t.f_Closed, pack 12 0 t44.2.f_t.f_Version⟩ : Speriod_Table)⟩ : Sledger_Book) 0 t33).bind fun t45 => ((ledger_Book_Entries.f k (⟨t45.2.2.f_scale, t45.2.2.f_l, (⟨pack 12 false t45.2.2.f_t.f_Closed, pack 12 0 t45.2.2.f_t.f_Version⟩ : Speriod_Table)⟩ : Sledger_Book)).bind fun t46 => (((cond ((List.length t46.1 : Int) != 3) (some (t33, t34.2.1, t35.2.1, t36.1, t36.2.1, t37.1, t37.2.1, t38.2.1, t39.2.1, t40.2.1, t41.1, t42.2.1, t43.1, t44.1, t45.1, t45.2.1, true, t46.2.f_scale, t46.2.f_l, (⟨pack 12 false t46.2.f_t.f_Closed, pack 12 0 t46.2.f_t.f_Version⟩ : Speriod_Table))) (cond (inb 1 (List.length t46.1)) (cond (((List.getD t46.1 1 Sapi_Entry.zero).f_Of) != 0) (some (t33, t34.2.1, t35.2.1, t36.1, t36.2.1, t37.1, t37.2.1, t38.2.1, t39.2.1, t40.2.1, t41.1, t42.2.1, t43.1, t44.1, t45.1, t45.2.1, true, t46.2.f_scale, t46.2.f_l, (⟨pack 12 false t46.2.f_t.f_Closed, pack 12 0 t46.2.f_t.f_Version⟩ : Speriod_Table))) (cond (inb 1 (List.length t46.1)) (cond (((List.getD t46.1 1 Sapi_Entry.zero).f_Period) != 2) (some (t33, t34.2.1, t35.2.1, t36.1, t36.2.1, t37.1, t37.2.1, t38.2.1, t39.2.1, t40.2.1, t41.1, t42.2.1, t43.1, t44.1, t45.1, t45.2.1, true, t46.2.f_scale, t46.2.f_l, (⟨pack 12 false t46.2.f_t.f_Closed, pack 12 0 t46.2.f_t.f_Version⟩ : Speriod_Table))) (cond (inb 1 (List.length t46.1)) (cond (inb 0 (List.length ((List.getD t46.1 1 Sapi_Entry.zero).f_Lines))) (cond (inb 0 (List.length t33)) ((dec_Neg.f k (⟨((List.getD t33 0 Sapi_Line.zero).f_Amount).f_Neg, ((((List.getD t33 0 Sapi_Line.zero).f_Amount).f_C).1, (((List.getD t33 0 Sapi_Line.zero).f_Amount).f_C).2), ((List.getD t33 0 Sapi_Line.zero).f_Amount).f_Scale⟩ : Sapi_Dec)).bind fun t91 => ((dec_Cmp.f k (⟨((List.getD ((List.getD t46.1 1 Sapi_Entry.zero).f_Lines) 0 Sapi_Line.zero).f_Amount).f_Neg, ((((List.getD ((List.getD t46.1 1 Sapi_Entry.zero).f_Lines) 0 Sapi_Line.zero).f_Amount).f_C).1, (((List.getD ((List.getD t46.1 1 Sapi_Entry.zero).f_Lines) 0 Sapi_Line.zero).f_Amount).f_C).2), ((List.getD ((List.getD t46.1 1 Sapi_Entry.zero).f_Lines) 0 Sapi_Line.zero).f_Amount).f_Scale⟩ : Sapi_Dec) (⟨t91.f_Neg, (t91.f_C.1, t91.f_C.2), t91.f_Scale⟩ : Sapi_Dec)).bind fun t92 => (some (t33, t34.2.1, t35.2.1, t36.1, t36.2.1, t37.1, t37.2.1, t38.2.1, t39.2.1, t40.2.1, t41.1, t42.2.1, t43.1, t44.1, t45.1, t45.2.1, t92 != 0, t46.2.f_scale, t46.2.f_l, (⟨pack 12 false t46.2.f_t.f_Closed, pack 12 0 t46.2.f_t.f_Version⟩ : Speriod_Table))))) none) none) none)) none)) none)) : Option (List Sapi_Line × Int × Int × Int × Int × Int × Int × Int × Int × Int × Int × Int × Int × Int × Int × Int × Bool × Int × List Sapi_Entry × Speriod_Table)).bind fun y93 => (cond (y93.2.2.2.2.2.2.2.2.2.2.2.2.2.2.2.2.1) (some false) ((iter (pyxlaw14_LedgerKnown.l20.once k) k (y93.1, y93.2.1, y93.2.2.1, y93.2.2.2.1, y93.2.2.2.2.1, y93.2.2.2.2.2.1, y93.2.2.2.2.2.2.1, y93.2.2.2.2.2.2.2.1, y93.2.2.2.2.2.2.2.2.1, y93.2.2.2.2.2.2.2.2.2.1, y93.2.2.2.2.2.2.2.2.2.2.1, y93.2.2.2.2.2.2.2.2.2.2.2.1, y93.2.2.2.2.2.2.2.2.2.2.2.2.1, y93.2.2.2.2.2.2.2.2.2.2.2.2.2.1, y93.2.2.2.2.2.2.2.2.2.2.2.2.2.2.1, y93.2.2.2.2.2.2.2.2.2.2.2.2.2.2.2.1, y93.2.2.2.2.2.2.2.2.2.2.2.2.2.2.2.2.2.1, y93.2.2.2.2.2.2.2.2.2.2.2.2.2.2.2.2.2.2.1, (⟨pack 12 false y93.2.2.2.2.2.2.2.2.2.2.2.2.2.2.2.2.2.2.2.f_Closed, pack 12 0 y93.2.2.2.2.2.2.2.2.2.2.2.2.2.2.2.2.2.2.2.f_Version⟩ : Speriod_Table))).bind fun | .inl y183 => ((ledger_Book_Post.f k (⟨y183.2.2.2.2.2.2.2.2.2.2.2.2.2.2.2.2.1, y183.2.2.2.2.2.2.2.2.2.2.2.2.2.2.2.2.2.1, (⟨pack 12 false y183.2.2.2.2.2.2.2.2.2.2.2.2.2.2.2.2.2.2.f_Closed, pack 12 0 y183.2.2.2.2.2.2.2.2.2.2.2.2.2.2.2.2.2.2.f_Version⟩ : Speriod_Table)⟩ : Sledger_Book) 0 y183.1).bind fun t184 => ((ledger_Book_Reverse.f k (⟨t184.2.2.f_scale, t184.2.2.f_l, (⟨pack 12 false t184.2.2.f_t.f_Closed, pack 12 0 t184.2.2.f_t.f_Version⟩ : Speriod_Table)⟩ : Sledger_Book) 2 0).bind fun t185 => ((ledger_Book_Reverse.f k (⟨t185.2.2.f_scale, t185.2.2.f_l, (⟨pack 12 false t185.2.2.f_t.f_Closed, pack 12 0 t185.2.2.f_t.f_Version⟩ : Speriod_Table)⟩ : Sledger_Book) 2 12).bind fun t186 => (cond (y183.2.1 == 1) (cond (y183.2.2.1 == 8) (cond (y183.2.2.2.1 == 0) (cond (y183.2.2.2.2.1 == 0) (cond (y183.2.2.2.2.2.1 == 1) (cond (y183.2.2.2.2.2.2.1 == 0) (cond (y183.2.2.2.2.2.2.2.1 == 13) (cond (y183.2.2.2.2.2.2.2.2.1 == 13) (cond (y183.2.2.2.2.2.2.2.2.2.1 == 10) (cond (y183.2.2.2.2.2.2.2.2.2.2.1 == 0) (cond (y183.2.2.2.2.2.2.2.2.2.2.2.1 == 8) (cond (y183.2.2.2.2.2.2.2.2.2.2.2.2.1 == 8) (cond (y183.2.2.2.2.2.2.2.2.2.2.2.2.2.1 == 0) (cond (y183.2.2.2.2.2.2.2.2.2.2.2.2.2.2.1 == 2) (cond (y183.2.2.2.2.2.2.2.2.2.2.2.2.2.2.2.1 == 0) (cond (t184.2.1 == 5) (cond (t185.2.1 == 5) (cond (t186.2.1 == 8) ((ledger_Book_Periods.f k (⟨t186.2.2.f_scale, t186.2.2.f_l, (⟨pack 12 false t186.2.2.f_t.f_Closed, pack 12 0 t186.2.2.f_t.f_Version⟩ : Speriod_Table)⟩ : Sledger_Book)).bind fun t187 => (some ((List.getD t187.1.f_Version 0 0) == 1))) (some false)) (some false)) (some false)) (some false)) (some false)) (some false)) (some false)) (some false)) (some false)) (some false)) (some false)) (some false)) (some false)) (some false)) (some false)) (some false)) (some false)) (some false))))) | .inr y188 => (some y188))))))))))))))))))))
noncomputable def pyxlaw14_LedgerKnown.un (s : St U) : Option Unit := some ()
noncomputable def pyxlaw14_LedgerKnown.mk (x : Unit) : St U := ⟨[], []⟩
noncomputable def pyxlaw14_LedgerKnown.fin (y : Bool) : St U := ⟨[(0, .flat (.bool y))], []⟩
noncomputable def pyxlaw14_LedgerKnown.D (k : Nat) : FDen U := { X := Unit, Y := Bool, nt := 241, gh := [], un := pyxlaw14_LedgerKnown.un, f := fun x => pyxlaw14_LedgerKnown.f k , fin := pyxlaw14_LedgerKnown.fin, cl := true, clo := fun _ _ => rfl }
noncomputable def pyxlaw14_LedgerKnown.re (s : St U) : Option Bool := match s.get 0 with | .flat (.bool x1) => some x1 | _ => none
noncomputable def pyxlaw14_LedgerKnown.l20.mk (x : (List Sapi_Line × Int × Int × Int × Int × Int × Int × Int × Int × Int × Int × Int × Int × Int × Int × Int × Int × List Sapi_Entry × Speriod_Table)) : St U := match x with | (x121, x122, x123, x124, x125, x126, x127, x128, x129, x130, x131, x132, x133, x134, x135, x136, x94, x95, x120) => ⟨[(1, .ptr 340000000000007 0), (2, .row C.Sapi_Line x121), (4, .flat (.int .i64 x122)), (6, .flat (.int .i64 x123)), (7, .flat (.int .i64 x124)), (8, .flat (.int .i64 x125)), (9, .flat (.int .i64 x126)), (10, .flat (.int .i64 x127)), (12, .flat (.int .i64 x128)), (14, .flat (.int .i64 x129)), (16, .flat (.int .i64 x130)), (17, .flat (.int .i64 x131)), (19, .flat (.int .i64 x132)), (20, .flat (.int .i64 x133)), (21, .flat (.int .i64 x134)), (22, .flat (.int .i64 x135)), (23, .flat (.int .i64 x136))], [(340000000000007, .lit ((.flat (.int .i64 x94)) :: (.tip 34000002002000701 C.Sapi_Entry x95) :: cd_Speriod_Table.enc x120)), (34000002002000701, .tip 3)]⟩
noncomputable def pyxlaw14_LedgerKnown.l20.un (s : St U) : Option (List Sapi_Line × Int × Int × Int × Int × Int × Int × Int × Int × Int × Int × Int × Int × Int × Int × Int × Int × List Sapi_Entry × Speriod_Table) := (row_Sapi_Line (s.get 2)).bind fun q0 => (match s.get 1, s.get 4, s.get 6, s.get 7, s.get 8, s.get 9, s.get 10, s.get 12, s.get 14, s.get 16, s.get 17, s.get 19, s.get 20, s.get 21, s.get 22, s.get 23, lk s.o 340000000000007 with | .ptr 340000000000007 0, .flat (.int .i64 x122), .flat (.int .i64 x123), .flat (.int .i64 x124), .flat (.int .i64 x125), .flat (.int .i64 x126), .flat (.int .i64 x127), .flat (.int .i64 x128), .flat (.int .i64 x129), .flat (.int .i64 x130), .flat (.int .i64 x131), .flat (.int .i64 x132), .flat (.int .i64 x133), .flat (.int .i64 x134), .flat (.int .i64 x135), .flat (.int .i64 x136), some (.lit (.flat (.int .i64 x94) :: u340000000000007_1 :: u340000000000007_t)) => (tip_Sapi_Entry s.o 3 u340000000000007_1).bind fun w340000000000007_1 => ((cd_Speriod_Table.full u340000000000007_t).bind fun w340000000000007_t => (some (q0, x122, x123, x124, x125, x126, x127, x128, x129, x130, x131, x132, x133, x134, x135, x136, x94, w340000000000007_1.2, w340000000000007_t))) | _, _, _, _, _, _, _, _, _, _, _, _, _, _, _, _, _ => none)
noncomputable def pyxlaw14_LedgerKnown.l20.fin (y : (List Sapi_Line × Int × Int × Int × Int × Int × Int × Int × Int × Int × Int × Int × Int × Int × Int × Int × Int × List Sapi_Entry × Speriod_Table) ⊕ Bool) : Out U := match y with | .inl (x166, x167, x168, x169, x170, x171, x172, x173, x174, x175, x176, x177, x178, x179, x180, x181, x139, x140, x165) => .exit 0 ⟨[(1, .ptr 340000000000007 0), (2, .row C.Sapi_Line x166), (4, .flat (.int .i64 x167)), (6, .flat (.int .i64 x168)), (7, .flat (.int .i64 x169)), (8, .flat (.int .i64 x170)), (9, .flat (.int .i64 x171)), (10, .flat (.int .i64 x172)), (12, .flat (.int .i64 x173)), (14, .flat (.int .i64 x174)), (16, .flat (.int .i64 x175)), (17, .flat (.int .i64 x176)), (19, .flat (.int .i64 x177)), (20, .flat (.int .i64 x178)), (21, .flat (.int .i64 x179)), (22, .flat (.int .i64 x180)), (23, .flat (.int .i64 x181))], [(340000000000007, .lit ((.flat (.int .i64 x139)) :: (.tip 34000002002000701 C.Sapi_Entry x140) :: cd_Speriod_Table.enc x165)), (34000002002000701, .tip 3)]⟩ | .inr z => .ret (⟨[(0, .flat (.bool z))], []⟩)
noncomputable def pyxlaw14_LedgerKnown.l20.finK {ρ : Type} (y : (List Sapi_Line × Int × Int × Int × Int × Int × Int × Int × Int × Int × Int × Int × Int × Int × Int × Int × Int × List Sapi_Entry × Speriod_Table) ⊕ Bool) (K : Out U → Option ρ) : Option ρ := match y with | .inl (x166, x167, x168, x169, x170, x171, x172, x173, x174, x175, x176, x177, x178, x179, x180, x181, x139, x140, x165) => K (.exit 0 ⟨[(1, .ptr 340000000000007 0), (2, .row C.Sapi_Line x166), (4, .flat (.int .i64 x167)), (6, .flat (.int .i64 x168)), (7, .flat (.int .i64 x169)), (8, .flat (.int .i64 x170)), (9, .flat (.int .i64 x171)), (10, .flat (.int .i64 x172)), (12, .flat (.int .i64 x173)), (14, .flat (.int .i64 x174)), (16, .flat (.int .i64 x175)), (17, .flat (.int .i64 x176)), (19, .flat (.int .i64 x177)), (20, .flat (.int .i64 x178)), (21, .flat (.int .i64 x179)), (22, .flat (.int .i64 x180)), (23, .flat (.int .i64 x181))], [(340000000000007, .lit ((.flat (.int .i64 x139)) :: (.tip 34000002002000701 C.Sapi_Entry x140) :: cd_Speriod_Table.enc x165)), (34000002002000701, .tip 3)]⟩) | .inr z => K (.ret (⟨[(0, .flat (.bool z))], []⟩))
theorem pyxlaw14_LedgerKnown.l20.finK_eq {ρ : Type} (y : (List Sapi_Line × Int × Int × Int × Int × Int × Int × Int × Int × Int × Int × Int × Int × Int × Int × Int × Int × List Sapi_Entry × Speriod_Table) ⊕ Bool) (K : Out U → Option ρ) : pyxlaw14_LedgerKnown.l20.finK y K = K (pyxlaw14_LedgerKnown.l20.fin y) := by
  unfold pyxlaw14_LedgerKnown.l20.finK pyxlaw14_LedgerKnown.l20.fin
  first | rfl | (split <;> rfl)
noncomputable def pyxlaw14_LedgerKnown.l20.re : Out U → Option ((List Sapi_Line × Int × Int × Int × Int × Int × Int × Int × Int × Int × Int × Int × Int × Int × Int × Int × Int × List Sapi_Entry × Speriod_Table) ⊕ Bool) | .exit 0 s => ((row_Sapi_Line (s.get 2)).bind fun q0 => (match s.get 1, s.get 4, s.get 6, s.get 7, s.get 8, s.get 9, s.get 10, s.get 12, s.get 14, s.get 16, s.get 17, s.get 19, s.get 20, s.get 21, s.get 22, s.get 23, lk s.o 340000000000007 with | .ptr 340000000000007 0, .flat (.int .i64 x167), .flat (.int .i64 x168), .flat (.int .i64 x169), .flat (.int .i64 x170), .flat (.int .i64 x171), .flat (.int .i64 x172), .flat (.int .i64 x173), .flat (.int .i64 x174), .flat (.int .i64 x175), .flat (.int .i64 x176), .flat (.int .i64 x177), .flat (.int .i64 x178), .flat (.int .i64 x179), .flat (.int .i64 x180), .flat (.int .i64 x181), some (.lit (.flat (.int .i64 x139) :: u340000000000007_1 :: u340000000000007_t)) => (tip_Sapi_Entry s.o 3 u340000000000007_1).bind fun w340000000000007_1 => ((cd_Speriod_Table.full u340000000000007_t).bind fun w340000000000007_t => (some (.inl (q0, x167, x168, x169, x170, x171, x172, x173, x174, x175, x176, x177, x178, x179, x180, x181, x139, w340000000000007_1.2, w340000000000007_t)))) | _, _, _, _, _, _, _, _, _, _, _, _, _, _, _, _, _ => none)) | .ret s => (match s.get 0 with | .flat (.bool x1) => some (.inr x1) | _ => none) | _ => none
noncomputable def pyxlaw14_LedgerKnown.l20.L (k : Nat) : LDen U := { X := (List Sapi_Line × Int × Int × Int × Int × Int × Int × Int × Int × Int × Int × Int × Int × Int × Int × Int × Int × List Sapi_Entry × Speriod_Table), Y := (List Sapi_Line × Int × Int × Int × Int × Int × Int × Int × Int × Int × Int × Int × Int × Int × Int × Int × Int × List Sapi_Entry × Speriod_Table) ⊕ Bool, un := pyxlaw14_LedgerKnown.l20.un, f := iter (pyxlaw14_LedgerKnown.l20.once k) k, fin := pyxlaw14_LedgerKnown.l20.fin, finK := pyxlaw14_LedgerKnown.l20.finK, finK_eq := pyxlaw14_LedgerKnown.l20.finK_eq }
noncomputable def pyxlaw14_LedgerKnown.j2000.fin (y : (Bool × Int × List Sapi_Entry × Speriod_Table)) : Out U := match y with | (x30, x3, x4, x29) => .norm ⟨[(1, .ptr 340000000000007 0), (44, .flat (.bool x30))], [(340000000000007, .lit ((.flat (.int .i64 x3)) :: (.tip 34000102200000701 C.Sapi_Entry x4) :: cd_Speriod_Table.enc x29)), (34000102200000701, .tip 3)]⟩
noncomputable def pyxlaw14_LedgerKnown.j2000.finK {ρ : Type} (y : (Bool × Int × List Sapi_Entry × Speriod_Table)) (K : Out U → Option ρ) : Option ρ := match y with | (x30, x3, x4, x29) => K (.norm ⟨[(1, .ptr 340000000000007 0), (44, .flat (.bool x30))], [(340000000000007, .lit ((.flat (.int .i64 x3)) :: (.tip 34000102200000701 C.Sapi_Entry x4) :: cd_Speriod_Table.enc x29)), (34000102200000701, .tip 3)]⟩)
theorem pyxlaw14_LedgerKnown.j2000.finK_eq {ρ : Type} (y : (Bool × Int × List Sapi_Entry × Speriod_Table)) (K : Out U → Option ρ) : pyxlaw14_LedgerKnown.j2000.finK y K = K (pyxlaw14_LedgerKnown.j2000.fin y) := by
  unfold pyxlaw14_LedgerKnown.j2000.finK pyxlaw14_LedgerKnown.j2000.fin
  first | rfl | (split <;> rfl)
noncomputable def pyxlaw14_LedgerKnown.j2000.re : Out U → Option ((Bool × Int × List Sapi_Entry × Speriod_Table)) | .norm s => (match s.get 1, s.get 44, lk s.o 340000000000007 with | .ptr 340000000000007 0, .flat (.bool x30), some (.lit (.flat (.int .i64 x3) :: u340000000000007_1 :: u340000000000007_t)) => (tip_Sapi_Entry s.o 3 u340000000000007_1).bind fun w340000000000007_1 => ((cd_Speriod_Table.full u340000000000007_t).bind fun w340000000000007_t => (some (x30, x3, w340000000000007_1.2, w340000000000007_t))) | _, _, _ => none) | _ => none
noncomputable def pyxlaw14_LedgerKnown.j2000.J : JDen U := { Y := (Bool × Int × List Sapi_Entry × Speriod_Table), re := pyxlaw14_LedgerKnown.j2000.re, fin := pyxlaw14_LedgerKnown.j2000.fin, finK := pyxlaw14_LedgerKnown.j2000.finK, finK_eq := pyxlaw14_LedgerKnown.j2000.finK_eq }
theorem pyxlaw14_LedgerKnown.j2000.fit (o : Out U) (y : (Bool × Int × List Sapi_Entry × Speriod_Table)) (h : pyxlaw14_LedgerKnown.j2000.re o = some y) : FitsO o (pyxlaw14_LedgerKnown.j2000.fin y) := by
  unfold pyxlaw14_LedgerKnown.j2000.re at h
  split at h
  · split at h
    · obtain ⟨w340000000000007_1, ew340000000000007_1, h1⟩ := Option.bind_eq_some_iff.1 h
      obtain ⟨w340000000000007_t, ew340000000000007_t, h2⟩ := Option.bind_eq_some_iff.1 h1
      cases h2
      refine fitsO_norm (fits_ren [(34000102200000701, w340000000000007_1.1)] ?_ ?_ ren_one rfl)
      · exact List.forall_mem_cons.2 ⟨FV.one (FV.ptr (by assumption)), List.forall_mem_cons.2 ⟨FV.one (FV.same (by assumption) rfl), fun _ hp => (List.not_mem_nil hp).elim⟩⟩
      · exact List.forall_mem_cons.2 ⟨(FO.cells (show lk (St.o _) 340000000000007 = some _ from by assumption) (FCs.cons (c0_same rfl rfl) (FCs.cons ((tip_Sapi_Entry_fit ew340000000000007_1 rfl).1) (FCs.tail (Cd.full_ok ew340000000000007_t) rfl)))), List.forall_mem_cons.2 ⟨(tip_Sapi_Entry_fit ew340000000000007_1 rfl).2, fun _ hp => (List.not_mem_nil hp).elim⟩⟩
    · cases h
  · cases h
noncomputable def pyxlaw14_LedgerKnown.j18000.fin (y : (List Sapi_Line × Int × Int × Int × Int × Int × Int × Int × Int × Int × Int × Int × Int × Int × Int × Int × Bool × Int × List Sapi_Entry × Speriod_Table)) : Out U := match y with | (x74, x75, x76, x77, x78, x79, x80, x81, x82, x83, x84, x85, x86, x87, x88, x89, x90, x47, x48, x73) => .norm ⟨[(1, .ptr 340000000000007 0), (2, .row C.Sapi_Line x74), (4, .flat (.int .i64 x75)), (6, .flat (.int .i64 x76)), (7, .flat (.int .i64 x77)), (8, .flat (.int .i64 x78)), (9, .flat (.int .i64 x79)), (10, .flat (.int .i64 x80)), (12, .flat (.int .i64 x81)), (14, .flat (.int .i64 x82)), (16, .flat (.int .i64 x83)), (17, .flat (.int .i64 x84)), (19, .flat (.int .i64 x85)), (20, .flat (.int .i64 x86)), (21, .flat (.int .i64 x87)), (22, .flat (.int .i64 x88)), (23, .flat (.int .i64 x89)), (135, .flat (.bool x90))], [(340000000000007, .lit ((.flat (.int .i64 x47)) :: (.tip 34000103800000701 C.Sapi_Entry x48) :: cd_Speriod_Table.enc x73)), (34000103800000701, .tip 3)]⟩
noncomputable def pyxlaw14_LedgerKnown.j18000.finK {ρ : Type} (y : (List Sapi_Line × Int × Int × Int × Int × Int × Int × Int × Int × Int × Int × Int × Int × Int × Int × Int × Bool × Int × List Sapi_Entry × Speriod_Table)) (K : Out U → Option ρ) : Option ρ := match y with | (x74, x75, x76, x77, x78, x79, x80, x81, x82, x83, x84, x85, x86, x87, x88, x89, x90, x47, x48, x73) => K (.norm ⟨[(1, .ptr 340000000000007 0), (2, .row C.Sapi_Line x74), (4, .flat (.int .i64 x75)), (6, .flat (.int .i64 x76)), (7, .flat (.int .i64 x77)), (8, .flat (.int .i64 x78)), (9, .flat (.int .i64 x79)), (10, .flat (.int .i64 x80)), (12, .flat (.int .i64 x81)), (14, .flat (.int .i64 x82)), (16, .flat (.int .i64 x83)), (17, .flat (.int .i64 x84)), (19, .flat (.int .i64 x85)), (20, .flat (.int .i64 x86)), (21, .flat (.int .i64 x87)), (22, .flat (.int .i64 x88)), (23, .flat (.int .i64 x89)), (135, .flat (.bool x90))], [(340000000000007, .lit ((.flat (.int .i64 x47)) :: (.tip 34000103800000701 C.Sapi_Entry x48) :: cd_Speriod_Table.enc x73)), (34000103800000701, .tip 3)]⟩)
theorem pyxlaw14_LedgerKnown.j18000.finK_eq {ρ : Type} (y : (List Sapi_Line × Int × Int × Int × Int × Int × Int × Int × Int × Int × Int × Int × Int × Int × Int × Int × Bool × Int × List Sapi_Entry × Speriod_Table)) (K : Out U → Option ρ) : pyxlaw14_LedgerKnown.j18000.finK y K = K (pyxlaw14_LedgerKnown.j18000.fin y) := by
  unfold pyxlaw14_LedgerKnown.j18000.finK pyxlaw14_LedgerKnown.j18000.fin
  first | rfl | (split <;> rfl)
noncomputable def pyxlaw14_LedgerKnown.j18000.re : Out U → Option ((List Sapi_Line × Int × Int × Int × Int × Int × Int × Int × Int × Int × Int × Int × Int × Int × Int × Int × Bool × Int × List Sapi_Entry × Speriod_Table)) | .norm s => ((row_Sapi_Line (s.get 2)).bind fun q0 => (match s.get 1, s.get 4, s.get 6, s.get 7, s.get 8, s.get 9, s.get 10, s.get 12, s.get 14, s.get 16, s.get 17, s.get 19, s.get 20, s.get 21, s.get 22, s.get 23, s.get 135, lk s.o 340000000000007 with | .ptr 340000000000007 0, .flat (.int .i64 x75), .flat (.int .i64 x76), .flat (.int .i64 x77), .flat (.int .i64 x78), .flat (.int .i64 x79), .flat (.int .i64 x80), .flat (.int .i64 x81), .flat (.int .i64 x82), .flat (.int .i64 x83), .flat (.int .i64 x84), .flat (.int .i64 x85), .flat (.int .i64 x86), .flat (.int .i64 x87), .flat (.int .i64 x88), .flat (.int .i64 x89), .flat (.bool x90), some (.lit (.flat (.int .i64 x47) :: u340000000000007_1 :: u340000000000007_t)) => (tip_Sapi_Entry s.o 3 u340000000000007_1).bind fun w340000000000007_1 => ((cd_Speriod_Table.full u340000000000007_t).bind fun w340000000000007_t => (some (q0, x75, x76, x77, x78, x79, x80, x81, x82, x83, x84, x85, x86, x87, x88, x89, x90, x47, w340000000000007_1.2, w340000000000007_t))) | _, _, _, _, _, _, _, _, _, _, _, _, _, _, _, _, _, _ => none)) | _ => none
noncomputable def pyxlaw14_LedgerKnown.j18000.J : JDen U := { Y := (List Sapi_Line × Int × Int × Int × Int × Int × Int × Int × Int × Int × Int × Int × Int × Int × Int × Int × Bool × Int × List Sapi_Entry × Speriod_Table), re := pyxlaw14_LedgerKnown.j18000.re, fin := pyxlaw14_LedgerKnown.j18000.fin, finK := pyxlaw14_LedgerKnown.j18000.finK, finK_eq := pyxlaw14_LedgerKnown.j18000.finK_eq }
theorem pyxlaw14_LedgerKnown.j18000.fit (o : Out U) (y : (List Sapi_Line × Int × Int × Int × Int × Int × Int × Int × Int × Int × Int × Int × Int × Int × Int × Int × Bool × Int × List Sapi_Entry × Speriod_Table)) (h : pyxlaw14_LedgerKnown.j18000.re o = some y) : FitsO o (pyxlaw14_LedgerKnown.j18000.fin y) := by
  unfold pyxlaw14_LedgerKnown.j18000.re at h
  split at h
  · obtain ⟨q0, eq0, h1⟩ := Option.bind_eq_some_iff.1 h
    split at h1
    · obtain ⟨w340000000000007_1, ew340000000000007_1, h2⟩ := Option.bind_eq_some_iff.1 h1
      obtain ⟨w340000000000007_t, ew340000000000007_t, h3⟩ := Option.bind_eq_some_iff.1 h2
      cases h3
      refine fitsO_norm (fits_ren [(34000103800000701, w340000000000007_1.1)] ?_ ?_ ren_one rfl)
      · exact List.forall_mem_cons.2 ⟨FV.one (FV.ptr (by assumption)), List.forall_mem_cons.2 ⟨FV.one (row_Sapi_Line_fit eq0), List.forall_mem_cons.2 ⟨FV.one (FV.same (by assumption) rfl), List.forall_mem_cons.2 ⟨FV.one (FV.same (by assumption) rfl), List.forall_mem_cons.2 ⟨FV.one (FV.same (by assumption) rfl), List.forall_mem_cons.2 ⟨FV.one (FV.same (by assumption) rfl), List.forall_mem_cons.2 ⟨FV.one (FV.same (by assumption) rfl), List.forall_mem_cons.2 ⟨FV.one (FV.same (by assumption) rfl), List.forall_mem_cons.2 ⟨FV.one (FV.same (by assumption) rfl), List.forall_mem_cons.2 ⟨FV.one (FV.same (by assumption) rfl), List.forall_mem_cons.2 ⟨FV.one (FV.same (by assumption) rfl), List.forall_mem_cons.2 ⟨FV.one (FV.same (by assumption) rfl), List.forall_mem_cons.2 ⟨FV.one (FV.same (by assumption) rfl), List.forall_mem_cons.2 ⟨FV.one (FV.same (by assumption) rfl), List.forall_mem_cons.2 ⟨FV.one (FV.same (by assumption) rfl), List.forall_mem_cons.2 ⟨FV.one (FV.same (by assumption) rfl), List.forall_mem_cons.2 ⟨FV.one (FV.same (by assumption) rfl), List.forall_mem_cons.2 ⟨FV.one (FV.same (by assumption) rfl), fun _ hp => (List.not_mem_nil hp).elim⟩⟩⟩⟩⟩⟩⟩⟩⟩⟩⟩⟩⟩⟩⟩⟩⟩⟩
      · exact List.forall_mem_cons.2 ⟨(FO.cells (show lk (St.o _) 340000000000007 = some _ from by assumption) (FCs.cons (c0_same rfl rfl) (FCs.cons ((tip_Sapi_Entry_fit ew340000000000007_1 rfl).1) (FCs.tail (Cd.full_ok ew340000000000007_t) rfl)))), List.forall_mem_cons.2 ⟨(tip_Sapi_Entry_fit ew340000000000007_1 rfl).2, fun _ hp => (List.not_mem_nil hp).elim⟩⟩
    · cases h1
  · cases h
noncomputable def pyxlaw14_LedgerKnown.jl : List (Nat × JDen U) := [(2000, pyxlaw14_LedgerKnown.j2000.J), (18000, pyxlaw14_LedgerKnown.j18000.J)]
noncomputable def pyxlaw14_LedgerKnown.fl (k : Nat) : List (Nat × FDen U) := [(27, ledger_New.D k), (28, pyxlaw14_known.D k), (39, ledger_Book_Scale.D k), (29, pyxhand_Lines.D k), (30, ledger_Book_Post.D k), (34, ledger_Book_Reverse.D k), (33, ledger_Book_Close.D k), (41, ledger_Book_Reopen.D k), (31, ledger_Book_Entries.D k), (47, dec_Neg.D k), (48, dec_Cmp.D k), (45, ledger_Book_Periods.D k)]
noncomputable def pyxlaw14_LedgerKnown.ll (k : Nat) : List (Nat × LDen U) := [(20, pyxlaw14_LedgerKnown.l20.L k)]
noncomputable def pyxlaw14_LedgerKnown.E (k : Nat) : Env U := { P := Try.prog, D := DD, fd := lk (pyxlaw14_LedgerKnown.fl k), ld := lk (pyxlaw14_LedgerKnown.ll k), jd := lk pyxlaw14_LedgerKnown.jl, mode := lk [], elc := lk ec, mpc := lk mc, rts := Try.f10.resultTypes.toList, dyn := fun t => false, vecs := fun d => false, results := Try.f10.results.toList, gh := [], own := false, io := fun g i => false }
theorem pyxlaw14_LedgerKnown.ok (k : Nat) : EnvOk (pyxlaw14_LedgerKnown.E k) := envOk lawful (pyxlaw14_LedgerKnown.fl k) (pyxlaw14_LedgerKnown.ll k) pyxlaw14_LedgerKnown.jl _ _ _ _ _ _ _ _ _ _ (by
  intro p hp
  simp only [pyxlaw14_LedgerKnown.fl, List.mem_cons, List.not_mem_nil, or_false] at hp
  rcases hp with rfl | rfl | rfl | rfl | rfl | rfl | rfl | rfl | rfl | rfl | rfl | rfl
  · exact ⟨ledger_New.sound k, enter_of Try.func27 (by kernel_rfl) (by kernel_rfl)⟩
  · exact ⟨pyxlaw14_known.sound k, enter_of Try.func28 (by kernel_rfl) (by kernel_rfl)⟩
  · exact ⟨ledger_Book_Scale.sound k, enter_of Try.func39 (by kernel_rfl) (by kernel_rfl)⟩
  · exact ⟨pyxhand_Lines.sound k, enter_of Try.func29 (by kernel_rfl) (by kernel_rfl)⟩
  · exact ⟨ledger_Book_Post.sound k, enter_of Try.func30 (by kernel_rfl) (by kernel_rfl)⟩
  · exact ⟨ledger_Book_Reverse.sound k, enter_of Try.func34 (by kernel_rfl) (by kernel_rfl)⟩
  · exact ⟨ledger_Book_Close.sound k, enter_of Try.func33 (by kernel_rfl) (by kernel_rfl)⟩
  · exact ⟨ledger_Book_Reopen.sound k, enter_of Try.func41 (by kernel_rfl) (by kernel_rfl)⟩
  · exact ⟨ledger_Book_Entries.sound k, enter_of Try.func31 (by kernel_rfl) (by kernel_rfl)⟩
  · exact ⟨dec_Neg.sound k, enter_of Try.func47 (by kernel_rfl) (by kernel_rfl)⟩
  · exact ⟨dec_Cmp.sound k, enter_of Try.func48 (by kernel_rfl) (by kernel_rfl)⟩
  · exact ⟨ledger_Book_Periods.sound k, enter_of Try.func45 (by kernel_rfl) (by kernel_rfl)⟩) (by
  intro p hp
  simp only [pyxlaw14_LedgerKnown.jl, List.mem_cons, List.not_mem_nil, or_false] at hp
  rcases hp with rfl | rfl
  · exact pyxlaw14_LedgerKnown.j2000.fit
  · exact pyxlaw14_LedgerKnown.j18000.fit)
theorem pyxlaw14_LedgerKnown.l20.eq (k : Nat) (x : (List Sapi_Line × Int × Int × Int × Int × Int × Int × Int × Int × Int × Int × Int × Int × Int × Int × Int × Int × List Sapi_Entry × Speriod_Table)) : evC (pyxlaw14_LedgerKnown.E k) (loopAt Try.f10 20) (pyxlaw14_LedgerKnown.l20.mk x) (headK pyxlaw14_LedgerKnown.l20.un pyxlaw14_LedgerKnown.l20.re) = pyxlaw14_LedgerKnown.l20.once k x := by kernel_rfl
theorem pyxlaw14_LedgerKnown.l20.fit (s : St U) (x : (List Sapi_Line × Int × Int × Int × Int × Int × Int × Int × Int × Int × Int × Int × Int × Int × Int × Int × Int × List Sapi_Entry × Speriod_Table)) (h : pyxlaw14_LedgerKnown.l20.un s = some x) : Fits s (pyxlaw14_LedgerKnown.l20.mk x) := by
  unfold pyxlaw14_LedgerKnown.l20.un at h
  obtain ⟨q0, eq0, h1⟩ := Option.bind_eq_some_iff.1 h
  split at h1
  · obtain ⟨w340000000000007_1, ew340000000000007_1, h2⟩ := Option.bind_eq_some_iff.1 h1
    obtain ⟨w340000000000007_t, ew340000000000007_t, h3⟩ := Option.bind_eq_some_iff.1 h2
    cases h3
    refine fits_ren [(34000002002000701, w340000000000007_1.1)] ?_ ?_ ren_one rfl
    · exact List.forall_mem_cons.2 ⟨FV.one (FV.ptr (by assumption)), List.forall_mem_cons.2 ⟨FV.one (row_Sapi_Line_fit eq0), List.forall_mem_cons.2 ⟨FV.one (FV.same (by assumption) rfl), List.forall_mem_cons.2 ⟨FV.one (FV.same (by assumption) rfl), List.forall_mem_cons.2 ⟨FV.one (FV.same (by assumption) rfl), List.forall_mem_cons.2 ⟨FV.one (FV.same (by assumption) rfl), List.forall_mem_cons.2 ⟨FV.one (FV.same (by assumption) rfl), List.forall_mem_cons.2 ⟨FV.one (FV.same (by assumption) rfl), List.forall_mem_cons.2 ⟨FV.one (FV.same (by assumption) rfl), List.forall_mem_cons.2 ⟨FV.one (FV.same (by assumption) rfl), List.forall_mem_cons.2 ⟨FV.one (FV.same (by assumption) rfl), List.forall_mem_cons.2 ⟨FV.one (FV.same (by assumption) rfl), List.forall_mem_cons.2 ⟨FV.one (FV.same (by assumption) rfl), List.forall_mem_cons.2 ⟨FV.one (FV.same (by assumption) rfl), List.forall_mem_cons.2 ⟨FV.one (FV.same (by assumption) rfl), List.forall_mem_cons.2 ⟨FV.one (FV.same (by assumption) rfl), List.forall_mem_cons.2 ⟨FV.one (FV.same (by assumption) rfl), fun _ hp => (List.not_mem_nil hp).elim⟩⟩⟩⟩⟩⟩⟩⟩⟩⟩⟩⟩⟩⟩⟩⟩⟩
    · exact List.forall_mem_cons.2 ⟨(FO.cells (show lk (St.o _) 340000000000007 = some _ from by assumption) (FCs.cons (c0_same rfl rfl) (FCs.cons ((tip_Sapi_Entry_fit ew340000000000007_1 rfl).1) (FCs.tail (Cd.full_ok ew340000000000007_t) rfl)))), List.forall_mem_cons.2 ⟨(tip_Sapi_Entry_fit ew340000000000007_1 rfl).2, fun _ hp => (List.not_mem_nil hp).elim⟩⟩
  · cases h1
theorem pyxlaw14_LedgerKnown.l20.fitO (o : Out U) (y : (List Sapi_Line × Int × Int × Int × Int × Int × Int × Int × Int × Int × Int × Int × Int × Int × Int × Int × Int × List Sapi_Entry × Speriod_Table) ⊕ Bool) (h : pyxlaw14_LedgerKnown.l20.re o = some y) : FitsO o (pyxlaw14_LedgerKnown.l20.fin y) := by
  unfold pyxlaw14_LedgerKnown.l20.re at h
  split at h
  · obtain ⟨q0, eq0, h1⟩ := Option.bind_eq_some_iff.1 h
    split at h1
    · obtain ⟨w340000000000007_1, ew340000000000007_1, h2⟩ := Option.bind_eq_some_iff.1 h1
      obtain ⟨w340000000000007_t, ew340000000000007_t, h3⟩ := Option.bind_eq_some_iff.1 h2
      cases h3
      refine fitsO_exit (fits_ren [(34000002002000701, w340000000000007_1.1)] ?_ ?_ ren_one rfl)
      · exact List.forall_mem_cons.2 ⟨FV.one (FV.ptr (by assumption)), List.forall_mem_cons.2 ⟨FV.one (row_Sapi_Line_fit eq0), List.forall_mem_cons.2 ⟨FV.one (FV.same (by assumption) rfl), List.forall_mem_cons.2 ⟨FV.one (FV.same (by assumption) rfl), List.forall_mem_cons.2 ⟨FV.one (FV.same (by assumption) rfl), List.forall_mem_cons.2 ⟨FV.one (FV.same (by assumption) rfl), List.forall_mem_cons.2 ⟨FV.one (FV.same (by assumption) rfl), List.forall_mem_cons.2 ⟨FV.one (FV.same (by assumption) rfl), List.forall_mem_cons.2 ⟨FV.one (FV.same (by assumption) rfl), List.forall_mem_cons.2 ⟨FV.one (FV.same (by assumption) rfl), List.forall_mem_cons.2 ⟨FV.one (FV.same (by assumption) rfl), List.forall_mem_cons.2 ⟨FV.one (FV.same (by assumption) rfl), List.forall_mem_cons.2 ⟨FV.one (FV.same (by assumption) rfl), List.forall_mem_cons.2 ⟨FV.one (FV.same (by assumption) rfl), List.forall_mem_cons.2 ⟨FV.one (FV.same (by assumption) rfl), List.forall_mem_cons.2 ⟨FV.one (FV.same (by assumption) rfl), List.forall_mem_cons.2 ⟨FV.one (FV.same (by assumption) rfl), fun _ hp => (List.not_mem_nil hp).elim⟩⟩⟩⟩⟩⟩⟩⟩⟩⟩⟩⟩⟩⟩⟩⟩⟩
      · exact List.forall_mem_cons.2 ⟨(FO.cells (show lk (St.o _) 340000000000007 = some _ from by assumption) (FCs.cons (c0_same rfl rfl) (FCs.cons ((tip_Sapi_Entry_fit ew340000000000007_1 rfl).1) (FCs.tail (Cd.full_ok ew340000000000007_t) rfl)))), List.forall_mem_cons.2 ⟨(tip_Sapi_Entry_fit ew340000000000007_1 rfl).2, fun _ hp => (List.not_mem_nil hp).elim⟩⟩
    · cases h1
  · split at h
    · cases h
      refine fitsO_ret (fits_ren [] ?_ ?_ ren_nil rfl)
      · exact List.forall_mem_cons.2 ⟨FV.one (FV.same (by assumption) rfl), fun _ hp => (List.not_mem_nil hp).elim⟩
      · exact fun _ hp => (List.not_mem_nil hp).elim
    · cases h
  · cases h
theorem pyxlaw14_LedgerKnown.l20.sound (k : Nat) : LSound (pyxlaw14_LedgerKnown.E k) Try.f10.ntmps Try.f10 (loopAt Try.f10 20) (pyxlaw14_LedgerKnown.l20.L k) :=
  loop_sound (pyxlaw14_LedgerKnown.ok k) mixed rfl (by kernel_rfl) (allL_of (l := []) (by kernel_rfl) allL_nil) pyxlaw14_LedgerKnown.l20.un pyxlaw14_LedgerKnown.l20.mk pyxlaw14_LedgerKnown.l20.fin pyxlaw14_LedgerKnown.l20.re (pyxlaw14_LedgerKnown.l20.once k) k pyxlaw14_LedgerKnown.l20.fit pyxlaw14_LedgerKnown.l20.fitO (pyxlaw14_LedgerKnown.l20.eq k) pyxlaw14_LedgerKnown.l20.finK pyxlaw14_LedgerKnown.l20.finK_eq
theorem pyxlaw14_LedgerKnown.eq (k : Nat) (x : Unit) : runF (pyxlaw14_LedgerKnown.E k) (codeOf Try.f10) (pyxlaw14_LedgerKnown.mk x) pyxlaw14_LedgerKnown.re = (pyxlaw14_LedgerKnown.D k).f x := by kernel_rfl
theorem pyxlaw14_LedgerKnown.fit (s : St U) (x : Unit) (h : pyxlaw14_LedgerKnown.un s = some x) : Fits s (pyxlaw14_LedgerKnown.mk x) := by
  unfold pyxlaw14_LedgerKnown.un at h
  cases h
  refine fits_ren [] ?_ ?_ ren_nil rfl
  · exact fun _ hp => (List.not_mem_nil hp).elim
  · exact fun _ hp => (List.not_mem_nil hp).elim
theorem pyxlaw14_LedgerKnown.fitR (s : St U) (y : Bool) (h : pyxlaw14_LedgerKnown.re s = some y) : Fits s (pyxlaw14_LedgerKnown.fin y) := by
  unfold pyxlaw14_LedgerKnown.re at h
  split at h
  · cases h
    refine fits_ren [] ?_ ?_ ren_nil rfl
    · exact List.forall_mem_cons.2 ⟨FV.one (FV.same (by assumption) rfl), fun _ hp => (List.not_mem_nil hp).elim⟩
    · exact fun _ hp => (List.not_mem_nil hp).elim
  · cases h
theorem pyxlaw14_LedgerKnown.sound (k : Nat) : Sound Try.prog DD 10 (pyxlaw14_LedgerKnown.D k) :=
  fun_sound (E := pyxlaw14_LedgerKnown.E k) (fn := Try.f10) (c := codeOf Try.f10) (pyxlaw14_LedgerKnown.ok k) mixed rfl Try.func10 (by kernel_rfl) (by kernel_rfl) (allL_of (l := [loopAt Try.f10 20]) (by kernel_rfl) (allL_cons (key := 20) (by kernel_rfl) rfl (pyxlaw14_LedgerKnown.l20.sound k) allL_nil)) (pyxlaw14_LedgerKnown.D k) pyxlaw14_LedgerKnown.mk pyxlaw14_LedgerKnown.re (by kernel_rfl) (by kernel_rfl) pyxlaw14_LedgerKnown.fit pyxlaw14_LedgerKnown.fitR (pyxlaw14_LedgerKnown.eq k)
end
end Go.Proofs.Ytlaogfkgkpgofaa
