import Derived.Test.YtlaogfkgkpgofaaF3
/-! Functions, told; their equations with the evaluator; that they are sound. Written by gen.py. -/
namespace Go.Proofs.Ytlaogfkgkpgofaa
open Go Go.Ev
noncomputable section
set_option linter.unusedVariables false
set_option linter.unusedSimpArgs false
set_option maxRecDepth 100000
/-! ### pyx/period.IsOpen: function 121 -/
noncomputable def period_IsOpen.f (k : Nat) (a0 : Speriod_Table) (a1 : Int) : Option Bool := (period_is.f k a1).bind fun t1 => (cond (t1) (cond (inb a1 12) (cond (Nat.blt (Int.toNat a1) 12) (some (!(List.getD (pack 12 false a0.f_Closed) (Int.toNat a1) false))) none) none) (some false))
noncomputable def period_IsOpen.un (s : St U) : Option (Speriod_Table × Int) := match s.get 0, s.get 1 with | .agg x1, .flat (.int .i64 x3) => (cd_Speriod_Table.full x1).bind fun x2 => (some (x2, x3)) | _, _ => none
noncomputable def period_IsOpen.mk (x : (Speriod_Table × Int)) : St U := ⟨[(0, .agg (cd_Speriod_Table.enc x.1)), (1, .flat (.int .i64 x.2))], []⟩
noncomputable def period_IsOpen.fin (y : Bool) : St U := ⟨[(0, .flat (.bool y))], []⟩
noncomputable def period_IsOpen.D (k : Nat) : FDen U := { X := (Speriod_Table × Int), Y := Bool, nt := 14, gh := [], un := period_IsOpen.un, f := fun x => period_IsOpen.f k (x.1) (x.2), fin := period_IsOpen.fin, cl := true, clo := fun _ _ => rfl }
noncomputable def period_IsOpen.re (s : St U) : Option Bool := match s.get 0 with | .flat (.bool x1) => some x1 | _ => none
noncomputable def period_IsOpen.jl : List (Nat × JDen U) := []
noncomputable def period_IsOpen.fl (k : Nat) : List (Nat × FDen U) := [(130, period_is.D k)]
noncomputable def period_IsOpen.ll (k : Nat) : List (Nat × LDen U) := []
noncomputable def period_IsOpen.E (k : Nat) : Env U := { P := Try.prog, D := DD, fd := lk (period_IsOpen.fl k), ld := lk (period_IsOpen.ll k), jd := lk period_IsOpen.jl, mode := lk [], elc := lk ec, mpc := lk mc, rts := Try.f121.resultTypes.toList, dyn := fun t => Nat.beq t 90, vecs := fun d => false, results := Try.f121.results.toList, gh := [], own := false, io := fun g i => false }
theorem period_IsOpen.ok (k : Nat) : EnvOk (period_IsOpen.E k) := envOk lawful (period_IsOpen.fl k) (period_IsOpen.ll k) period_IsOpen.jl _ _ _ _ _ _ _ _ _ _ (by
  intro p hp
  simp only [period_IsOpen.fl, List.mem_cons, List.not_mem_nil, or_false] at hp
  rcases hp with rfl
  · exact ⟨period_is.sound k, enter_of Try.func130 (by kernel_rfl) (by kernel_rfl)⟩) (by
  intro p hp
  simp [period_IsOpen.jl] at hp)
theorem period_IsOpen.eq (k : Nat) (x : (Speriod_Table × Int)) : runF (period_IsOpen.E k) (codeOf Try.f121) (period_IsOpen.mk x) period_IsOpen.re = (period_IsOpen.D k).f x := by kernel_rfl
theorem period_IsOpen.fit (s : St U) (x : (Speriod_Table × Int)) (h : period_IsOpen.un s = some x) : Fits s (period_IsOpen.mk x) := by
  unfold period_IsOpen.un at h
  split at h
  · obtain ⟨x2, hx2, hh1⟩ := Option.bind_eq_some_iff.1 h
    have hc1 := Cd.full_ok hx2
    clear hx2
    subst hc1
    cases hh1
    refine fits_ren [] ?_ ?_ ren_nil rfl
    · exact List.forall_mem_cons.2 ⟨FV.one (FV.same (by assumption) rfl), List.forall_mem_cons.2 ⟨FV.one (FV.same (by assumption) rfl), fun _ hp => (List.not_mem_nil hp).elim⟩⟩
    · exact fun _ hp => (List.not_mem_nil hp).elim
  · cases h
theorem period_IsOpen.fitR (s : St U) (y : Bool) (h : period_IsOpen.re s = some y) : Fits s (period_IsOpen.fin y) := by
  unfold period_IsOpen.re at h
  split at h
  · cases h
    refine fits_ren [] ?_ ?_ ren_nil rfl
    · exact List.forall_mem_cons.2 ⟨FV.one (FV.same (by assumption) rfl), fun _ hp => (List.not_mem_nil hp).elim⟩
    · exact fun _ hp => (List.not_mem_nil hp).elim
  · cases h
theorem period_IsOpen.sound (k : Nat) : Sound Try.prog DD 121 (period_IsOpen.D k) :=
  fun_sound (E := period_IsOpen.E k) (fn := Try.f121) (c := codeOf Try.f121) (period_IsOpen.ok k) mixed rfl Try.func121 (by kernel_rfl) (by kernel_rfl) (allL_of (l := []) (by kernel_rfl) allL_nil) (period_IsOpen.D k) period_IsOpen.mk period_IsOpen.re (by kernel_rfl) (by kernel_rfl) period_IsOpen.fit period_IsOpen.fitR (period_IsOpen.eq k)
/-! ### slices.Clone[[]pyx/api.Line,pyx/api.Line]: function 76 -/
noncomputable def slices_Clone_api_Line.f (k : Nat) (a0 : List Sapi_Line) : Option (List Sapi_Line) := cond (okLen (List.length ([] : List Sapi_Line) + List.length a0) 48) (some (([] : List Sapi_Line) ++ a0)) none
noncomputable def slices_Clone_api_Line.un (s : St U) : Option (List Sapi_Line) := match s.get 0 with | .row C.Sapi_Line x1 => some x1 | _ => none
noncomputable def slices_Clone_api_Line.mk (x : List Sapi_Line) : St U := ⟨[(0, .row C.Sapi_Line x)], []⟩
noncomputable def slices_Clone_api_Line.fin (y : List Sapi_Line) : St U := ⟨[(0, .row C.Sapi_Line y)], []⟩
noncomputable def slices_Clone_api_Line.D (k : Nat) : FDen U := { X := List Sapi_Line, Y := List Sapi_Line, nt := 8, gh := [], un := slices_Clone_api_Line.un, f := fun x => slices_Clone_api_Line.f k (x), fin := slices_Clone_api_Line.fin, cl := true, clo := fun _ _ => rfl }
noncomputable def slices_Clone_api_Line.re (s : St U) : Option (List Sapi_Line) := match s.get 0 with | .row C.Sapi_Line x1 => some x1 | _ => none
noncomputable def slices_Clone_api_Line.jl : List (Nat × JDen U) := []
noncomputable def slices_Clone_api_Line.fl (k : Nat) : List (Nat × FDen U) := []
noncomputable def slices_Clone_api_Line.ll (k : Nat) : List (Nat × LDen U) := []
noncomputable def slices_Clone_api_Line.E (k : Nat) : Env U := { P := Try.prog, D := DD, fd := lk (slices_Clone_api_Line.fl k), ld := lk (slices_Clone_api_Line.ll k), jd := lk slices_Clone_api_Line.jl, mode := lk [], elc := lk ec, mpc := lk mc, rts := Try.f76.resultTypes.toList, dyn := fun t => false, vecs := fun d => false, results := Try.f76.results.toList, gh := [], own := false, io := fun g i => false }
theorem slices_Clone_api_Line.ok (k : Nat) : EnvOk (slices_Clone_api_Line.E k) := envOk lawful (slices_Clone_api_Line.fl k) (slices_Clone_api_Line.ll k) slices_Clone_api_Line.jl _ _ _ _ _ _ _ _ _ _ (by
  intro p hp
  simp [slices_Clone_api_Line.fl] at hp) (by
  intro p hp
  simp [slices_Clone_api_Line.jl] at hp)
theorem slices_Clone_api_Line.fitR (s : St U) (y : List Sapi_Line) (h : slices_Clone_api_Line.re s = some y) : Fits s (slices_Clone_api_Line.fin y) := by
  unfold slices_Clone_api_Line.re at h
  split at h
  · cases h
    refine fits_ren [] ?_ ?_ ren_nil rfl
    · exact List.forall_mem_cons.2 ⟨FV.one (FV.same (by assumption) rfl), fun _ hp => (List.not_mem_nil hp).elim⟩
    · exact fun _ hp => (List.not_mem_nil hp).elim
  · cases h
noncomputable def slices_Clone_api_Line.mkn (g : Bool) (x : List Sapi_Line) : St U := ⟨[(0, .nrow g C.Sapi_Line x)], []⟩
theorem slices_Clone_api_Line.eq (k : Nat) (x : List Sapi_Line) : runF (slices_Clone_api_Line.E k) (codeOf Try.f76) (slices_Clone_api_Line.mkn true x) slices_Clone_api_Line.re = (slices_Clone_api_Line.D k).f x := by kernel_rfl
theorem slices_Clone_api_Line.eqN (k : Nat) : runF (slices_Clone_api_Line.E k) (codeOf Try.f76) (slices_Clone_api_Line.mkn false []) slices_Clone_api_Line.re = (slices_Clone_api_Line.D k).f [] := by kernel_rfl
theorem slices_Clone_api_Line.sound (k : Nat) : Sound Try.prog DD 76 (slices_Clone_api_Line.D k) :=
  fun_sound_nil (E := slices_Clone_api_Line.E k) (fn := Try.f76) (c := codeOf Try.f76) (slices_Clone_api_Line.ok k) mixed rfl Try.func76 (by kernel_rfl) (by kernel_rfl) (allL_of (l := []) (by kernel_rfl) allL_nil) C.Sapi_Line (slices_Clone_api_Line.D k) slices_Clone_api_Line.mkn (fun x => x) slices_Clone_api_Line.re (by kernel_rfl) (by kernel_rfl)
    (by intro m x h; replace h : slices_Clone_api_Line.un m = some x := h; unfold slices_Clone_api_Line.un at h; split at h; · cases h; assumption
        · cases h)
    (fun _ _ => rfl) slices_Clone_api_Line.fitR (slices_Clone_api_Line.eq k) (by intro x h; replace h : x = [] := h; subst h; exact slices_Clone_api_Line.eqN k)
/-! ### (*pyx/ledger.Book).add: function 72 -/
noncomputable def ledger_Book_add.f (k : Nat) (a0 : Sledger_Book) (a1 : Sapi_Entry) : Option (Int × Int × Sledger_Book) := (period_IsOpen.f k (⟨pack 12 false a0.f_t.f_Closed, pack 12 0 a0.f_t.f_Version⟩ : Speriod_Table) a1.f_Period).bind fun t1 => (cond (!t1) (some (0, 8, (⟨a0.f_scale, a0.f_l, (⟨pack 12 false a0.f_t.f_Closed, pack 12 0 a0.f_t.f_Version⟩ : Speriod_Table)⟩ : Sledger_Book))) (cond ((List.length a0.f_l : Int) == 40) (some (0, 5, (⟨a0.f_scale, a0.f_l, (⟨pack 12 false a0.f_t.f_Closed, pack 12 0 a0.f_t.f_Version⟩ : Speriod_Table)⟩ : Sledger_Book))) ((slices_Clone_api_Line.f k a1.f_Lines).bind fun t2 => (cond (okLen (List.length a0.f_l + List.length [(⟨a1.f_Period, t2, a1.f_Of⟩ : Sapi_Entry)]) 40) (some (IntKind.wrap .i64 ((List.length (a0.f_l ++ [(⟨a1.f_Period, t2, a1.f_Of⟩ : Sapi_Entry)]) : Int) - 1), 0, (⟨a0.f_scale, a0.f_l ++ [(⟨a1.f_Period, t2, a1.f_Of⟩ : Sapi_Entry)], (⟨pack 12 false a0.f_t.f_Closed, pack 12 0 a0.f_t.f_Version⟩ : Speriod_Table)⟩ : Sledger_Book))) none))))
noncomputable def ledger_Book_add.un (s : St U) : Option (Sledger_Book × Sapi_Entry) := match s.get 0, lk s.o 7000000000000, s.get 1, s.get 1000000000000000 with | .ptr 7000000000000 0, some (.lit (.flat (.int .i64 x1) :: x5 :: x3)), .agg [.flat (.int .i64 x6), .row C.Sapi_Line x7, .flat (.int .i64 x8)], .ptr 7000000000000 0 => (tip_Sapi_Entry s.o 3 x5).bind fun ex2 => ((cd_Speriod_Table.full x3).bind fun x4 => (some ((⟨x1, ex2.2, x4⟩ : Sledger_Book), (⟨x6, x7, x8⟩ : Sapi_Entry)))) | _, _, _, _ => none
noncomputable def ledger_Book_add.mk (x : (Sledger_Book × Sapi_Entry)) : St U := ⟨[(0, .ptr 7000000000000 0), (1, .agg [.flat (.int .i64 x.2.f_Period), .row C.Sapi_Line x.2.f_Lines, .flat (.int .i64 x.2.f_Of)]), (1000000000000000, .ptr 7000000000000 0)], [(7000000000000, .lit ((.flat (.int .i64 x.1.f_scale)) :: (.tip 7000000000002 C.Sapi_Entry x.1.f_l) :: cd_Speriod_Table.enc x.1.f_t)), (7000000000002, .tip 3)]⟩
noncomputable def ledger_Book_add.fin (y : (Int × Int × Sledger_Book)) : St U := ⟨[(0, .tup [.flat (.int .i64 y.1), .flat (.int .i64 y.2.1)]), (1000000000000000, .ptr 7000000000000 0)], [(7000000000000, .lit ((.flat (.int .i64 y.2.2.f_scale)) :: (.tip 7000000000002 C.Sapi_Entry y.2.2.f_l) :: cd_Speriod_Table.enc y.2.2.f_t)), (7000000000002, .tip 3)]⟩
noncomputable def ledger_Book_add.D (k : Nat) : FDen U := { X := (Sledger_Book × Sapi_Entry), Y := (Int × Int × Sledger_Book), nt := 42, gh := [0], un := ledger_Book_add.un, f := fun x => ledger_Book_add.f k (x.1) (x.2), fin := ledger_Book_add.fin, cl := false, clo := fun h => by cases h }
noncomputable def ledger_Book_add.re (s : St U) : Option (Int × Int × Sledger_Book) := match s.get 0, s.get 1000000000000000, lk s.o 7000000000000 with | .tup [.flat (.int .i64 x1), .flat (.int .i64 x2)], .ptr 7000000000000 0, some (.lit (.flat (.int .i64 x3) :: x7 :: x5)) => (tip_Sapi_Entry s.o 3 x7).bind fun ex4 => ((cd_Speriod_Table.full x5).bind fun x6 => (some (x1, x2, (⟨x3, ex4.2, x6⟩ : Sledger_Book)))) | _, _, _ => none
noncomputable def ledger_Book_add.jl : List (Nat × JDen U) := []
noncomputable def ledger_Book_add.fl (k : Nat) : List (Nat × FDen U) := [(121, period_IsOpen.D k), (76, slices_Clone_api_Line.D k)]
noncomputable def ledger_Book_add.ll (k : Nat) : List (Nat × LDen U) := []
noncomputable def ledger_Book_add.E (k : Nat) : Env U := { P := Try.prog, D := DD, fd := lk (ledger_Book_add.fl k), ld := lk (ledger_Book_add.ll k), jd := lk ledger_Book_add.jl, mode := lk [], elc := lk ec, mpc := lk mc, rts := Try.f72.resultTypes.toList, dyn := fun t => false, vecs := fun d => false, results := Try.f72.results.toList, gh := [0], own := false, io := fun g i => false }
theorem ledger_Book_add.ok (k : Nat) : EnvOk (ledger_Book_add.E k) := envOk lawful (ledger_Book_add.fl k) (ledger_Book_add.ll k) ledger_Book_add.jl _ _ _ _ _ _ _ _ _ _ (by
  intro p hp
  simp only [ledger_Book_add.fl, List.mem_cons, List.not_mem_nil, or_false] at hp
  rcases hp with rfl | rfl
  · exact ⟨period_IsOpen.sound k, enter_of Try.func121 (by kernel_rfl) (by kernel_rfl)⟩
  · exact ⟨slices_Clone_api_Line.sound k, enter_of Try.func76 (by kernel_rfl) (by kernel_rfl)⟩) (by
  intro p hp
  simp [ledger_Book_add.jl] at hp)
theorem ledger_Book_add.eq (k : Nat) (x : (Sledger_Book × Sapi_Entry)) : runF (ledger_Book_add.E k) (codeOf Try.f72) (ledger_Book_add.mk x) ledger_Book_add.re = (ledger_Book_add.D k).f x := by kernel_rfl
theorem ledger_Book_add.fit (s : St U) (x : (Sledger_Book × Sapi_Entry)) (h : ledger_Book_add.un s = some x) : Fits s (ledger_Book_add.mk x) := by
  unfold ledger_Book_add.un at h
  split at h
  · obtain ⟨ex2, hex2, hh1⟩ := Option.bind_eq_some_iff.1 h
    obtain ⟨x4, hx4, hh2⟩ := Option.bind_eq_some_iff.1 hh1
    cases hh2
    refine fits_ren [(7000000000002, ex2.1)] ?_ ?_ ren_one rfl
    · exact List.forall_mem_cons.2 ⟨FV.one (FV.ptr (by assumption)), List.forall_mem_cons.2 ⟨FV.one (FV.same (by assumption) rfl), List.forall_mem_cons.2 ⟨FV.one (FV.ptr (by assumption)), fun _ hp => (List.not_mem_nil hp).elim⟩⟩⟩
    · exact List.forall_mem_cons.2 ⟨FO.cells (show lk (St.o _) 7000000000000 = some _ from by assumption) (FCs.cons (c0_same rfl rfl) (FCs.cons ((tip_Sapi_Entry_fit hex2 rfl).1) (FCs.tail (Cd.full_ok hx4) rfl))), List.forall_mem_cons.2 ⟨(tip_Sapi_Entry_fit hex2 rfl).2, fun _ hp => (List.not_mem_nil hp).elim⟩⟩
  · cases h
theorem ledger_Book_add.fitR (s : St U) (y : (Int × Int × Sledger_Book)) (h : ledger_Book_add.re s = some y) : Fits s (ledger_Book_add.fin y) := by
  unfold ledger_Book_add.re at h
  split at h
  · obtain ⟨ex4, hex4, hh1⟩ := Option.bind_eq_some_iff.1 h
    obtain ⟨x6, hx6, hh2⟩ := Option.bind_eq_some_iff.1 hh1
    cases hh2
    refine fits_ren [(7000000000002, ex4.1)] ?_ ?_ ren_one rfl
    · exact List.forall_mem_cons.2 ⟨FV.tup (by assumption) (FTs.cons (FVA.one (FV.same rfl rfl)) (FTs.cons (FVA.one (FV.same rfl rfl)) (FTs.nil))), List.forall_mem_cons.2 ⟨FV.one (FV.ptr (by assumption)), fun _ hp => (List.not_mem_nil hp).elim⟩⟩
    · exact List.forall_mem_cons.2 ⟨FO.cells (show lk (St.o _) 7000000000000 = some _ from by assumption) (FCs.cons (c0_same rfl rfl) (FCs.cons ((tip_Sapi_Entry_fit hex4 rfl).1) (FCs.tail (Cd.full_ok hx6) rfl))), List.forall_mem_cons.2 ⟨(tip_Sapi_Entry_fit hex4 rfl).2, fun _ hp => (List.not_mem_nil hp).elim⟩⟩
  · cases h
theorem ledger_Book_add.sound (k : Nat) : Sound Try.prog DD 72 (ledger_Book_add.D k) :=
  fun_sound (E := ledger_Book_add.E k) (fn := Try.f72) (c := codeOf Try.f72) (ledger_Book_add.ok k) mixed rfl Try.func72 (by kernel_rfl) (by kernel_rfl) (allL_of (l := []) (by kernel_rfl) allL_nil) (ledger_Book_add.D k) ledger_Book_add.mk ledger_Book_add.re (by kernel_rfl) (by kernel_rfl) ledger_Book_add.fit ledger_Book_add.fitR (ledger_Book_add.eq k)
/-! ### (*pyx/ledger.Book).Post: function 30 -/
noncomputable def ledger_Book_Post.f (k : Nat) (a0 : Sledger_Book) (a1 : Int) (a2 : List Sapi_Line) : Option (Int × Int × Sledger_Book) := (entry_Right.f k a2 a0.f_scale).bind fun t1 => (cond (t1 != 0) (some (0, t1, (⟨a0.f_scale, a0.f_l, (⟨pack 12 false a0.f_t.f_Closed, pack 12 0 a0.f_t.f_Version⟩ : Speriod_Table)⟩ : Sledger_Book))) ((ledger_Book_add.f k (⟨a0.f_scale, a0.f_l, (⟨pack 12 false a0.f_t.f_Closed, pack 12 0 a0.f_t.f_Version⟩ : Speriod_Table)⟩ : Sledger_Book) (⟨a1, a2, (-1)⟩ : Sapi_Entry)).bind fun t2 => (some (t2.1, t2.2.1, (⟨t2.2.2.f_scale, t2.2.2.f_l, (⟨pack 12 false t2.2.2.f_t.f_Closed, pack 12 0 t2.2.2.f_t.f_Version⟩ : Speriod_Table)⟩ : Sledger_Book)))))
noncomputable def ledger_Book_Post.un (s : St U) : Option (Sledger_Book × Int × List Sapi_Line) := match s.get 0, lk s.o 7000000000000, s.get 1, s.get 2, s.get 1000000000000000 with | .ptr 7000000000000 0, some (.lit (.flat (.int .i64 x1) :: x5 :: x3)), .flat (.int .i64 x6), .row C.Sapi_Line x7, .ptr 7000000000000 0 => (tip_Sapi_Entry s.o 3 x5).bind fun ex2 => ((cd_Speriod_Table.full x3).bind fun x4 => (some ((⟨x1, ex2.2, x4⟩ : Sledger_Book), x6, x7))) | _, _, _, _, _ => none
noncomputable def ledger_Book_Post.mk (x : (Sledger_Book × Int × List Sapi_Line)) : St U := ⟨[(0, .ptr 7000000000000 0), (1, .flat (.int .i64 x.2.1)), (2, .row C.Sapi_Line x.2.2), (1000000000000000, .ptr 7000000000000 0)], [(7000000000000, .lit ((.flat (.int .i64 x.1.f_scale)) :: (.tip 7000000000002 C.Sapi_Entry x.1.f_l) :: cd_Speriod_Table.enc x.1.f_t)), (7000000000002, .tip 3)]⟩
noncomputable def ledger_Book_Post.fin (y : (Int × Int × Sledger_Book)) : St U := ⟨[(0, .tup [.flat (.int .i64 y.1), .flat (.int .i64 y.2.1)]), (1000000000000000, .ptr 7000000000000 0)], [(7000000000000, .lit ((.flat (.int .i64 y.2.2.f_scale)) :: (.tip 7000000000002 C.Sapi_Entry y.2.2.f_l) :: cd_Speriod_Table.enc y.2.2.f_t)), (7000000000002, .tip 3)]⟩
noncomputable def ledger_Book_Post.D (k : Nat) : FDen U := { X := (Sledger_Book × Int × List Sapi_Line), Y := (Int × Int × Sledger_Book), nt := 27, gh := [0], un := ledger_Book_Post.un, f := fun x => ledger_Book_Post.f k (x.1) (x.2.1) (x.2.2), fin := ledger_Book_Post.fin, cl := false, clo := fun h => by cases h }
noncomputable def ledger_Book_Post.re (s : St U) : Option (Int × Int × Sledger_Book) := match s.get 0, s.get 1000000000000000, lk s.o 7000000000000 with | .tup [.flat (.int .i64 x1), .flat (.int .i64 x2)], .ptr 7000000000000 0, some (.lit (.flat (.int .i64 x3) :: x7 :: x5)) => (tip_Sapi_Entry s.o 3 x7).bind fun ex4 => ((cd_Speriod_Table.full x5).bind fun x6 => (some (x1, x2, (⟨x3, ex4.2, x6⟩ : Sledger_Book)))) | _, _, _ => none
noncomputable def ledger_Book_Post.jl : List (Nat × JDen U) := []
noncomputable def ledger_Book_Post.fl (k : Nat) : List (Nat × FDen U) := [(71, entry_Right.D k), (72, ledger_Book_add.D k)]
noncomputable def ledger_Book_Post.ll (k : Nat) : List (Nat × LDen U) := []
noncomputable def ledger_Book_Post.E (k : Nat) : Env U := { P := Try.prog, D := DD, fd := lk (ledger_Book_Post.fl k), ld := lk (ledger_Book_Post.ll k), jd := lk ledger_Book_Post.jl, mode := lk [], elc := lk ec, mpc := lk mc, rts := Try.f30.resultTypes.toList, dyn := fun t => false, vecs := fun d => false, results := Try.f30.results.toList, gh := [0], own := false, io := fun g i => false }
theorem ledger_Book_Post.ok (k : Nat) : EnvOk (ledger_Book_Post.E k) := envOk lawful (ledger_Book_Post.fl k) (ledger_Book_Post.ll k) ledger_Book_Post.jl _ _ _ _ _ _ _ _ _ _ (by
  intro p hp
  simp only [ledger_Book_Post.fl, List.mem_cons, List.not_mem_nil, or_false] at hp
  rcases hp with rfl | rfl
  · exact ⟨entry_Right.sound k, enter_of Try.func71 (by kernel_rfl) (by kernel_rfl)⟩
  · exact ⟨ledger_Book_add.sound k, enter_of Try.func72 (by kernel_rfl) (by kernel_rfl)⟩) (by
  intro p hp
  simp [ledger_Book_Post.jl] at hp)
theorem ledger_Book_Post.eq (k : Nat) (x : (Sledger_Book × Int × List Sapi_Line)) : runF (ledger_Book_Post.E k) (codeOf Try.f30) (ledger_Book_Post.mk x) ledger_Book_Post.re = (ledger_Book_Post.D k).f x := by kernel_rfl
theorem ledger_Book_Post.fit (s : St U) (x : (Sledger_Book × Int × List Sapi_Line)) (h : ledger_Book_Post.un s = some x) : Fits s (ledger_Book_Post.mk x) := by
  unfold ledger_Book_Post.un at h
  split at h
  · obtain ⟨ex2, hex2, hh1⟩ := Option.bind_eq_some_iff.1 h
    obtain ⟨x4, hx4, hh2⟩ := Option.bind_eq_some_iff.1 hh1
    cases hh2
    refine fits_ren [(7000000000002, ex2.1)] ?_ ?_ ren_one rfl
    · exact List.forall_mem_cons.2 ⟨FV.one (FV.ptr (by assumption)), List.forall_mem_cons.2 ⟨FV.one (FV.same (by assumption) rfl), List.forall_mem_cons.2 ⟨FV.one (FV.same (by assumption) rfl), List.forall_mem_cons.2 ⟨FV.one (FV.ptr (by assumption)), fun _ hp => (List.not_mem_nil hp).elim⟩⟩⟩⟩
    · exact List.forall_mem_cons.2 ⟨FO.cells (show lk (St.o _) 7000000000000 = some _ from by assumption) (FCs.cons (c0_same rfl rfl) (FCs.cons ((tip_Sapi_Entry_fit hex2 rfl).1) (FCs.tail (Cd.full_ok hx4) rfl))), List.forall_mem_cons.2 ⟨(tip_Sapi_Entry_fit hex2 rfl).2, fun _ hp => (List.not_mem_nil hp).elim⟩⟩
  · cases h
theorem ledger_Book_Post.fitR (s : St U) (y : (Int × Int × Sledger_Book)) (h : ledger_Book_Post.re s = some y) : Fits s (ledger_Book_Post.fin y) := by
  unfold ledger_Book_Post.re at h
  split at h
  · obtain ⟨ex4, hex4, hh1⟩ := Option.bind_eq_some_iff.1 h
    obtain ⟨x6, hx6, hh2⟩ := Option.bind_eq_some_iff.1 hh1
    cases hh2
    refine fits_ren [(7000000000002, ex4.1)] ?_ ?_ ren_one rfl
    · exact List.forall_mem_cons.2 ⟨FV.tup (by assumption) (FTs.cons (FVA.one (FV.same rfl rfl)) (FTs.cons (FVA.one (FV.same rfl rfl)) (FTs.nil))), List.forall_mem_cons.2 ⟨FV.one (FV.ptr (by assumption)), fun _ hp => (List.not_mem_nil hp).elim⟩⟩
    · exact List.forall_mem_cons.2 ⟨FO.cells (show lk (St.o _) 7000000000000 = some _ from by assumption) (FCs.cons (c0_same rfl rfl) (FCs.cons ((tip_Sapi_Entry_fit hex4 rfl).1) (FCs.tail (Cd.full_ok hx6) rfl))), List.forall_mem_cons.2 ⟨(tip_Sapi_Entry_fit hex4 rfl).2, fun _ hp => (List.not_mem_nil hp).elim⟩⟩
  · cases h
theorem ledger_Book_Post.sound (k : Nat) : Sound Try.prog DD 30 (ledger_Book_Post.D k) :=
  fun_sound (E := ledger_Book_Post.E k) (fn := Try.f30) (c := codeOf Try.f30) (ledger_Book_Post.ok k) mixed rfl Try.func30 (by kernel_rfl) (by kernel_rfl) (allL_of (l := []) (by kernel_rfl) allL_nil) (ledger_Book_Post.D k) ledger_Book_Post.mk ledger_Book_Post.re (by kernel_rfl) (by kernel_rfl) ledger_Book_Post.fit ledger_Book_Post.fitR (ledger_Book_Post.eq k)
/-! ### slices.Clone[[]pyx/api.Entry,pyx/api.Entry]: function 74 -/
noncomputable def slices_Clone_api_Entry.f (k : Nat) (a0 : List Sapi_Entry) : Option (List Sapi_Entry) := cond (okLen (List.length ([] : List Sapi_Entry) + List.length a0) 40) (some (([] : List Sapi_Entry) ++ a0)) none
noncomputable def slices_Clone_api_Entry.un (s : St U) : Option (List Sapi_Entry) := match s.get 0 with | .row C.Sapi_Entry x1 => some x1 | _ => none
noncomputable def slices_Clone_api_Entry.mk (x : List Sapi_Entry) : St U := ⟨[(0, .row C.Sapi_Entry x)], []⟩
noncomputable def slices_Clone_api_Entry.fin (y : List Sapi_Entry) : St U := ⟨[(0, .row C.Sapi_Entry y)], []⟩
noncomputable def slices_Clone_api_Entry.D (k : Nat) : FDen U := { X := List Sapi_Entry, Y := List Sapi_Entry, nt := 8, gh := [], un := slices_Clone_api_Entry.un, f := fun x => slices_Clone_api_Entry.f k (x), fin := slices_Clone_api_Entry.fin, cl := true, clo := fun _ _ => rfl }
noncomputable def slices_Clone_api_Entry.re (s : St U) : Option (List Sapi_Entry) := match s.get 0 with | .row C.Sapi_Entry x1 => some x1 | _ => none
noncomputable def slices_Clone_api_Entry.jl : List (Nat × JDen U) := []
noncomputable def slices_Clone_api_Entry.fl (k : Nat) : List (Nat × FDen U) := []
noncomputable def slices_Clone_api_Entry.ll (k : Nat) : List (Nat × LDen U) := []
noncomputable def slices_Clone_api_Entry.E (k : Nat) : Env U := { P := Try.prog, D := DD, fd := lk (slices_Clone_api_Entry.fl k), ld := lk (slices_Clone_api_Entry.ll k), jd := lk slices_Clone_api_Entry.jl, mode := lk [], elc := lk ec, mpc := lk mc, rts := Try.f74.resultTypes.toList, dyn := fun t => false, vecs := fun d => false, results := Try.f74.results.toList, gh := [], own := false, io := fun g i => false }
theorem slices_Clone_api_Entry.ok (k : Nat) : EnvOk (slices_Clone_api_Entry.E k) := envOk lawful (slices_Clone_api_Entry.fl k) (slices_Clone_api_Entry.ll k) slices_Clone_api_Entry.jl _ _ _ _ _ _ _ _ _ _ (by
  intro p hp
  simp [slices_Clone_api_Entry.fl] at hp) (by
  intro p hp
  simp [slices_Clone_api_Entry.jl] at hp)
theorem slices_Clone_api_Entry.fitR (s : St U) (y : List Sapi_Entry) (h : slices_Clone_api_Entry.re s = some y) : Fits s (slices_Clone_api_Entry.fin y) := by
  unfold slices_Clone_api_Entry.re at h
  split at h
  · cases h
    refine fits_ren [] ?_ ?_ ren_nil rfl
    · exact List.forall_mem_cons.2 ⟨FV.one (FV.same (by assumption) rfl), fun _ hp => (List.not_mem_nil hp).elim⟩
    · exact fun _ hp => (List.not_mem_nil hp).elim
  · cases h
noncomputable def slices_Clone_api_Entry.mkn (g : Bool) (x : List Sapi_Entry) : St U := ⟨[(0, .nrow g C.Sapi_Entry x)], []⟩
theorem slices_Clone_api_Entry.eq (k : Nat) (x : List Sapi_Entry) : runF (slices_Clone_api_Entry.E k) (codeOf Try.f74) (slices_Clone_api_Entry.mkn true x) slices_Clone_api_Entry.re = (slices_Clone_api_Entry.D k).f x := by kernel_rfl
theorem slices_Clone_api_Entry.eqN (k : Nat) : runF (slices_Clone_api_Entry.E k) (codeOf Try.f74) (slices_Clone_api_Entry.mkn false []) slices_Clone_api_Entry.re = (slices_Clone_api_Entry.D k).f [] := by kernel_rfl
theorem slices_Clone_api_Entry.sound (k : Nat) : Sound Try.prog DD 74 (slices_Clone_api_Entry.D k) :=
  fun_sound_nil (E := slices_Clone_api_Entry.E k) (fn := Try.f74) (c := codeOf Try.f74) (slices_Clone_api_Entry.ok k) mixed rfl Try.func74 (by kernel_rfl) (by kernel_rfl) (allL_of (l := []) (by kernel_rfl) allL_nil) C.Sapi_Entry (slices_Clone_api_Entry.D k) slices_Clone_api_Entry.mkn (fun x => x) slices_Clone_api_Entry.re (by kernel_rfl) (by kernel_rfl)
    (by intro m x h; replace h : slices_Clone_api_Entry.un m = some x := h; unfold slices_Clone_api_Entry.un at h; split at h; · cases h; assumption
        · cases h)
    (fun _ _ => rfl) slices_Clone_api_Entry.fitR (slices_Clone_api_Entry.eq k) (by intro x h; replace h : x = [] := h; subst h; exact slices_Clone_api_Entry.eqN k)
/-! ### slices.Clip[[]pyx/api.Entry,pyx/api.Entry]: function 73 -/
noncomputable def slices_Clip_api_Entry.f (k : Nat) (a0 : List Sapi_Entry) : Option (List Sapi_Entry) := cond (decide ((List.length a0 : Int) = (List.length a0 : Int)) && inS 0 (List.length a0 : Int) (List.length a0)) (some (List.take (Int.toNat (List.length a0 : Int)) a0)) none
noncomputable def slices_Clip_api_Entry.un (s : St U) : Option (List Sapi_Entry) := match s.get 0 with | .row C.Sapi_Entry x1 => some x1 | _ => none
noncomputable def slices_Clip_api_Entry.mk (x : List Sapi_Entry) : St U := ⟨[(0, .row C.Sapi_Entry x)], []⟩
noncomputable def slices_Clip_api_Entry.fin (y : List Sapi_Entry) : St U := ⟨[(0, .row C.Sapi_Entry y)], []⟩
noncomputable def slices_Clip_api_Entry.D (k : Nat) : FDen U := { X := List Sapi_Entry, Y := List Sapi_Entry, nt := 9, gh := [], un := slices_Clip_api_Entry.un, f := fun x => slices_Clip_api_Entry.f k (x), fin := slices_Clip_api_Entry.fin, cl := true, clo := fun _ _ => rfl }
noncomputable def slices_Clip_api_Entry.re (s : St U) : Option (List Sapi_Entry) := match s.get 0 with | .row C.Sapi_Entry x1 => some x1 | _ => none
noncomputable def slices_Clip_api_Entry.jl : List (Nat × JDen U) := []
noncomputable def slices_Clip_api_Entry.fl (k : Nat) : List (Nat × FDen U) := []
noncomputable def slices_Clip_api_Entry.ll (k : Nat) : List (Nat × LDen U) := []
noncomputable def slices_Clip_api_Entry.E (k : Nat) : Env U := { P := Try.prog, D := DD, fd := lk (slices_Clip_api_Entry.fl k), ld := lk (slices_Clip_api_Entry.ll k), jd := lk slices_Clip_api_Entry.jl, mode := lk [], elc := lk ec, mpc := lk mc, rts := Try.f73.resultTypes.toList, dyn := fun t => false, vecs := fun d => false, results := Try.f73.results.toList, gh := [], own := false, io := fun g i => false }
theorem slices_Clip_api_Entry.ok (k : Nat) : EnvOk (slices_Clip_api_Entry.E k) := envOk lawful (slices_Clip_api_Entry.fl k) (slices_Clip_api_Entry.ll k) slices_Clip_api_Entry.jl _ _ _ _ _ _ _ _ _ _ (by
  intro p hp
  simp [slices_Clip_api_Entry.fl] at hp) (by
  intro p hp
  simp [slices_Clip_api_Entry.jl] at hp)
theorem slices_Clip_api_Entry.eq (k : Nat) (x : List Sapi_Entry) : runF (slices_Clip_api_Entry.E k) (codeOf Try.f73) (slices_Clip_api_Entry.mk x) slices_Clip_api_Entry.re = (slices_Clip_api_Entry.D k).f x := by kernel_rfl
theorem slices_Clip_api_Entry.fit (s : St U) (x : List Sapi_Entry) (h : slices_Clip_api_Entry.un s = some x) : Fits s (slices_Clip_api_Entry.mk x) := by
  unfold slices_Clip_api_Entry.un at h
  split at h
  · cases h
    refine fits_ren [] ?_ ?_ ren_nil rfl
    · exact List.forall_mem_cons.2 ⟨FV.one (FV.same (by assumption) rfl), fun _ hp => (List.not_mem_nil hp).elim⟩
    · exact fun _ hp => (List.not_mem_nil hp).elim
  · cases h
theorem slices_Clip_api_Entry.fitR (s : St U) (y : List Sapi_Entry) (h : slices_Clip_api_Entry.re s = some y) : Fits s (slices_Clip_api_Entry.fin y) := by
  unfold slices_Clip_api_Entry.re at h
  split at h
  · cases h
    refine fits_ren [] ?_ ?_ ren_nil rfl
    · exact List.forall_mem_cons.2 ⟨FV.one (FV.same (by assumption) rfl), fun _ hp => (List.not_mem_nil hp).elim⟩
    · exact fun _ hp => (List.not_mem_nil hp).elim
  · cases h
theorem slices_Clip_api_Entry.sound (k : Nat) : Sound Try.prog DD 73 (slices_Clip_api_Entry.D k) :=
  fun_sound (E := slices_Clip_api_Entry.E k) (fn := Try.f73) (c := codeOf Try.f73) (slices_Clip_api_Entry.ok k) mixed rfl Try.func73 (by kernel_rfl) (by kernel_rfl) (allL_of (l := []) (by kernel_rfl) allL_nil) (slices_Clip_api_Entry.D k) slices_Clip_api_Entry.mk slices_Clip_api_Entry.re (by kernel_rfl) (by kernel_rfl) slices_Clip_api_Entry.fit slices_Clip_api_Entry.fitR (slices_Clip_api_Entry.eq k)
/-! ### slices.Clip[[]pyx/api.Line,pyx/api.Line]: function 75 -/
noncomputable def slices_Clip_api_Line.f (k : Nat) (a0 : List Sapi_Line) : Option (List Sapi_Line) := cond (decide ((List.length a0 : Int) = (List.length a0 : Int)) && inS 0 (List.length a0 : Int) (List.length a0)) (some (List.take (Int.toNat (List.length a0 : Int)) a0)) none
noncomputable def slices_Clip_api_Line.un (s : St U) : Option (List Sapi_Line) := match s.get 0 with | .row C.Sapi_Line x1 => some x1 | _ => none
noncomputable def slices_Clip_api_Line.mk (x : List Sapi_Line) : St U := ⟨[(0, .row C.Sapi_Line x)], []⟩
noncomputable def slices_Clip_api_Line.fin (y : List Sapi_Line) : St U := ⟨[(0, .row C.Sapi_Line y)], []⟩
noncomputable def slices_Clip_api_Line.D (k : Nat) : FDen U := { X := List Sapi_Line, Y := List Sapi_Line, nt := 9, gh := [], un := slices_Clip_api_Line.un, f := fun x => slices_Clip_api_Line.f k (x), fin := slices_Clip_api_Line.fin, cl := true, clo := fun _ _ => rfl }
noncomputable def slices_Clip_api_Line.re (s : St U) : Option (List Sapi_Line) := match s.get 0 with | .row C.Sapi_Line x1 => some x1 | _ => none
noncomputable def slices_Clip_api_Line.jl : List (Nat × JDen U) := []
noncomputable def slices_Clip_api_Line.fl (k : Nat) : List (Nat × FDen U) := []
noncomputable def slices_Clip_api_Line.ll (k : Nat) : List (Nat × LDen U) := []
noncomputable def slices_Clip_api_Line.E (k : Nat) : Env U := { P := Try.prog, D := DD, fd := lk (slices_Clip_api_Line.fl k), ld := lk (slices_Clip_api_Line.ll k), jd := lk slices_Clip_api_Line.jl, mode := lk [], elc := lk ec, mpc := lk mc, rts := Try.f75.resultTypes.toList, dyn := fun t => false, vecs := fun d => false, results := Try.f75.results.toList, gh := [], own := false, io := fun g i => false }
theorem slices_Clip_api_Line.ok (k : Nat) : EnvOk (slices_Clip_api_Line.E k) := envOk lawful (slices_Clip_api_Line.fl k) (slices_Clip_api_Line.ll k) slices_Clip_api_Line.jl _ _ _ _ _ _ _ _ _ _ (by
  intro p hp
  simp [slices_Clip_api_Line.fl] at hp) (by
  intro p hp
  simp [slices_Clip_api_Line.jl] at hp)
theorem slices_Clip_api_Line.eq (k : Nat) (x : List Sapi_Line) : runF (slices_Clip_api_Line.E k) (codeOf Try.f75) (slices_Clip_api_Line.mk x) slices_Clip_api_Line.re = (slices_Clip_api_Line.D k).f x := by kernel_rfl
theorem slices_Clip_api_Line.fit (s : St U) (x : List Sapi_Line) (h : slices_Clip_api_Line.un s = some x) : Fits s (slices_Clip_api_Line.mk x) := by
  unfold slices_Clip_api_Line.un at h
  split at h
  · cases h
    refine fits_ren [] ?_ ?_ ren_nil rfl
    · exact List.forall_mem_cons.2 ⟨FV.one (FV.same (by assumption) rfl), fun _ hp => (List.not_mem_nil hp).elim⟩
    · exact fun _ hp => (List.not_mem_nil hp).elim
  · cases h
theorem slices_Clip_api_Line.fitR (s : St U) (y : List Sapi_Line) (h : slices_Clip_api_Line.re s = some y) : Fits s (slices_Clip_api_Line.fin y) := by
  unfold slices_Clip_api_Line.re at h
  split at h
  · cases h
    refine fits_ren [] ?_ ?_ ren_nil rfl
    · exact List.forall_mem_cons.2 ⟨FV.one (FV.same (by assumption) rfl), fun _ hp => (List.not_mem_nil hp).elim⟩
    · exact fun _ hp => (List.not_mem_nil hp).elim
  · cases h
theorem slices_Clip_api_Line.sound (k : Nat) : Sound Try.prog DD 75 (slices_Clip_api_Line.D k) :=
  fun_sound (E := slices_Clip_api_Line.E k) (fn := Try.f75) (c := codeOf Try.f75) (slices_Clip_api_Line.ok k) mixed rfl Try.func75 (by kernel_rfl) (by kernel_rfl) (allL_of (l := []) (by kernel_rfl) allL_nil) (slices_Clip_api_Line.D k) slices_Clip_api_Line.mk slices_Clip_api_Line.re (by kernel_rfl) (by kernel_rfl) slices_Clip_api_Line.fit slices_Clip_api_Line.fitR (slices_Clip_api_Line.eq k)
/-! ### slices.Clone[[]pyx/api.Entry,pyx/api.Entry]: function 74 -/
noncomputable def slices_Clone_api_Entry_o.f (k : Nat) (a0 : List Sapi_Entry) : Option (List Sapi_Entry) := cond (okLen (List.length ([] : List Sapi_Entry) + List.length a0) 40) (some (([] : List Sapi_Entry) ++ a0)) none
noncomputable def slices_Clone_api_Entry_o.un (s : St U) : Option (List Sapi_Entry) := match s.get 0 with | .row C.Sapi_Entry x1 => some x1 | _ => none
noncomputable def slices_Clone_api_Entry_o.mk (x : List Sapi_Entry) : St U := ⟨[(0, .row C.Sapi_Entry x)], []⟩
noncomputable def slices_Clone_api_Entry_o.fin (y : List Sapi_Entry) : St U := ⟨[(0, .vs 6000000000000)], [(6000000000000, .vec C.Sapi_Entry y)]⟩
noncomputable def slices_Clone_api_Entry_o.D (k : Nat) : FDen U := { X := List Sapi_Entry, Y := List Sapi_Entry, nt := 8, gh := [], un := slices_Clone_api_Entry_o.un, f := fun x => slices_Clone_api_Entry_o.f k (x), fin := slices_Clone_api_Entry_o.fin, cl := false, clo := fun h => by cases h }
noncomputable def slices_Clone_api_Entry_o.re (s : St U) : Option (List Sapi_Entry) := (vec_Sapi_Entry s.o (s.get 0)).bind fun ex1 => (some ex1.2)
noncomputable def slices_Clone_api_Entry_o.jl : List (Nat × JDen U) := []
noncomputable def slices_Clone_api_Entry_o.fl (k : Nat) : List (Nat × FDen U) := []
noncomputable def slices_Clone_api_Entry_o.ll (k : Nat) : List (Nat × LDen U) := []
noncomputable def slices_Clone_api_Entry_o.E (k : Nat) : Env U := { P := Try.prog, D := DD, fd := lk (slices_Clone_api_Entry_o.fl k), ld := lk (slices_Clone_api_Entry_o.ll k), jd := lk slices_Clone_api_Entry_o.jl, mode := lk [], elc := lk ec, mpc := lk mc, rts := Try.f74.resultTypes.toList, dyn := fun t => false, vecs := fun d => Nat.beq d 5, results := Try.f74.results.toList, gh := [], own := true, io := fun g i => false }
theorem slices_Clone_api_Entry_o.ok (k : Nat) : EnvOk (slices_Clone_api_Entry_o.E k) := envOk lawful (slices_Clone_api_Entry_o.fl k) (slices_Clone_api_Entry_o.ll k) slices_Clone_api_Entry_o.jl _ _ _ _ _ _ _ _ _ _ (by
  intro p hp
  simp [slices_Clone_api_Entry_o.fl] at hp) (by
  intro p hp
  simp [slices_Clone_api_Entry_o.jl] at hp)
theorem slices_Clone_api_Entry_o.fitR (s : St U) (y : List Sapi_Entry) (h : slices_Clone_api_Entry_o.re s = some y) : Fits s (slices_Clone_api_Entry_o.fin y) := by
  unfold slices_Clone_api_Entry_o.re at h
  obtain ⟨ex1, hex1, hh1⟩ := Option.bind_eq_some_iff.1 h
  cases hh1
  refine fits_ren [(6000000000000, ex1.1)] ?_ ?_ ren_one rfl
  · exact List.forall_mem_cons.2 ⟨FV.one ((vec_Sapi_Entry_fit hex1 rfl).1), fun _ hp => (List.not_mem_nil hp).elim⟩
  · exact List.forall_mem_cons.2 ⟨(vec_Sapi_Entry_fit hex1 rfl).2, fun _ hp => (List.not_mem_nil hp).elim⟩
noncomputable def slices_Clone_api_Entry_o.mkn (g : Bool) (x : List Sapi_Entry) : St U := ⟨[(0, .nrow g C.Sapi_Entry x)], []⟩
theorem slices_Clone_api_Entry_o.eq (k : Nat) (x : List Sapi_Entry) : runF (slices_Clone_api_Entry_o.E k) (codeOf Try.f74) (slices_Clone_api_Entry_o.mkn true x) slices_Clone_api_Entry_o.re = (slices_Clone_api_Entry_o.D k).f x := by kernel_rfl
theorem slices_Clone_api_Entry_o.eqN (k : Nat) : runF (slices_Clone_api_Entry_o.E k) (codeOf Try.f74) (slices_Clone_api_Entry_o.mkn false []) slices_Clone_api_Entry_o.re = (slices_Clone_api_Entry_o.D k).f [] := by kernel_rfl
theorem slices_Clone_api_Entry_o.sound (k : Nat) : Sound Try.prog DD 74 (slices_Clone_api_Entry_o.D k) :=
  fun_sound_nil (E := slices_Clone_api_Entry_o.E k) (fn := Try.f74) (c := codeOf Try.f74) (slices_Clone_api_Entry_o.ok k) mixed rfl Try.func74 (by kernel_rfl) (by kernel_rfl) (allL_of (l := []) (by kernel_rfl) allL_nil) C.Sapi_Entry (slices_Clone_api_Entry_o.D k) slices_Clone_api_Entry_o.mkn (fun x => x) slices_Clone_api_Entry_o.re (by kernel_rfl) (by kernel_rfl)
    (by intro m x h; replace h : slices_Clone_api_Entry_o.un m = some x := h; unfold slices_Clone_api_Entry_o.un at h; split at h; · cases h; assumption
        · cases h)
    (fun _ _ => rfl) slices_Clone_api_Entry_o.fitR (slices_Clone_api_Entry_o.eq k) (by intro x h; replace h : x = [] := h; subst h; exact slices_Clone_api_Entry_o.eqN k)
/-! ### slices.Clip[[]pyx/api.Entry,pyx/api.Entry]: function 73 -/
noncomputable def slices_Clip_api_Entry_v0_o.f (k : Nat) (a0 : List Sapi_Entry) : Option (List Sapi_Entry) := cond (decide ((List.length a0 : Int) = (List.length a0 : Int)) && decide ((List.length a0 : Int) = (List.length a0 : Int))) (some a0) none
noncomputable def slices_Clip_api_Entry_v0_o.un (s : St U) : Option (List Sapi_Entry) := (vec_Sapi_Entry s.o (s.get 0)).bind fun ex1 => (some ex1.2)
noncomputable def slices_Clip_api_Entry_v0_o.mk (x : List Sapi_Entry) : St U := ⟨[(0, .vs 7000000000000)], [(7000000000000, .vec C.Sapi_Entry x)]⟩
noncomputable def slices_Clip_api_Entry_v0_o.fin (y : List Sapi_Entry) : St U := ⟨[(0, .vs 6000000000000)], [(6000000000000, .vec C.Sapi_Entry y)]⟩
noncomputable def slices_Clip_api_Entry_v0_o.D (k : Nat) : FDen U := { X := List Sapi_Entry, Y := List Sapi_Entry, nt := 9, gh := [], un := slices_Clip_api_Entry_v0_o.un, f := fun x => slices_Clip_api_Entry_v0_o.f k (x), fin := slices_Clip_api_Entry_v0_o.fin, cl := false, clo := fun h => by cases h }
noncomputable def slices_Clip_api_Entry_v0_o.re (s : St U) : Option (List Sapi_Entry) := (vec_Sapi_Entry s.o (s.get 0)).bind fun ex1 => (some ex1.2)
noncomputable def slices_Clip_api_Entry_v0_o.jl : List (Nat × JDen U) := []
noncomputable def slices_Clip_api_Entry_v0_o.fl (k : Nat) : List (Nat × FDen U) := []
noncomputable def slices_Clip_api_Entry_v0_o.ll (k : Nat) : List (Nat × LDen U) := []
noncomputable def slices_Clip_api_Entry_v0_o.E (k : Nat) : Env U := { P := Try.prog, D := DD, fd := lk (slices_Clip_api_Entry_v0_o.fl k), ld := lk (slices_Clip_api_Entry_v0_o.ll k), jd := lk slices_Clip_api_Entry_v0_o.jl, mode := lk [], elc := lk ec, mpc := lk mc, rts := Try.f73.resultTypes.toList, dyn := fun t => false, vecs := fun d => false, results := Try.f73.results.toList, gh := [], own := true, io := fun g i => false }
theorem slices_Clip_api_Entry_v0_o.ok (k : Nat) : EnvOk (slices_Clip_api_Entry_v0_o.E k) := envOk lawful (slices_Clip_api_Entry_v0_o.fl k) (slices_Clip_api_Entry_v0_o.ll k) slices_Clip_api_Entry_v0_o.jl _ _ _ _ _ _ _ _ _ _ (by
  intro p hp
  simp [slices_Clip_api_Entry_v0_o.fl] at hp) (by
  intro p hp
  simp [slices_Clip_api_Entry_v0_o.jl] at hp)
theorem slices_Clip_api_Entry_v0_o.eq (k : Nat) (x : List Sapi_Entry) : runF (slices_Clip_api_Entry_v0_o.E k) (codeOf Try.f73) (slices_Clip_api_Entry_v0_o.mk x) slices_Clip_api_Entry_v0_o.re = (slices_Clip_api_Entry_v0_o.D k).f x := by kernel_rfl
theorem slices_Clip_api_Entry_v0_o.fit (s : St U) (x : List Sapi_Entry) (h : slices_Clip_api_Entry_v0_o.un s = some x) : Fits s (slices_Clip_api_Entry_v0_o.mk x) := by
  unfold slices_Clip_api_Entry_v0_o.un at h
  obtain ⟨ex1, hex1, hh1⟩ := Option.bind_eq_some_iff.1 h
  cases hh1
  refine fits_ren [(7000000000000, ex1.1)] ?_ ?_ ren_one rfl
  · exact List.forall_mem_cons.2 ⟨FV.one ((vec_Sapi_Entry_fit hex1 rfl).1), fun _ hp => (List.not_mem_nil hp).elim⟩
  · exact List.forall_mem_cons.2 ⟨(vec_Sapi_Entry_fit hex1 rfl).2, fun _ hp => (List.not_mem_nil hp).elim⟩
theorem slices_Clip_api_Entry_v0_o.fitR (s : St U) (y : List Sapi_Entry) (h : slices_Clip_api_Entry_v0_o.re s = some y) : Fits s (slices_Clip_api_Entry_v0_o.fin y) := by
  unfold slices_Clip_api_Entry_v0_o.re at h
  obtain ⟨ex1, hex1, hh1⟩ := Option.bind_eq_some_iff.1 h
  cases hh1
  refine fits_ren [(6000000000000, ex1.1)] ?_ ?_ ren_one rfl
  · exact List.forall_mem_cons.2 ⟨FV.one ((vec_Sapi_Entry_fit hex1 rfl).1), fun _ hp => (List.not_mem_nil hp).elim⟩
  · exact List.forall_mem_cons.2 ⟨(vec_Sapi_Entry_fit hex1 rfl).2, fun _ hp => (List.not_mem_nil hp).elim⟩
theorem slices_Clip_api_Entry_v0_o.sound (k : Nat) : Sound Try.prog DD 73 (slices_Clip_api_Entry_v0_o.D k) :=
  fun_sound (E := slices_Clip_api_Entry_v0_o.E k) (fn := Try.f73) (c := codeOf Try.f73) (slices_Clip_api_Entry_v0_o.ok k) mixed rfl Try.func73 (by kernel_rfl) (by kernel_rfl) (allL_of (l := []) (by kernel_rfl) allL_nil) (slices_Clip_api_Entry_v0_o.D k) slices_Clip_api_Entry_v0_o.mk slices_Clip_api_Entry_v0_o.re (by kernel_rfl) (by kernel_rfl) slices_Clip_api_Entry_v0_o.fit slices_Clip_api_Entry_v0_o.fitR (slices_Clip_api_Entry_v0_o.eq k)
/-! ### (*pyx/ledger.Book).Entries: function 31 -/
noncomputable def ledger_Book_Entries.l5.once (k : Nat) (x : (Int × Int × List Sapi_Entry × Int × List Sapi_Entry × Speriod_Table)) : Option ((Int × Int × List Sapi_Entry × Int × List Sapi_Entry × Speriod_Table) ⊕ ((List Sapi_Entry × Int × List Sapi_Entry × Speriod_Table))) := match x with | (x4, x5, x3, x6, x7, x32) => cond (decide (x5 < x4)) (cond (inb x5 (List.length x3)) (cond (Nat.blt (Int.toNat x5) (List.length x3)) ((slices_Clone_api_Line.f k ((List.getD x3 (Int.toNat x5) Sapi_Entry.zero).f_Lines)).bind fun t33 => ((slices_Clip_api_Line.f k t33).bind fun t34 => (cond (inb x5 (List.length x3)) (cond (Nat.blt (Int.toNat x5) (List.length x3)) (some (.inl (x4, IntKind.wrap .i64 (x5 + 1), List.set x3 (Int.toNat x5) (⟨(List.getD x3 (Int.toNat x5) Sapi_Entry.zero).f_Period, t34, (List.getD x3 (Int.toNat x5) Sapi_Entry.zero).f_Of⟩ : Sapi_Entry), x6, x7, (⟨pack 12 false x32.f_Closed, pack 12 0 x32.f_Version⟩ : Speriod_Table)))) none) none))) none) none) (some (.inr (x3, x6, x7, (⟨pack 12 false x32.f_Closed, pack 12 0 x32.f_Version⟩ : Speriod_Table))))
noncomputable def ledger_Book_Entries.f (k : Nat) (a0 : Sledger_Book) : Option (List Sapi_Entry × Sledger_Book) := (slices_Clone_api_Entry_o.f k a0.f_l).bind fun t1 => ((slices_Clip_api_Entry_v0_o.f k t1).bind fun t2 => ((iter (ledger_Book_Entries.l5.once k) k ((List.length t2 : Int), 0, t2, a0.f_scale, a0.f_l, (⟨pack 12 false a0.f_t.f_Closed, pack 12 0 a0.f_t.f_Version⟩ : Speriod_Table))).bind fun y63 => (some (y63.1, (⟨y63.2.1, y63.2.2.1, (⟨pack 12 false y63.2.2.2.f_Closed, pack 12 0 y63.2.2.2.f_Version⟩ : Speriod_Table)⟩ : Sledger_Book)))))
noncomputable def ledger_Book_Entries.un (s : St U) : Option Sledger_Book := match s.get 0, lk s.o 7000000000000, s.get 1000000000000000 with | .ptr 7000000000000 0, some (.lit (.flat (.int .i64 x1) :: x5 :: x3)), .ptr 7000000000000 0 => (tip_Sapi_Entry s.o 3 x5).bind fun ex2 => ((cd_Speriod_Table.full x3).bind fun x4 => (some (⟨x1, ex2.2, x4⟩ : Sledger_Book))) | _, _, _ => none
noncomputable def ledger_Book_Entries.mk (x : Sledger_Book) : St U := ⟨[(0, .ptr 7000000000000 0), (1000000000000000, .ptr 7000000000000 0)], [(7000000000000, .lit ((.flat (.int .i64 x.f_scale)) :: (.tip 7000000000002 C.Sapi_Entry x.f_l) :: cd_Speriod_Table.enc x.f_t)), (7000000000002, .tip 3)]⟩
noncomputable def ledger_Book_Entries.fin (y : (List Sapi_Entry × Sledger_Book)) : St U := ⟨[(0, .row C.Sapi_Entry y.1), (1000000000000000, .ptr 7000000000000 0)], [(7000000000000, .lit ((.flat (.int .i64 y.2.f_scale)) :: (.tip 7000000000002 C.Sapi_Entry y.2.f_l) :: cd_Speriod_Table.enc y.2.f_t)), (7000000000002, .tip 3)]⟩
noncomputable def ledger_Book_Entries.D (k : Nat) : FDen U := { X := Sledger_Book, Y := (List Sapi_Entry × Sledger_Book), nt := 31, gh := [0], un := ledger_Book_Entries.un, f := fun x => ledger_Book_Entries.f k (x), fin := ledger_Book_Entries.fin, cl := false, clo := fun h => by cases h }
noncomputable def ledger_Book_Entries.re (s : St U) : Option (List Sapi_Entry × Sledger_Book) := match s.get 0, s.get 1000000000000000, lk s.o 7000000000000 with | .row C.Sapi_Entry x1, .ptr 7000000000000 0, some (.lit (.flat (.int .i64 x2) :: x6 :: x4)) => (tip_Sapi_Entry s.o 3 x6).bind fun ex3 => ((cd_Speriod_Table.full x4).bind fun x5 => (some (x1, (⟨x2, ex3.2, x5⟩ : Sledger_Book)))) | _, _, _ => none
noncomputable def ledger_Book_Entries.l5.mk (x : (Int × Int × List Sapi_Entry × Int × List Sapi_Entry × Speriod_Table)) : St U := match x with | (x4, x5, x3, x6, x7, x32) => ⟨[(1000000000000000, .ptr 7000000000000 0), (3, .vs 1005003), (14, .flat (.int .i64 x4)), (15, .flat (.int .i64 x5))], [(1005003, .vec C.Sapi_Entry x3), (7000000000000, .lit ((.flat (.int .i64 x6)) :: (.tip 700002000500001 C.Sapi_Entry x7) :: cd_Speriod_Table.enc x32)), (700002000500001, .tip 3)]⟩
noncomputable def ledger_Book_Entries.l5.un (s : St U) : Option (Int × Int × List Sapi_Entry × Int × List Sapi_Entry × Speriod_Table) := (vec_Sapi_Entry s.o (s.get 3)).bind fun q0 => (match s.get 1000000000000000, s.get 14, s.get 15, lk s.o 7000000000000 with | .ptr 7000000000000 0, .flat (.int .i64 x4), .flat (.int .i64 x5), some (.lit (.flat (.int .i64 x6) :: u7000000000000_1 :: u7000000000000_t)) => (tip_Sapi_Entry s.o 3 u7000000000000_1).bind fun w7000000000000_1 => ((cd_Speriod_Table.full u7000000000000_t).bind fun w7000000000000_t => (cond (apart [q0.1, w7000000000000_1.1]) (some (x4, x5, q0.2, x6, w7000000000000_1.2, w7000000000000_t)) none)) | _, _, _, _ => none)
noncomputable def ledger_Book_Entries.l5.fin (y : (List Sapi_Entry × Int × List Sapi_Entry × Speriod_Table)) : Out U := match y with | (x35, x36, x37, x62) => .exit 0 ⟨[(1000000000000000, .ptr 7000000000000 0), (3, .vs 1005003)], [(1005003, .vec C.Sapi_Entry x35), (7000000000000, .lit ((.flat (.int .i64 x36)) :: (.tip 700002000500001 C.Sapi_Entry x37) :: cd_Speriod_Table.enc x62)), (700002000500001, .tip 3)]⟩
noncomputable def ledger_Book_Entries.l5.finK {ρ : Type} (y : (List Sapi_Entry × Int × List Sapi_Entry × Speriod_Table)) (K : Out U → Option ρ) : Option ρ := match y with | (x35, x36, x37, x62) => K (.exit 0 ⟨[(1000000000000000, .ptr 7000000000000 0), (3, .vs 1005003)], [(1005003, .vec C.Sapi_Entry x35), (7000000000000, .lit ((.flat (.int .i64 x36)) :: (.tip 700002000500001 C.Sapi_Entry x37) :: cd_Speriod_Table.enc x62)), (700002000500001, .tip 3)]⟩)
theorem ledger_Book_Entries.l5.finK_eq {ρ : Type} (y : (List Sapi_Entry × Int × List Sapi_Entry × Speriod_Table)) (K : Out U → Option ρ) : ledger_Book_Entries.l5.finK y K = K (ledger_Book_Entries.l5.fin y) := by
  unfold ledger_Book_Entries.l5.finK ledger_Book_Entries.l5.fin
  first | rfl | (split <;> rfl)
noncomputable def ledger_Book_Entries.l5.re : Out U → Option ((List Sapi_Entry × Int × List Sapi_Entry × Speriod_Table)) | .exit 0 s => ((vec_Sapi_Entry s.o (s.get 3)).bind fun q0 => (match s.get 1000000000000000, lk s.o 7000000000000 with | .ptr 7000000000000 0, some (.lit (.flat (.int .i64 x36) :: u7000000000000_1 :: u7000000000000_t)) => (tip_Sapi_Entry s.o 3 u7000000000000_1).bind fun w7000000000000_1 => ((cd_Speriod_Table.full u7000000000000_t).bind fun w7000000000000_t => (cond (apart [q0.1, w7000000000000_1.1]) (some (q0.2, x36, w7000000000000_1.2, w7000000000000_t)) none)) | _, _ => none)) | _ => none
noncomputable def ledger_Book_Entries.l5.L (k : Nat) : LDen U := { X := (Int × Int × List Sapi_Entry × Int × List Sapi_Entry × Speriod_Table), Y := (List Sapi_Entry × Int × List Sapi_Entry × Speriod_Table), un := ledger_Book_Entries.l5.un, f := iter (ledger_Book_Entries.l5.once k) k, fin := ledger_Book_Entries.l5.fin, finK := ledger_Book_Entries.l5.finK, finK_eq := ledger_Book_Entries.l5.finK_eq }
noncomputable def ledger_Book_Entries.jl : List (Nat × JDen U) := []
noncomputable def ledger_Book_Entries.fl (k : Nat) : List (Nat × FDen U) := [(74, slices_Clone_api_Entry_o.D k), (73, slices_Clip_api_Entry_v0_o.D k), (76, slices_Clone_api_Line.D k), (75, slices_Clip_api_Line.D k)]
noncomputable def ledger_Book_Entries.ll (k : Nat) : List (Nat × LDen U) := [(5, ledger_Book_Entries.l5.L k)]
noncomputable def ledger_Book_Entries.E (k : Nat) : Env U := { P := Try.prog, D := DD, fd := lk (ledger_Book_Entries.fl k), ld := lk (ledger_Book_Entries.ll k), jd := lk ledger_Book_Entries.jl, mode := lk [], elc := lk ec, mpc := lk mc, rts := Try.f31.resultTypes.toList, dyn := fun t => false, vecs := fun d => Nat.beq d 11 || Nat.beq d 12, results := Try.f31.results.toList, gh := [0], own := false, io := fun g i => (Nat.beq g 73 && Nat.beq i 0) }
theorem ledger_Book_Entries.ok (k : Nat) : EnvOk (ledger_Book_Entries.E k) := envOk lawful (ledger_Book_Entries.fl k) (ledger_Book_Entries.ll k) ledger_Book_Entries.jl _ _ _ _ _ _ _ _ _ _ (by
  intro p hp
  simp only [ledger_Book_Entries.fl, List.mem_cons, List.not_mem_nil, or_false] at hp
  rcases hp with rfl | rfl | rfl | rfl
  · exact ⟨slices_Clone_api_Entry_o.sound k, enter_of Try.func74 (by kernel_rfl) (by kernel_rfl)⟩
  · exact ⟨slices_Clip_api_Entry_v0_o.sound k, enter_of Try.func73 (by kernel_rfl) (by kernel_rfl)⟩
  · exact ⟨slices_Clone_api_Line.sound k, enter_of Try.func76 (by kernel_rfl) (by kernel_rfl)⟩
  · exact ⟨slices_Clip_api_Line.sound k, enter_of Try.func75 (by kernel_rfl) (by kernel_rfl)⟩) (by
  intro p hp
  simp [ledger_Book_Entries.jl] at hp)
theorem ledger_Book_Entries.l5.eq (k : Nat) (x : (Int × Int × List Sapi_Entry × Int × List Sapi_Entry × Speriod_Table)) : evC (ledger_Book_Entries.E k) (loopAt Try.f31 5) (ledger_Book_Entries.l5.mk x) (headK ledger_Book_Entries.l5.un ledger_Book_Entries.l5.re) = ledger_Book_Entries.l5.once k x := by kernel_rfl
theorem ledger_Book_Entries.l5.fit (s : St U) (x : (Int × Int × List Sapi_Entry × Int × List Sapi_Entry × Speriod_Table)) (h : ledger_Book_Entries.l5.un s = some x) : Fits s (ledger_Book_Entries.l5.mk x) := by
  unfold ledger_Book_Entries.l5.un at h
  obtain ⟨q0, eq0, h1⟩ := Option.bind_eq_some_iff.1 h
  split at h1
  · obtain ⟨w7000000000000_1, ew7000000000000_1, h2⟩ := Option.bind_eq_some_iff.1 h1
    obtain ⟨w7000000000000_t, ew7000000000000_t, h3⟩ := Option.bind_eq_some_iff.1 h2
    obtain ⟨hap, h4⟩ := cond_none h3
    cases h4
    refine fits_ren [(1005003, q0.1), (700002000500001, w7000000000000_1.1)] ?_ ?_ (ren_apart hap) rfl
    · exact List.forall_mem_cons.2 ⟨FV.one (FV.ptr (by assumption)), List.forall_mem_cons.2 ⟨FV.one (vec_Sapi_Entry_fit eq0 rfl).1, List.forall_mem_cons.2 ⟨FV.one (FV.same (by assumption) rfl), List.forall_mem_cons.2 ⟨FV.one (FV.same (by assumption) rfl), fun _ hp => (List.not_mem_nil hp).elim⟩⟩⟩⟩
    · exact List.forall_mem_cons.2 ⟨(vec_Sapi_Entry_fit eq0 rfl).2, List.forall_mem_cons.2 ⟨(FO.cells (show lk (St.o _) 7000000000000 = some _ from by assumption) (FCs.cons (c0_same rfl rfl) (FCs.cons ((tip_Sapi_Entry_fit ew7000000000000_1 rfl).1) (FCs.tail (Cd.full_ok ew7000000000000_t) rfl)))), List.forall_mem_cons.2 ⟨(tip_Sapi_Entry_fit ew7000000000000_1 rfl).2, fun _ hp => (List.not_mem_nil hp).elim⟩⟩⟩
  · cases h1
theorem ledger_Book_Entries.l5.fitO (o : Out U) (y : (List Sapi_Entry × Int × List Sapi_Entry × Speriod_Table)) (h : ledger_Book_Entries.l5.re o = some y) : FitsO o (ledger_Book_Entries.l5.fin y) := by
  unfold ledger_Book_Entries.l5.re at h
  split at h
  · obtain ⟨q0, eq0, h1⟩ := Option.bind_eq_some_iff.1 h
    split at h1
    · obtain ⟨w7000000000000_1, ew7000000000000_1, h2⟩ := Option.bind_eq_some_iff.1 h1
      obtain ⟨w7000000000000_t, ew7000000000000_t, h3⟩ := Option.bind_eq_some_iff.1 h2
      obtain ⟨hap, h4⟩ := cond_none h3
      cases h4
      refine fitsO_exit (fits_ren [(1005003, q0.1), (700002000500001, w7000000000000_1.1)] ?_ ?_ (ren_apart hap) rfl)
      · exact List.forall_mem_cons.2 ⟨FV.one (FV.ptr (by assumption)), List.forall_mem_cons.2 ⟨FV.one (vec_Sapi_Entry_fit eq0 rfl).1, fun _ hp => (List.not_mem_nil hp).elim⟩⟩
      · exact List.forall_mem_cons.2 ⟨(vec_Sapi_Entry_fit eq0 rfl).2, List.forall_mem_cons.2 ⟨(FO.cells (show lk (St.o _) 7000000000000 = some _ from by assumption) (FCs.cons (c0_same rfl rfl) (FCs.cons ((tip_Sapi_Entry_fit ew7000000000000_1 rfl).1) (FCs.tail (Cd.full_ok ew7000000000000_t) rfl)))), List.forall_mem_cons.2 ⟨(tip_Sapi_Entry_fit ew7000000000000_1 rfl).2, fun _ hp => (List.not_mem_nil hp).elim⟩⟩⟩
    · cases h1
  · cases h
theorem ledger_Book_Entries.l5.sound (k : Nat) : LSound (ledger_Book_Entries.E k) Try.f31.ntmps Try.f31 (loopAt Try.f31 5) (ledger_Book_Entries.l5.L k) :=
  loop_sound (ledger_Book_Entries.ok k) mixed rfl (by kernel_rfl) (allL_of (l := []) (by kernel_rfl) allL_nil) ledger_Book_Entries.l5.un ledger_Book_Entries.l5.mk ledger_Book_Entries.l5.fin ledger_Book_Entries.l5.re (ledger_Book_Entries.l5.once k) k ledger_Book_Entries.l5.fit ledger_Book_Entries.l5.fitO (ledger_Book_Entries.l5.eq k) ledger_Book_Entries.l5.finK ledger_Book_Entries.l5.finK_eq
theorem ledger_Book_Entries.eq (k : Nat) (x : Sledger_Book) : runF (ledger_Book_Entries.E k) (codeOf Try.f31) (ledger_Book_Entries.mk x) ledger_Book_Entries.re = (ledger_Book_Entries.D k).f x := by kernel_rfl
theorem ledger_Book_Entries.fit (s : St U) (x : Sledger_Book) (h : ledger_Book_Entries.un s = some x) : Fits s (ledger_Book_Entries.mk x) := by
  unfold ledger_Book_Entries.un at h
  split at h
  · obtain ⟨ex2, hex2, hh1⟩ := Option.bind_eq_some_iff.1 h
    obtain ⟨x4, hx4, hh2⟩ := Option.bind_eq_some_iff.1 hh1
    cases hh2
    refine fits_ren [(7000000000002, ex2.1)] ?_ ?_ ren_one rfl
    · exact List.forall_mem_cons.2 ⟨FV.one (FV.ptr (by assumption)), List.forall_mem_cons.2 ⟨FV.one (FV.ptr (by assumption)), fun _ hp => (List.not_mem_nil hp).elim⟩⟩
    · exact List.forall_mem_cons.2 ⟨FO.cells (show lk (St.o _) 7000000000000 = some _ from by assumption) (FCs.cons (c0_same rfl rfl) (FCs.cons ((tip_Sapi_Entry_fit hex2 rfl).1) (FCs.tail (Cd.full_ok hx4) rfl))), List.forall_mem_cons.2 ⟨(tip_Sapi_Entry_fit hex2 rfl).2, fun _ hp => (List.not_mem_nil hp).elim⟩⟩
  · cases h
theorem ledger_Book_Entries.fitR (s : St U) (y : (List Sapi_Entry × Sledger_Book)) (h : ledger_Book_Entries.re s = some y) : Fits s (ledger_Book_Entries.fin y) := by
  unfold ledger_Book_Entries.re at h
  split at h
  · obtain ⟨ex3, hex3, hh1⟩ := Option.bind_eq_some_iff.1 h
    obtain ⟨x5, hx5, hh2⟩ := Option.bind_eq_some_iff.1 hh1
    cases hh2
    refine fits_ren [(7000000000002, ex3.1)] ?_ ?_ ren_one rfl
    · exact List.forall_mem_cons.2 ⟨FV.one (FV.same (by assumption) rfl), List.forall_mem_cons.2 ⟨FV.one (FV.ptr (by assumption)), fun _ hp => (List.not_mem_nil hp).elim⟩⟩
    · exact List.forall_mem_cons.2 ⟨FO.cells (show lk (St.o _) 7000000000000 = some _ from by assumption) (FCs.cons (c0_same rfl rfl) (FCs.cons ((tip_Sapi_Entry_fit hex3 rfl).1) (FCs.tail (Cd.full_ok hx5) rfl))), List.forall_mem_cons.2 ⟨(tip_Sapi_Entry_fit hex3 rfl).2, fun _ hp => (List.not_mem_nil hp).elim⟩⟩
  · cases h
theorem ledger_Book_Entries.sound (k : Nat) : Sound Try.prog DD 31 (ledger_Book_Entries.D k) :=
  fun_sound (E := ledger_Book_Entries.E k) (fn := Try.f31) (c := codeOf Try.f31) (ledger_Book_Entries.ok k) mixed rfl Try.func31 (by kernel_rfl) (by kernel_rfl) (allL_of (l := [loopAt Try.f31 5]) (by kernel_rfl) (allL_cons (key := 5) (by kernel_rfl) rfl (ledger_Book_Entries.l5.sound k) allL_nil)) (ledger_Book_Entries.D k) ledger_Book_Entries.mk ledger_Book_Entries.re (by kernel_rfl) (by kernel_rfl) ledger_Book_Entries.fit ledger_Book_Entries.fitR (ledger_Book_Entries.eq k)
/-! ### (*pyx/ledger.Book).Scale: function 39 -/
noncomputable def ledger_Book_Scale.f (k : Nat) (a0 : Sledger_Book) : Option (Int × Sledger_Book) := some (a0.f_scale, (⟨a0.f_scale, a0.f_l, (⟨pack 12 false a0.f_t.f_Closed, pack 12 0 a0.f_t.f_Version⟩ : Speriod_Table)⟩ : Sledger_Book))
noncomputable def ledger_Book_Scale.un (s : St U) : Option Sledger_Book := match s.get 0, lk s.o 7000000000000, s.get 1000000000000000 with | .ptr 7000000000000 0, some (.lit (.flat (.int .i64 x1) :: x5 :: x3)), .ptr 7000000000000 0 => (tip_Sapi_Entry s.o 3 x5).bind fun ex2 => ((cd_Speriod_Table.full x3).bind fun x4 => (some (⟨x1, ex2.2, x4⟩ : Sledger_Book))) | _, _, _ => none
noncomputable def ledger_Book_Scale.mk (x : Sledger_Book) : St U := ⟨[(0, .ptr 7000000000000 0), (1000000000000000, .ptr 7000000000000 0)], [(7000000000000, .lit ((.flat (.int .i64 x.f_scale)) :: (.tip 7000000000002 C.Sapi_Entry x.f_l) :: cd_Speriod_Table.enc x.f_t)), (7000000000002, .tip 3)]⟩
noncomputable def ledger_Book_Scale.fin (y : (Int × Sledger_Book)) : St U := ⟨[(0, .flat (.int .i64 y.1)), (1000000000000000, .ptr 7000000000000 0)], [(7000000000000, .lit ((.flat (.int .i64 y.2.f_scale)) :: (.tip 7000000000002 C.Sapi_Entry y.2.f_l) :: cd_Speriod_Table.enc y.2.f_t)), (7000000000002, .tip 3)]⟩
noncomputable def ledger_Book_Scale.D (k : Nat) : FDen U := { X := Sledger_Book, Y := (Int × Sledger_Book), nt := 9, gh := [0], un := ledger_Book_Scale.un, f := fun x => ledger_Book_Scale.f k (x), fin := ledger_Book_Scale.fin, cl := false, clo := fun h => by cases h }
noncomputable def ledger_Book_Scale.re (s : St U) : Option (Int × Sledger_Book) := match s.get 0, s.get 1000000000000000, lk s.o 7000000000000 with | .flat (.int .i64 x1), .ptr 7000000000000 0, some (.lit (.flat (.int .i64 x2) :: x6 :: x4)) => (tip_Sapi_Entry s.o 3 x6).bind fun ex3 => ((cd_Speriod_Table.full x4).bind fun x5 => (some (x1, (⟨x2, ex3.2, x5⟩ : Sledger_Book)))) | _, _, _ => none
noncomputable def ledger_Book_Scale.jl : List (Nat × JDen U) := []
noncomputable def ledger_Book_Scale.fl (k : Nat) : List (Nat × FDen U) := []
noncomputable def ledger_Book_Scale.ll (k : Nat) : List (Nat × LDen U) := []
noncomputable def ledger_Book_Scale.E (k : Nat) : Env U := { P := Try.prog, D := DD, fd := lk (ledger_Book_Scale.fl k), ld := lk (ledger_Book_Scale.ll k), jd := lk ledger_Book_Scale.jl, mode := lk [], elc := lk ec, mpc := lk mc, rts := Try.f39.resultTypes.toList, dyn := fun t => false, vecs := fun d => false, results := Try.f39.results.toList, gh := [0], own := false, io := fun g i => false }
theorem ledger_Book_Scale.ok (k : Nat) : EnvOk (ledger_Book_Scale.E k) := envOk lawful (ledger_Book_Scale.fl k) (ledger_Book_Scale.ll k) ledger_Book_Scale.jl _ _ _ _ _ _ _ _ _ _ (by
  intro p hp
  simp [ledger_Book_Scale.fl] at hp) (by
  intro p hp
  simp [ledger_Book_Scale.jl] at hp)
theorem ledger_Book_Scale.eq (k : Nat) (x : Sledger_Book) : runF (ledger_Book_Scale.E k) (codeOf Try.f39) (ledger_Book_Scale.mk x) ledger_Book_Scale.re = (ledger_Book_Scale.D k).f x := by kernel_rfl
theorem ledger_Book_Scale.fit (s : St U) (x : Sledger_Book) (h : ledger_Book_Scale.un s = some x) : Fits s (ledger_Book_Scale.mk x) := by
  unfold ledger_Book_Scale.un at h
  split at h
  · obtain ⟨ex2, hex2, hh1⟩ := Option.bind_eq_some_iff.1 h
    obtain ⟨x4, hx4, hh2⟩ := Option.bind_eq_some_iff.1 hh1
    cases hh2
    refine fits_ren [(7000000000002, ex2.1)] ?_ ?_ ren_one rfl
    · exact List.forall_mem_cons.2 ⟨FV.one (FV.ptr (by assumption)), List.forall_mem_cons.2 ⟨FV.one (FV.ptr (by assumption)), fun _ hp => (List.not_mem_nil hp).elim⟩⟩
    · exact List.forall_mem_cons.2 ⟨FO.cells (show lk (St.o _) 7000000000000 = some _ from by assumption) (FCs.cons (c0_same rfl rfl) (FCs.cons ((tip_Sapi_Entry_fit hex2 rfl).1) (FCs.tail (Cd.full_ok hx4) rfl))), List.forall_mem_cons.2 ⟨(tip_Sapi_Entry_fit hex2 rfl).2, fun _ hp => (List.not_mem_nil hp).elim⟩⟩
  · cases h
theorem ledger_Book_Scale.fitR (s : St U) (y : (Int × Sledger_Book)) (h : ledger_Book_Scale.re s = some y) : Fits s (ledger_Book_Scale.fin y) := by
  unfold ledger_Book_Scale.re at h
  split at h
  · obtain ⟨ex3, hex3, hh1⟩ := Option.bind_eq_some_iff.1 h
    obtain ⟨x5, hx5, hh2⟩ := Option.bind_eq_some_iff.1 hh1
    cases hh2
    refine fits_ren [(7000000000002, ex3.1)] ?_ ?_ ren_one rfl
    · exact List.forall_mem_cons.2 ⟨FV.one (FV.same (by assumption) rfl), List.forall_mem_cons.2 ⟨FV.one (FV.ptr (by assumption)), fun _ hp => (List.not_mem_nil hp).elim⟩⟩
    · exact List.forall_mem_cons.2 ⟨FO.cells (show lk (St.o _) 7000000000000 = some _ from by assumption) (FCs.cons (c0_same rfl rfl) (FCs.cons ((tip_Sapi_Entry_fit hex3 rfl).1) (FCs.tail (Cd.full_ok hx5) rfl))), List.forall_mem_cons.2 ⟨(tip_Sapi_Entry_fit hex3 rfl).2, fun _ hp => (List.not_mem_nil hp).elim⟩⟩
  · cases h
theorem ledger_Book_Scale.sound (k : Nat) : Sound Try.prog DD 39 (ledger_Book_Scale.D k) :=
  fun_sound (E := ledger_Book_Scale.E k) (fn := Try.f39) (c := codeOf Try.f39) (ledger_Book_Scale.ok k) mixed rfl Try.func39 (by kernel_rfl) (by kernel_rfl) (allL_of (l := []) (by kernel_rfl) allL_nil) (ledger_Book_Scale.D k) ledger_Book_Scale.mk ledger_Book_Scale.re (by kernel_rfl) (by kernel_rfl) ledger_Book_Scale.fit ledger_Book_Scale.fitR (ledger_Book_Scale.eq k)
/-! ### pyx/pyxlaw14.known: function 28 -/
noncomputable def pyxlaw14_known.f (k : Nat)  : Option Bool := (ledger_New.f k 2).bind fun t1 => ((pyxhand_Lines.f k ([] : List Int) 2 0 2).bind fun t2 => ((ledger_Book_Post.f k (⟨t1.f_scale, t1.f_l, (⟨pack 12 false t1.f_t.f_Closed, pack 12 0 t1.f_t.f_Version⟩ : Speriod_Table)⟩ : Sledger_Book) 0 t2).bind fun t3 => ((ledger_Book_Entries.f k (⟨t3.2.2.f_scale, t3.2.2.f_l, (⟨pack 12 false t3.2.2.f_t.f_Closed, pack 12 0 t3.2.2.f_t.f_Version⟩ : Speriod_Table)⟩ : Sledger_Book)).bind fun t4 => (cond (t3.1 == 0) (cond (t3.2.1 == 0) (cond ((List.length t4.1 : Int) == 1) (cond (inb 0 (List.length t4.1)) (cond (((List.getD t4.1 0 Sapi_Entry.zero).f_Of) == (-1)) (cond (inb 0 (List.length t4.1)) (cond ((List.length ((List.getD t4.1 0 Sapi_Entry.zero).f_Lines) : Int) == 2) ((ledger_Book_Scale.f k (⟨t4.2.f_scale, t4.2.f_l, (⟨pack 12 false t4.2.f_t.f_Closed, pack 12 0 t4.2.f_t.f_Version⟩ : Speriod_Table)⟩ : Sledger_Book)).bind fun t5 => (some (t5.1 == 2))) (some false)) none) (some false)) none) (some false)) (some false)) (some false)))))
noncomputable def pyxlaw14_known.un (s : St U) : Option Unit := some ()
noncomputable def pyxlaw14_known.mk (x : Unit) : St U := ⟨[], []⟩
noncomputable def pyxlaw14_known.fin (y : Bool) : St U := ⟨[(0, .flat (.bool y))], []⟩
noncomputable def pyxlaw14_known.D (k : Nat) : FDen U := { X := Unit, Y := Bool, nt := 47, gh := [], un := pyxlaw14_known.un, f := fun x => pyxlaw14_known.f k , fin := pyxlaw14_known.fin, cl := true, clo := fun _ _ => rfl }
noncomputable def pyxlaw14_known.re (s : St U) : Option Bool := match s.get 0 with | .flat (.bool x1) => some x1 | _ => none
noncomputable def pyxlaw14_known.jl : List (Nat × JDen U) := []
noncomputable def pyxlaw14_known.fl (k : Nat) : List (Nat × FDen U) := [(27, ledger_New.D k), (29, pyxhand_Lines.D k), (30, ledger_Book_Post.D k), (31, ledger_Book_Entries.D k), (39, ledger_Book_Scale.D k)]
noncomputable def pyxlaw14_known.ll (k : Nat) : List (Nat × LDen U) := []
noncomputable def pyxlaw14_known.E (k : Nat) : Env U := { P := Try.prog, D := DD, fd := lk (pyxlaw14_known.fl k), ld := lk (pyxlaw14_known.ll k), jd := lk pyxlaw14_known.jl, mode := lk [], elc := lk ec, mpc := lk mc, rts := Try.f28.resultTypes.toList, dyn := fun t => false, vecs := fun d => false, results := Try.f28.results.toList, gh := [], own := false, io := fun g i => false }
theorem pyxlaw14_known.ok (k : Nat) : EnvOk (pyxlaw14_known.E k) := envOk lawful (pyxlaw14_known.fl k) (pyxlaw14_known.ll k) pyxlaw14_known.jl _ _ _ _ _ _ _ _ _ _ (by
  intro p hp
  simp only [pyxlaw14_known.fl, List.mem_cons, List.not_mem_nil, or_false] at hp
  rcases hp with rfl | rfl | rfl | rfl | rfl
  · exact ⟨ledger_New.sound k, enter_of Try.func27 (by kernel_rfl) (by kernel_rfl)⟩
  · exact ⟨pyxhand_Lines.sound k, enter_of Try.func29 (by kernel_rfl) (by kernel_rfl)⟩
  · exact ⟨ledger_Book_Post.sound k, enter_of Try.func30 (by kernel_rfl) (by kernel_rfl)⟩
  · exact ⟨ledger_Book_Entries.sound k, enter_of Try.func31 (by kernel_rfl) (by kernel_rfl)⟩
  · exact ⟨ledger_Book_Scale.sound k, enter_of Try.func39 (by kernel_rfl) (by kernel_rfl)⟩) (by
  intro p hp
  simp [pyxlaw14_known.jl] at hp)
theorem pyxlaw14_known.eq (k : Nat) (x : Unit) : runF (pyxlaw14_known.E k) (codeOf Try.f28) (pyxlaw14_known.mk x) pyxlaw14_known.re = (pyxlaw14_known.D k).f x := by kernel_rfl
theorem pyxlaw14_known.fit (s : St U) (x : Unit) (h : pyxlaw14_known.un s = some x) : Fits s (pyxlaw14_known.mk x) := by
  unfold pyxlaw14_known.un at h
  cases h
  refine fits_ren [] ?_ ?_ ren_nil rfl
  · exact fun _ hp => (List.not_mem_nil hp).elim
  · exact fun _ hp => (List.not_mem_nil hp).elim
theorem pyxlaw14_known.fitR (s : St U) (y : Bool) (h : pyxlaw14_known.re s = some y) : Fits s (pyxlaw14_known.fin y) := by
  unfold pyxlaw14_known.re at h
  split at h
  · cases h
    refine fits_ren [] ?_ ?_ ren_nil rfl
    · exact List.forall_mem_cons.2 ⟨FV.one (FV.same (by assumption) rfl), fun _ hp => (List.not_mem_nil hp).elim⟩
    · exact fun _ hp => (List.not_mem_nil hp).elim
  · cases h
theorem pyxlaw14_known.sound (k : Nat) : Sound Try.prog DD 28 (pyxlaw14_known.D k) :=
  fun_sound (E := pyxlaw14_known.E k) (fn := Try.f28) (c := codeOf Try.f28) (pyxlaw14_known.ok k) mixed rfl Try.func28 (by kernel_rfl) (by kernel_rfl) (allL_of (l := []) (by kernel_rfl) allL_nil) (pyxlaw14_known.D k) pyxlaw14_known.mk pyxlaw14_known.re (by kernel_rfl) (by kernel_rfl) pyxlaw14_known.fit pyxlaw14_known.fitR (pyxlaw14_known.eq k)
/-! ### (*pyx/ledger.Book).Periods: function 45 -/
noncomputable def ledger_Book_Periods.f (k : Nat) (a0 : Sledger_Book) : Option (Speriod_Table × Sledger_Book) := some ((⟨pack 12 false a0.f_t.f_Closed, pack 12 0 a0.f_t.f_Version⟩ : Speriod_Table), (⟨a0.f_scale, a0.f_l, (⟨pack 12 false a0.f_t.f_Closed, pack 12 0 a0.f_t.f_Version⟩ : Speriod_Table)⟩ : Sledger_Book))
noncomputable def ledger_Book_Periods.un (s : St U) : Option Sledger_Book := match s.get 0, lk s.o 7000000000000, s.get 1000000000000000 with | .ptr 7000000000000 0, some (.lit (.flat (.int .i64 x1) :: x5 :: x3)), .ptr 7000000000000 0 => (tip_Sapi_Entry s.o 3 x5).bind fun ex2 => ((cd_Speriod_Table.full x3).bind fun x4 => (some (⟨x1, ex2.2, x4⟩ : Sledger_Book))) | _, _, _ => none
noncomputable def ledger_Book_Periods.mk (x : Sledger_Book) : St U := ⟨[(0, .ptr 7000000000000 0), (1000000000000000, .ptr 7000000000000 0)], [(7000000000000, .lit ((.flat (.int .i64 x.f_scale)) :: (.tip 7000000000002 C.Sapi_Entry x.f_l) :: cd_Speriod_Table.enc x.f_t)), (7000000000002, .tip 3)]⟩
noncomputable def ledger_Book_Periods.fin (y : (Speriod_Table × Sledger_Book)) : St U := ⟨[(0, .agg (cd_Speriod_Table.enc y.1)), (1000000000000000, .ptr 7000000000000 0)], [(7000000000000, .lit ((.flat (.int .i64 y.2.f_scale)) :: (.tip 7000000000002 C.Sapi_Entry y.2.f_l) :: cd_Speriod_Table.enc y.2.f_t)), (7000000000002, .tip 3)]⟩
noncomputable def ledger_Book_Periods.D (k : Nat) : FDen U := { X := Sledger_Book, Y := (Speriod_Table × Sledger_Book), nt := 10, gh := [0], un := ledger_Book_Periods.un, f := fun x => ledger_Book_Periods.f k (x), fin := ledger_Book_Periods.fin, cl := false, clo := fun h => by cases h }
noncomputable def ledger_Book_Periods.re (s : St U) : Option (Speriod_Table × Sledger_Book) := match s.get 0, s.get 1000000000000000, lk s.o 7000000000000 with | .agg x1, .ptr 7000000000000 0, some (.lit (.flat (.int .i64 x3) :: x7 :: x5)) => (cd_Speriod_Table.full x1).bind fun x2 => ((tip_Sapi_Entry s.o 3 x7).bind fun ex4 => ((cd_Speriod_Table.full x5).bind fun x6 => (some (x2, (⟨x3, ex4.2, x6⟩ : Sledger_Book))))) | _, _, _ => none
noncomputable def ledger_Book_Periods.jl : List (Nat × JDen U) := []
noncomputable def ledger_Book_Periods.fl (k : Nat) : List (Nat × FDen U) := []
noncomputable def ledger_Book_Periods.ll (k : Nat) : List (Nat × LDen U) := []
noncomputable def ledger_Book_Periods.E (k : Nat) : Env U := { P := Try.prog, D := DD, fd := lk (ledger_Book_Periods.fl k), ld := lk (ledger_Book_Periods.ll k), jd := lk ledger_Book_Periods.jl, mode := lk [], elc := lk ec, mpc := lk mc, rts := Try.f45.resultTypes.toList, dyn := fun t => false, vecs := fun d => false, results := Try.f45.results.toList, gh := [0], own := false, io := fun g i => false }
theorem ledger_Book_Periods.ok (k : Nat) : EnvOk (ledger_Book_Periods.E k) := envOk lawful (ledger_Book_Periods.fl k) (ledger_Book_Periods.ll k) ledger_Book_Periods.jl _ _ _ _ _ _ _ _ _ _ (by
  intro p hp
  simp [ledger_Book_Periods.fl] at hp) (by
  intro p hp
  simp [ledger_Book_Periods.jl] at hp)
theorem ledger_Book_Periods.eq (k : Nat) (x : Sledger_Book) : runF (ledger_Book_Periods.E k) (codeOf Try.f45) (ledger_Book_Periods.mk x) ledger_Book_Periods.re = (ledger_Book_Periods.D k).f x := by kernel_rfl
theorem ledger_Book_Periods.fit (s : St U) (x : Sledger_Book) (h : ledger_Book_Periods.un s = some x) : Fits s (ledger_Book_Periods.mk x) := by
  unfold ledger_Book_Periods.un at h
  split at h
  · obtain ⟨ex2, hex2, hh1⟩ := Option.bind_eq_some_iff.1 h
    obtain ⟨x4, hx4, hh2⟩ := Option.bind_eq_some_iff.1 hh1
    cases hh2
    refine fits_ren [(7000000000002, ex2.1)] ?_ ?_ ren_one rfl
    · exact List.forall_mem_cons.2 ⟨FV.one (FV.ptr (by assumption)), List.forall_mem_cons.2 ⟨FV.one (FV.ptr (by assumption)), fun _ hp => (List.not_mem_nil hp).elim⟩⟩
    · exact List.forall_mem_cons.2 ⟨FO.cells (show lk (St.o _) 7000000000000 = some _ from by assumption) (FCs.cons (c0_same rfl rfl) (FCs.cons ((tip_Sapi_Entry_fit hex2 rfl).1) (FCs.tail (Cd.full_ok hx4) rfl))), List.forall_mem_cons.2 ⟨(tip_Sapi_Entry_fit hex2 rfl).2, fun _ hp => (List.not_mem_nil hp).elim⟩⟩
  · cases h
theorem ledger_Book_Periods.fitR (s : St U) (y : (Speriod_Table × Sledger_Book)) (h : ledger_Book_Periods.re s = some y) : Fits s (ledger_Book_Periods.fin y) := by
  unfold ledger_Book_Periods.re at h
  split at h
  · obtain ⟨x2, hx2, hh1⟩ := Option.bind_eq_some_iff.1 h
    have hc1 := Cd.full_ok hx2
    clear hx2
    subst hc1
    obtain ⟨ex4, hex4, hh2⟩ := Option.bind_eq_some_iff.1 hh1
    obtain ⟨x6, hx6, hh3⟩ := Option.bind_eq_some_iff.1 hh2
    cases hh3
    refine fits_ren [(7000000000002, ex4.1)] ?_ ?_ ren_one rfl
    · exact List.forall_mem_cons.2 ⟨FV.one (FV.same (by assumption) rfl), List.forall_mem_cons.2 ⟨FV.one (FV.ptr (by assumption)), fun _ hp => (List.not_mem_nil hp).elim⟩⟩
    · exact List.forall_mem_cons.2 ⟨FO.cells (show lk (St.o _) 7000000000000 = some _ from by assumption) (FCs.cons (c0_same rfl rfl) (FCs.cons ((tip_Sapi_Entry_fit hex4 rfl).1) (FCs.tail (Cd.full_ok hx6) rfl))), List.forall_mem_cons.2 ⟨(tip_Sapi_Entry_fit hex4 rfl).2, fun _ hp => (List.not_mem_nil hp).elim⟩⟩
  · cases h
theorem ledger_Book_Periods.sound (k : Nat) : Sound Try.prog DD 45 (ledger_Book_Periods.D k) :=
  fun_sound (E := ledger_Book_Periods.E k) (fn := Try.f45) (c := codeOf Try.f45) (ledger_Book_Periods.ok k) mixed rfl Try.func45 (by kernel_rfl) (by kernel_rfl) (allL_of (l := []) (by kernel_rfl) allL_nil) (ledger_Book_Periods.D k) ledger_Book_Periods.mk ledger_Book_Periods.re (by kernel_rfl) (by kernel_rfl) ledger_Book_Periods.fit ledger_Book_Periods.fitR (ledger_Book_Periods.eq k)
/-! ### pyx/period.Close: function 78 -/
noncomputable def period_Close.f (k : Nat) (a0 : Speriod_Table) (a1 : Int) : Option (Speriod_Table × Int) := (((period_IsOpen.f k (⟨pack 12 false a0.f_Closed, pack 12 0 a0.f_Version⟩ : Speriod_Table) a1).bind fun t1 => (cond (!t1) (some (a1, true, (⟨pack 12 false a0.f_Closed, pack 12 0 a0.f_Version⟩ : Speriod_Table), (⟨[false, false, false, false, false, false, false, false, false, false, false, false], [0, 0, 0, 0, 0, 0, 0, 0, 0, 0, 0, 0]⟩ : Speriod_Table))) (cond (decide (a1 > 0)) (cond (inb (IntKind.wrap .i64 (a1 - 1)) 12) (cond (Nat.blt (Int.toNat (IntKind.wrap .i64 (a1 - 1))) 12) (some (a1, !(List.getD (pack 12 false a0.f_Closed) (Int.toNat (IntKind.wrap .i64 (a1 - 1))) false), (⟨pack 12 false a0.f_Closed, pack 12 0 a0.f_Version⟩ : Speriod_Table), (⟨[false, false, false, false, false, false, false, false, false, false, false, false], [0, 0, 0, 0, 0, 0, 0, 0, 0, 0, 0, 0]⟩ : Speriod_Table))) none) none) (some (a1, false, (⟨pack 12 false a0.f_Closed, pack 12 0 a0.f_Version⟩ : Speriod_Table), (⟨[false, false, false, false, false, false, false, false, false, false, false, false], [0, 0, 0, 0, 0, 0, 0, 0, 0, 0, 0, 0]⟩ : Speriod_Table)))))) : Option (Int × Bool × Speriod_Table × Speriod_Table)).bind fun y6 => (cond (y6.2.1) (some ((⟨[false, false, false, false, false, false, false, false, false, false, false, false], [0, 0, 0, 0, 0, 0, 0, 0, 0, 0, 0, 0]⟩ : Speriod_Table), 8)) (cond (inb y6.1 12) (cond (Nat.blt (Int.toNat y6.1) 12) (cond (inb y6.1 12) (cond (Nat.blt (Int.toNat y6.1) 12) (cond (inb y6.1 12) (cond (Nat.blt (Int.toNat y6.1) 12) (some ((⟨putAll (Int.toNat y6.1) true 0 (pack 12 false y6.2.2.1.f_Closed), putAll (Int.toNat y6.1) (IntKind.wrap .i64 ((List.getD (pack 12 0 y6.2.2.1.f_Version) (Int.toNat y6.1) 0) + 1)) 0 (pack 12 0 y6.2.2.1.f_Version)⟩ : Speriod_Table), 0)) none) none) none) none) none) none))
noncomputable def period_Close.un (s : St U) : Option (Speriod_Table × Int) := match s.get 0, s.get 1 with | .agg x1, .flat (.int .i64 x3) => (cd_Speriod_Table.full x1).bind fun x2 => (some (x2, x3)) | _, _ => none
noncomputable def period_Close.mk (x : (Speriod_Table × Int)) : St U := ⟨[(0, .agg (cd_Speriod_Table.enc x.1)), (1, .flat (.int .i64 x.2))], []⟩
noncomputable def period_Close.fin (y : (Speriod_Table × Int)) : St U := ⟨[(0, .tup [.agg (cd_Speriod_Table.enc y.1), .flat (.int .i64 y.2)])], []⟩
noncomputable def period_Close.D (k : Nat) : FDen U := { X := (Speriod_Table × Int), Y := (Speriod_Table × Int), nt := 34, gh := [], un := period_Close.un, f := fun x => period_Close.f k (x.1) (x.2), fin := period_Close.fin, cl := true, clo := fun _ _ => rfl }
noncomputable def period_Close.re (s : St U) : Option (Speriod_Table × Int) := match s.get 0 with | .tup [.agg x1, .flat (.int .i64 x3)] => (cd_Speriod_Table.full x1).bind fun x2 => (some (x2, x3)) | _ => none
noncomputable def period_Close.j1000.fin (y : (Int × Bool × Speriod_Table × Speriod_Table)) : Out U := match y with | (x2, x5, x3, x4) => .norm ⟨[(2, .ptr 2 0), (4, .ptr 4 0), (1, .flat (.int .i64 x2)), (21, .flat (.bool x5))], [(2, .lit (cd_Speriod_Table.enc x3)), (4, .lit (cd_Speriod_Table.enc x4))]⟩
noncomputable def period_Close.j1000.finK {ρ : Type} (y : (Int × Bool × Speriod_Table × Speriod_Table)) (K : Out U → Option ρ) : Option ρ := match y with | (x2, x5, x3, x4) => K (.norm ⟨[(2, .ptr 2 0), (4, .ptr 4 0), (1, .flat (.int .i64 x2)), (21, .flat (.bool x5))], [(2, .lit (cd_Speriod_Table.enc x3)), (4, .lit (cd_Speriod_Table.enc x4))]⟩)
theorem period_Close.j1000.finK_eq {ρ : Type} (y : (Int × Bool × Speriod_Table × Speriod_Table)) (K : Out U → Option ρ) : period_Close.j1000.finK y K = K (period_Close.j1000.fin y) := by
  unfold period_Close.j1000.finK period_Close.j1000.fin
  first | rfl | (split <;> rfl)
noncomputable def period_Close.j1000.re : Out U → Option ((Int × Bool × Speriod_Table × Speriod_Table)) | .norm s => ((Cd.ofLit cd_Speriod_Table s.o 2).bind fun q0 => ((Cd.ofLit cd_Speriod_Table s.o 4).bind fun q1 => (match s.get 2, s.get 4, s.get 1, s.get 21 with | .ptr 2 0, .ptr 4 0, .flat (.int .i64 x2), .flat (.bool x5) => some (x2, x5, q0, q1) | _, _, _, _ => none))) | _ => none
noncomputable def period_Close.j1000.J : JDen U := { Y := (Int × Bool × Speriod_Table × Speriod_Table), re := period_Close.j1000.re, fin := period_Close.j1000.fin, finK := period_Close.j1000.finK, finK_eq := period_Close.j1000.finK_eq }
theorem period_Close.j1000.fit (o : Out U) (y : (Int × Bool × Speriod_Table × Speriod_Table)) (h : period_Close.j1000.re o = some y) : FitsO o (period_Close.j1000.fin y) := by
  unfold period_Close.j1000.re at h
  split at h
  · obtain ⟨q0, eq0, h1⟩ := Option.bind_eq_some_iff.1 h
    obtain ⟨q1, eq1, h2⟩ := Option.bind_eq_some_iff.1 h1
    split at h2
    · cases h2
      refine fitsO_norm (fits_ren [] ?_ ?_ ren_nil rfl)
      · exact List.forall_mem_cons.2 ⟨FV.one (FV.ptr (by assumption)), List.forall_mem_cons.2 ⟨FV.one (FV.ptr (by assumption)), List.forall_mem_cons.2 ⟨FV.one (FV.same (by assumption) rfl), List.forall_mem_cons.2 ⟨FV.one (FV.same (by assumption) rfl), fun _ hp => (List.not_mem_nil hp).elim⟩⟩⟩⟩
      · exact List.forall_mem_cons.2 ⟨(FO.same (Cd.ofLit_ok eq0) rfl), List.forall_mem_cons.2 ⟨(FO.same (Cd.ofLit_ok eq1) rfl), fun _ hp => (List.not_mem_nil hp).elim⟩⟩
    · cases h2
  · cases h
noncomputable def period_Close.jl : List (Nat × JDen U) := [(1000, period_Close.j1000.J)]
noncomputable def period_Close.fl (k : Nat) : List (Nat × FDen U) := [(121, period_IsOpen.D k)]
noncomputable def period_Close.ll (k : Nat) : List (Nat × LDen U) := []
noncomputable def period_Close.E (k : Nat) : Env U := { P := Try.prog, D := DD, fd := lk (period_Close.fl k), ld := lk (period_Close.ll k), jd := lk period_Close.jl, mode := lk [], elc := lk ec, mpc := lk mc, rts := Try.f78.resultTypes.toList, dyn := fun t => Nat.beq t 90 || Nat.beq t 91, vecs := fun d => false, results := Try.f78.results.toList, gh := [], own := false, io := fun g i => false }
theorem period_Close.ok (k : Nat) : EnvOk (period_Close.E k) := envOk lawful (period_Close.fl k) (period_Close.ll k) period_Close.jl _ _ _ _ _ _ _ _ _ _ (by
  intro p hp
  simp only [period_Close.fl, List.mem_cons, List.not_mem_nil, or_false] at hp
  rcases hp with rfl
  · exact ⟨period_IsOpen.sound k, enter_of Try.func121 (by kernel_rfl) (by kernel_rfl)⟩) (by
  intro p hp
  simp only [period_Close.jl, List.mem_cons, List.not_mem_nil, or_false] at hp
  rcases hp with rfl
  · exact period_Close.j1000.fit)
theorem period_Close.eq (k : Nat) (x : (Speriod_Table × Int)) : runF (period_Close.E k) (codeOf Try.f78) (period_Close.mk x) period_Close.re = (period_Close.D k).f x := by kernel_rfl
theorem period_Close.fit (s : St U) (x : (Speriod_Table × Int)) (h : period_Close.un s = some x) : Fits s (period_Close.mk x) := by
  unfold period_Close.un at h
  split at h
  · obtain ⟨x2, hx2, hh1⟩ := Option.bind_eq_some_iff.1 h
    have hc1 := Cd.full_ok hx2
    clear hx2
    subst hc1
    cases hh1
    refine fits_ren [] ?_ ?_ ren_nil rfl
    · exact List.forall_mem_cons.2 ⟨FV.one (FV.same (by assumption) rfl), List.forall_mem_cons.2 ⟨FV.one (FV.same (by assumption) rfl), fun _ hp => (List.not_mem_nil hp).elim⟩⟩
    · exact fun _ hp => (List.not_mem_nil hp).elim
  · cases h
theorem period_Close.fitR (s : St U) (y : (Speriod_Table × Int)) (h : period_Close.re s = some y) : Fits s (period_Close.fin y) := by
  unfold period_Close.re at h
  split at h
  · obtain ⟨x2, hx2, hh1⟩ := Option.bind_eq_some_iff.1 h
    have hc1 := Cd.full_ok hx2
    clear hx2
    subst hc1
    cases hh1
    refine fits_ren [] ?_ ?_ ren_nil rfl
    · exact List.forall_mem_cons.2 ⟨FV.tup (by assumption) (FTs.cons (FVA.one (FV.same rfl rfl)) (FTs.cons (FVA.one (FV.same rfl rfl)) (FTs.nil))), fun _ hp => (List.not_mem_nil hp).elim⟩
    · exact fun _ hp => (List.not_mem_nil hp).elim
  · cases h
theorem period_Close.sound (k : Nat) : Sound Try.prog DD 78 (period_Close.D k) :=
  fun_sound (E := period_Close.E k) (fn := Try.f78) (c := codeOf Try.f78) (period_Close.ok k) mixed rfl Try.func78 (by kernel_rfl) (by kernel_rfl) (allL_of (l := []) (by kernel_rfl) allL_nil) (period_Close.D k) period_Close.mk period_Close.re (by kernel_rfl) (by kernel_rfl) period_Close.fit period_Close.fitR (period_Close.eq k)
end
end Go.Proofs.Ytlaogfkgkpgofaa
