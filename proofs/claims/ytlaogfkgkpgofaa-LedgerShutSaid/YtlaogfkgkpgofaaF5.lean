import Derived.Test.YtlaogfkgkpgofaaF4
/-! Functions, told; their equations with the evaluator; that they are sound. Written by gen.py. -/
namespace Go.Proofs.Ytlaogfkgkpgofaa
open Go Go.Ev
noncomputable section
set_option linter.unusedVariables false
set_option linter.unusedSimpArgs false
set_option maxRecDepth 100000
/-! ### (*pyx/ledger.Book).turn: function 77 -/
noncomputable def ledger_Book_turn_c78.f (k : Nat) (a0 : Sledger_Book) (a1 : Unit) (a2 : Int) : Option (Int × Sledger_Book) := (period_Close.f k (⟨pack 12 false a0.f_t.f_Closed, pack 12 0 a0.f_t.f_Version⟩ : Speriod_Table) a2).bind fun t1 => (cond (t1.2 == 0) (some (t1.2, (⟨a0.f_scale, a0.f_l, (⟨pack 12 false t1.1.f_Closed, pack 12 0 t1.1.f_Version⟩ : Speriod_Table)⟩ : Sledger_Book))) (some (t1.2, (⟨a0.f_scale, a0.f_l, (⟨pack 12 false a0.f_t.f_Closed, pack 12 0 a0.f_t.f_Version⟩ : Speriod_Table)⟩ : Sledger_Book))))
noncomputable def ledger_Book_turn_c78.un (s : St U) : Option (Sledger_Book × Unit × Int) := match s.get 0, lk s.o 7000000000000, s.get 1, s.get 2, s.get 1000000000000000 with | .ptr 7000000000000 0, some (.lit (.flat (.int .i64 x1) :: x5 :: x3)), .fn 78 [], .flat (.int .i64 x6), .ptr 7000000000000 0 => (tip_Sapi_Entry s.o 3 x5).bind fun ex2 => ((cd_Speriod_Table.full x3).bind fun x4 => (some ((⟨x1, ex2.2, x4⟩ : Sledger_Book), (), x6))) | _, _, _, _, _ => none
noncomputable def ledger_Book_turn_c78.mk (x : (Sledger_Book × Unit × Int)) : St U := ⟨[(0, .ptr 7000000000000 0), (1, .fn 78 []), (2, .flat (.int .i64 x.2.2)), (1000000000000000, .ptr 7000000000000 0)], [(7000000000000, .lit ((.flat (.int .i64 x.1.f_scale)) :: (.tip 7000000000002 C.Sapi_Entry x.1.f_l) :: cd_Speriod_Table.enc x.1.f_t)), (7000000000002, .tip 3)]⟩
noncomputable def ledger_Book_turn_c78.fin (y : (Int × Sledger_Book)) : St U := ⟨[(0, .flat (.int .i64 y.1)), (1000000000000000, .ptr 7000000000000 0)], [(7000000000000, .lit ((.flat (.int .i64 y.2.f_scale)) :: (.tip 7000000000002 C.Sapi_Entry y.2.f_l) :: cd_Speriod_Table.enc y.2.f_t)), (7000000000002, .tip 3)]⟩
noncomputable def ledger_Book_turn_c78.D (k : Nat) : FDen U := { X := (Sledger_Book × Unit × Int), Y := (Int × Sledger_Book), nt := 28, gh := [0], un := ledger_Book_turn_c78.un, f := fun x => ledger_Book_turn_c78.f k (x.1) (x.2.1) (x.2.2), fin := ledger_Book_turn_c78.fin, cl := false, clo := fun h => by cases h }
noncomputable def ledger_Book_turn_c78.re (s : St U) : Option (Int × Sledger_Book) := match s.get 0, s.get 1000000000000000, lk s.o 7000000000000 with | .flat (.int .i64 x1), .ptr 7000000000000 0, some (.lit (.flat (.int .i64 x2) :: x6 :: x4)) => (tip_Sapi_Entry s.o 3 x6).bind fun ex3 => ((cd_Speriod_Table.full x4).bind fun x5 => (some (x1, (⟨x2, ex3.2, x5⟩ : Sledger_Book)))) | _, _, _ => none
noncomputable def ledger_Book_turn_c78.jl : List (Nat × JDen U) := []
noncomputable def ledger_Book_turn_c78.fl (k : Nat) : List (Nat × FDen U) := [(78, period_Close.D k)]
noncomputable def ledger_Book_turn_c78.ll (k : Nat) : List (Nat × LDen U) := []
noncomputable def ledger_Book_turn_c78.E (k : Nat) : Env U := { P := Try.prog, D := DD, fd := lk (ledger_Book_turn_c78.fl k), ld := lk (ledger_Book_turn_c78.ll k), jd := lk ledger_Book_turn_c78.jl, mode := lk [], elc := lk ec, mpc := lk mc, rts := Try.f77.resultTypes.toList, dyn := fun t => false, vecs := fun d => false, results := Try.f77.results.toList, gh := [0], own := false, io := fun g i => false }
theorem ledger_Book_turn_c78.ok (k : Nat) : EnvOk (ledger_Book_turn_c78.E k) := envOk lawful (ledger_Book_turn_c78.fl k) (ledger_Book_turn_c78.ll k) ledger_Book_turn_c78.jl _ _ _ _ _ _ _ _ _ _ (by
  intro p hp
  simp only [ledger_Book_turn_c78.fl, List.mem_cons, List.not_mem_nil, or_false] at hp
  rcases hp with rfl
  · exact ⟨period_Close.sound k, enter_of Try.func78 (by kernel_rfl) (by kernel_rfl)⟩) (by
  intro p hp
  simp [ledger_Book_turn_c78.jl] at hp)
theorem ledger_Book_turn_c78.eq (k : Nat) (x : (Sledger_Book × Unit × Int)) : runF (ledger_Book_turn_c78.E k) (codeOf Try.f77) (ledger_Book_turn_c78.mk x) ledger_Book_turn_c78.re = (ledger_Book_turn_c78.D k).f x := by kernel_rfl
theorem ledger_Book_turn_c78.fit (s : St U) (x : (Sledger_Book × Unit × Int)) (h : ledger_Book_turn_c78.un s = some x) : Fits s (ledger_Book_turn_c78.mk x) := by
  unfold ledger_Book_turn_c78.un at h
  split at h
  · obtain ⟨ex2, hex2, hh1⟩ := Option.bind_eq_some_iff.1 h
    obtain ⟨x4, hx4, hh2⟩ := Option.bind_eq_some_iff.1 hh1
    cases hh2
    refine fits_ren [(7000000000002, ex2.1)] ?_ ?_ ren_one rfl
    · exact List.forall_mem_cons.2 ⟨FV.one (FV.ptr (by assumption)), List.forall_mem_cons.2 ⟨FV.one (FV.same (by assumption) rfl), List.forall_mem_cons.2 ⟨FV.one (FV.same (by assumption) rfl), List.forall_mem_cons.2 ⟨FV.one (FV.ptr (by assumption)), fun _ hp => (List.not_mem_nil hp).elim⟩⟩⟩⟩
    · exact List.forall_mem_cons.2 ⟨FO.cells (show lk (St.o _) 7000000000000 = some _ from by assumption) (FCs.cons (c0_same rfl rfl) (FCs.cons ((tip_Sapi_Entry_fit hex2 rfl).1) (FCs.tail (Cd.full_ok hx4) rfl))), List.forall_mem_cons.2 ⟨(tip_Sapi_Entry_fit hex2 rfl).2, fun _ hp => (List.not_mem_nil hp).elim⟩⟩
  · cases h
theorem ledger_Book_turn_c78.fitR (s : St U) (y : (Int × Sledger_Book)) (h : ledger_Book_turn_c78.re s = some y) : Fits s (ledger_Book_turn_c78.fin y) := by
  unfold ledger_Book_turn_c78.re at h
  split at h
  · obtain ⟨ex3, hex3, hh1⟩ := Option.bind_eq_some_iff.1 h
    obtain ⟨x5, hx5, hh2⟩ := Option.bind_eq_some_iff.1 hh1
    cases hh2
    refine fits_ren [(7000000000002, ex3.1)] ?_ ?_ ren_one rfl
    · exact List.forall_mem_cons.2 ⟨FV.one (FV.same (by assumption) rfl), List.forall_mem_cons.2 ⟨FV.one (FV.ptr (by assumption)), fun _ hp => (List.not_mem_nil hp).elim⟩⟩
    · exact List.forall_mem_cons.2 ⟨FO.cells (show lk (St.o _) 7000000000000 = some _ from by assumption) (FCs.cons (c0_same rfl rfl) (FCs.cons ((tip_Sapi_Entry_fit hex3 rfl).1) (FCs.tail (Cd.full_ok hx5) rfl))), List.forall_mem_cons.2 ⟨(tip_Sapi_Entry_fit hex3 rfl).2, fun _ hp => (List.not_mem_nil hp).elim⟩⟩
  · cases h
theorem ledger_Book_turn_c78.sound (k : Nat) : Sound Try.prog DD 77 (ledger_Book_turn_c78.D k) :=
  fun_sound (E := ledger_Book_turn_c78.E k) (fn := Try.f77) (c := codeOf Try.f77) (ledger_Book_turn_c78.ok k) mixed rfl Try.func77 (by kernel_rfl) (by kernel_rfl) (allL_of (l := []) (by kernel_rfl) allL_nil) (ledger_Book_turn_c78.D k) ledger_Book_turn_c78.mk ledger_Book_turn_c78.re (by kernel_rfl) (by kernel_rfl) ledger_Book_turn_c78.fit ledger_Book_turn_c78.fitR (ledger_Book_turn_c78.eq k)
/-! ### (*pyx/ledger.Book).Close: function 33 -/
noncomputable def ledger_Book_Close.f (k : Nat) (a0 : Sledger_Book) (a1 : Int) : Option (Int × Sledger_Book) := (ledger_Book_turn_c78.f k (⟨a0.f_scale, a0.f_l, (⟨pack 12 false a0.f_t.f_Closed, pack 12 0 a0.f_t.f_Version⟩ : Speriod_Table)⟩ : Sledger_Book) () a1).bind fun t1 => (some (t1.1, (⟨t1.2.f_scale, t1.2.f_l, (⟨pack 12 false t1.2.f_t.f_Closed, pack 12 0 t1.2.f_t.f_Version⟩ : Speriod_Table)⟩ : Sledger_Book)))
noncomputable def ledger_Book_Close.un (s : St U) : Option (Sledger_Book × Int) := match s.get 0, lk s.o 7000000000000, s.get 1, s.get 1000000000000000 with | .ptr 7000000000000 0, some (.lit (.flat (.int .i64 x1) :: x5 :: x3)), .flat (.int .i64 x6), .ptr 7000000000000 0 => (tip_Sapi_Entry s.o 3 x5).bind fun ex2 => ((cd_Speriod_Table.full x3).bind fun x4 => (some ((⟨x1, ex2.2, x4⟩ : Sledger_Book), x6))) | _, _, _, _ => none
noncomputable def ledger_Book_Close.mk (x : (Sledger_Book × Int)) : St U := ⟨[(0, .ptr 7000000000000 0), (1, .flat (.int .i64 x.2)), (1000000000000000, .ptr 7000000000000 0)], [(7000000000000, .lit ((.flat (.int .i64 x.1.f_scale)) :: (.tip 7000000000002 C.Sapi_Entry x.1.f_l) :: cd_Speriod_Table.enc x.1.f_t)), (7000000000002, .tip 3)]⟩
noncomputable def ledger_Book_Close.fin (y : (Int × Sledger_Book)) : St U := ⟨[(0, .flat (.int .i64 y.1)), (1000000000000000, .ptr 7000000000000 0)], [(7000000000000, .lit ((.flat (.int .i64 y.2.f_scale)) :: (.tip 7000000000002 C.Sapi_Entry y.2.f_l) :: cd_Speriod_Table.enc y.2.f_t)), (7000000000002, .tip 3)]⟩
noncomputable def ledger_Book_Close.D (k : Nat) : FDen U := { X := (Sledger_Book × Int), Y := (Int × Sledger_Book), nt := 8, gh := [0], un := ledger_Book_Close.un, f := fun x => ledger_Book_Close.f k (x.1) (x.2), fin := ledger_Book_Close.fin, cl := false, clo := fun h => by cases h }
noncomputable def ledger_Book_Close.re (s : St U) : Option (Int × Sledger_Book) := match s.get 0, s.get 1000000000000000, lk s.o 7000000000000 with | .flat (.int .i64 x1), .ptr 7000000000000 0, some (.lit (.flat (.int .i64 x2) :: x6 :: x4)) => (tip_Sapi_Entry s.o 3 x6).bind fun ex3 => ((cd_Speriod_Table.full x4).bind fun x5 => (some (x1, (⟨x2, ex3.2, x5⟩ : Sledger_Book)))) | _, _, _ => none
noncomputable def ledger_Book_Close.jl : List (Nat × JDen U) := []
noncomputable def ledger_Book_Close.fl (k : Nat) : List (Nat × FDen U) := [(77, ledger_Book_turn_c78.D k)]
noncomputable def ledger_Book_Close.ll (k : Nat) : List (Nat × LDen U) := []
noncomputable def ledger_Book_Close.E (k : Nat) : Env U := { P := Try.prog, D := DD, fd := lk (ledger_Book_Close.fl k), ld := lk (ledger_Book_Close.ll k), jd := lk ledger_Book_Close.jl, mode := lk [], elc := lk ec, mpc := lk mc, rts := Try.f33.resultTypes.toList, dyn := fun t => false, vecs := fun d => false, results := Try.f33.results.toList, gh := [0], own := false, io := fun g i => false }
theorem ledger_Book_Close.ok (k : Nat) : EnvOk (ledger_Book_Close.E k) := envOk lawful (ledger_Book_Close.fl k) (ledger_Book_Close.ll k) ledger_Book_Close.jl _ _ _ _ _ _ _ _ _ _ (by
  intro p hp
  simp only [ledger_Book_Close.fl, List.mem_cons, List.not_mem_nil, or_false] at hp
  rcases hp with rfl
  · exact ⟨ledger_Book_turn_c78.sound k, enter_of Try.func77 (by kernel_rfl) (by kernel_rfl)⟩) (by
  intro p hp
  simp [ledger_Book_Close.jl] at hp)
theorem ledger_Book_Close.eq (k : Nat) (x : (Sledger_Book × Int)) : runF (ledger_Book_Close.E k) (codeOf Try.f33) (ledger_Book_Close.mk x) ledger_Book_Close.re = (ledger_Book_Close.D k).f x := by kernel_rfl
theorem ledger_Book_Close.fit (s : St U) (x : (Sledger_Book × Int)) (h : ledger_Book_Close.un s = some x) : Fits s (ledger_Book_Close.mk x) := by
  unfold ledger_Book_Close.un at h
  split at h
  · obtain ⟨ex2, hex2, hh1⟩ := Option.bind_eq_some_iff.1 h
    obtain ⟨x4, hx4, hh2⟩ := Option.bind_eq_some_iff.1 hh1
    cases hh2
    refine fits_ren [(7000000000002, ex2.1)] ?_ ?_ ren_one rfl
    · exact List.forall_mem_cons.2 ⟨FV.one (FV.ptr (by assumption)), List.forall_mem_cons.2 ⟨FV.one (FV.same (by assumption) rfl), List.forall_mem_cons.2 ⟨FV.one (FV.ptr (by assumption)), fun _ hp => (List.not_mem_nil hp).elim⟩⟩⟩
    · exact List.forall_mem_cons.2 ⟨FO.cells (show lk (St.o _) 7000000000000 = some _ from by assumption) (FCs.cons (c0_same rfl rfl) (FCs.cons ((tip_Sapi_Entry_fit hex2 rfl).1) (FCs.tail (Cd.full_ok hx4) rfl))), List.forall_mem_cons.2 ⟨(tip_Sapi_Entry_fit hex2 rfl).2, fun _ hp => (List.not_mem_nil hp).elim⟩⟩
  · cases h
theorem ledger_Book_Close.fitR (s : St U) (y : (Int × Sledger_Book)) (h : ledger_Book_Close.re s = some y) : Fits s (ledger_Book_Close.fin y) := by
  unfold ledger_Book_Close.re at h
  split at h
  · obtain ⟨ex3, hex3, hh1⟩ := Option.bind_eq_some_iff.1 h
    obtain ⟨x5, hx5, hh2⟩ := Option.bind_eq_some_iff.1 hh1
    cases hh2
    refine fits_ren [(7000000000002, ex3.1)] ?_ ?_ ren_one rfl
    · exact List.forall_mem_cons.2 ⟨FV.one (FV.same (by assumption) rfl), List.forall_mem_cons.2 ⟨FV.one (FV.ptr (by assumption)), fun _ hp => (List.not_mem_nil hp).elim⟩⟩
    · exact List.forall_mem_cons.2 ⟨FO.cells (show lk (St.o _) 7000000000000 = some _ from by assumption) (FCs.cons (c0_same rfl rfl) (FCs.cons ((tip_Sapi_Entry_fit hex3 rfl).1) (FCs.tail (Cd.full_ok hx5) rfl))), List.forall_mem_cons.2 ⟨(tip_Sapi_Entry_fit hex3 rfl).2, fun _ hp => (List.not_mem_nil hp).elim⟩⟩
  · cases h
theorem ledger_Book_Close.sound (k : Nat) : Sound Try.prog DD 33 (ledger_Book_Close.D k) :=
  fun_sound (E := ledger_Book_Close.E k) (fn := Try.f33) (c := codeOf Try.f33) (ledger_Book_Close.ok k) mixed rfl Try.func33 (by kernel_rfl) (by kernel_rfl) (allL_of (l := []) (by kernel_rfl) allL_nil) (ledger_Book_Close.D k) ledger_Book_Close.mk ledger_Book_Close.re (by kernel_rfl) (by kernel_rfl) ledger_Book_Close.fit ledger_Book_Close.fitR (ledger_Book_Close.eq k)
/-! ### pyx/period.Reopen: function 90 -/
noncomputable def period_Reopen.f (k : Nat) (a0 : Speriod_Table) (a1 : Int) : Option (Speriod_Table × Int) := (((period_is.f k a1).bind fun t1 => (cond (!t1) (some (a1, true, (⟨pack 12 false a0.f_Closed, pack 12 0 a0.f_Version⟩ : Speriod_Table), (⟨[false, false, false, false, false, false, false, false, false, false, false, false], [0, 0, 0, 0, 0, 0, 0, 0, 0, 0, 0, 0]⟩ : Speriod_Table))) (cond (inb a1 12) (cond (Nat.blt (Int.toNat a1) 12) (cond (!(List.getD (pack 12 false a0.f_Closed) (Int.toNat a1) false)) (some (a1, true, (⟨pack 12 false a0.f_Closed, pack 12 0 a0.f_Version⟩ : Speriod_Table), (⟨[false, false, false, false, false, false, false, false, false, false, false, false], [0, 0, 0, 0, 0, 0, 0, 0, 0, 0, 0, 0]⟩ : Speriod_Table))) ((period_is.f k (IntKind.wrap .i64 (a1 + 1))).bind fun t6 => (cond (t6) (cond (inb (IntKind.wrap .i64 (a1 + 1)) 12) (cond (Nat.blt (Int.toNat (IntKind.wrap .i64 (a1 + 1))) 12) (some (a1, List.getD (pack 12 false a0.f_Closed) (Int.toNat (IntKind.wrap .i64 (a1 + 1))) false, (⟨pack 12 false a0.f_Closed, pack 12 0 a0.f_Version⟩ : Speriod_Table), (⟨[false, false, false, false, false, false, false, false, false, false, false, false], [0, 0, 0, 0, 0, 0, 0, 0, 0, 0, 0, 0]⟩ : Speriod_Table))) none) none) (some (a1, false, (⟨pack 12 false a0.f_Closed, pack 12 0 a0.f_Version⟩ : Speriod_Table), (⟨[false, false, false, false, false, false, false, false, false, false, false, false], [0, 0, 0, 0, 0, 0, 0, 0, 0, 0, 0, 0]⟩ : Speriod_Table)))))) none) none))) : Option (Int × Bool × Speriod_Table × Speriod_Table)).bind fun y7 => (cond (y7.2.1) (some ((⟨[false, false, false, false, false, false, false, false, false, false, false, false], [0, 0, 0, 0, 0, 0, 0, 0, 0, 0, 0, 0]⟩ : Speriod_Table), 8)) (cond (inb y7.1 12) (cond (Nat.blt (Int.toNat y7.1) 12) (some ((⟨putAll (Int.toNat y7.1) false 0 (pack 12 false y7.2.2.1.f_Closed), pack 12 0 y7.2.2.1.f_Version⟩ : Speriod_Table), 0)) none) none))
noncomputable def period_Reopen.un (s : St U) : Option (Speriod_Table × Int) := match s.get 0, s.get 1 with | .agg x1, .flat (.int .i64 x3) => (cd_Speriod_Table.full x1).bind fun x2 => (some (x2, x3)) | _, _ => none
noncomputable def period_Reopen.mk (x : (Speriod_Table × Int)) : St U := ⟨[(0, .agg (cd_Speriod_Table.enc x.1)), (1, .flat (.int .i64 x.2))], []⟩
noncomputable def period_Reopen.fin (y : (Speriod_Table × Int)) : St U := ⟨[(0, .tup [.agg (cd_Speriod_Table.enc y.1), .flat (.int .i64 y.2)])], []⟩
noncomputable def period_Reopen.D (k : Nat) : FDen U := { X := (Speriod_Table × Int), Y := (Speriod_Table × Int), nt := 33, gh := [], un := period_Reopen.un, f := fun x => period_Reopen.f k (x.1) (x.2), fin := period_Reopen.fin, cl := true, clo := fun _ _ => rfl }
noncomputable def period_Reopen.re (s : St U) : Option (Speriod_Table × Int) := match s.get 0 with | .tup [.agg x1, .flat (.int .i64 x3)] => (cd_Speriod_Table.full x1).bind fun x2 => (some (x2, x3)) | _ => none
noncomputable def period_Reopen.j1000.fin (y : (Int × Bool × Speriod_Table × Speriod_Table)) : Out U := match y with | (x2, x5, x3, x4) => .norm ⟨[(2, .ptr 2 0), (4, .ptr 4 0), (1, .flat (.int .i64 x2)), (27, .flat (.bool x5))], [(2, .lit (cd_Speriod_Table.enc x3)), (4, .lit (cd_Speriod_Table.enc x4))]⟩
noncomputable def period_Reopen.j1000.finK {ρ : Type} (y : (Int × Bool × Speriod_Table × Speriod_Table)) (K : Out U → Option ρ) : Option ρ := match y with | (x2, x5, x3, x4) => K (.norm ⟨[(2, .ptr 2 0), (4, .ptr 4 0), (1, .flat (.int .i64 x2)), (27, .flat (.bool x5))], [(2, .lit (cd_Speriod_Table.enc x3)), (4, .lit (cd_Speriod_Table.enc x4))]⟩)
theorem period_Reopen.j1000.finK_eq {ρ : Type} (y : (Int × Bool × Speriod_Table × Speriod_Table)) (K : Out U → Option ρ) : period_Reopen.j1000.finK y K = K (period_Reopen.j1000.fin y) := by
  unfold period_Reopen.j1000.finK period_Reopen.j1000.fin
  first | rfl | (split <;> rfl)
noncomputable def period_Reopen.j1000.re : Out U → Option ((Int × Bool × Speriod_Table × Speriod_Table)) | .norm s => ((Cd.ofLit cd_Speriod_Table s.o 2).bind fun q0 => ((Cd.ofLit cd_Speriod_Table s.o 4).bind fun q1 => (match s.get 2, s.get 4, s.get 1, s.get 27 with | .ptr 2 0, .ptr 4 0, .flat (.int .i64 x2), .flat (.bool x5) => some (x2, x5, q0, q1) | _, _, _, _ => none))) | _ => none
noncomputable def period_Reopen.j1000.J : JDen U := { Y := (Int × Bool × Speriod_Table × Speriod_Table), re := period_Reopen.j1000.re, fin := period_Reopen.j1000.fin, finK := period_Reopen.j1000.finK, finK_eq := period_Reopen.j1000.finK_eq }
theorem period_Reopen.j1000.fit (o : Out U) (y : (Int × Bool × Speriod_Table × Speriod_Table)) (h : period_Reopen.j1000.re o = some y) : FitsO o (period_Reopen.j1000.fin y) := by
  unfold period_Reopen.j1000.re at h
  split at h
  · obtain ⟨q0, eq0, h1⟩ := Option.bind_eq_some_iff.1 h
    obtain ⟨q1, eq1, h2⟩ := Option.bind_eq_some_iff.1 h1
    split at h2
    · cases h2
      refine fitsO_norm (fits_ren [] ?_ ?_ ren_nil rfl)
      · exact List.forall_mem_cons.2 ⟨FV.one (FV.ptr (by assumption)), List.forall_mem_cons.2 ⟨FV.one (FV.ptr (by assumption)), List.forall_mem_cons.2 ⟨FV.one (FV.same (by assumption) rfl), List.forall_mem_cons.2 ⟨FV.one (FV.same (by assumption) rfl), fun _ hp => (List.not_mem_nil hp).elim⟩⟩⟩⟩
      · exact List.forall_mem_cons.2 ⟨(FO.same (Cd.ofLit_ok eq0) rfl), List.forall_mem_cons.2 ⟨(FO.same (Cd.ofLit_ok eq1) rfl), fun _ hp => (List.not_mem_nil hp).elim⟩⟩
    · cases h2
  · cases h
noncomputable def period_Reopen.jl : List (Nat × JDen U) := [(1000, period_Reopen.j1000.J)]
noncomputable def period_Reopen.fl (k : Nat) : List (Nat × FDen U) := [(130, period_is.D k)]
noncomputable def period_Reopen.ll (k : Nat) : List (Nat × LDen U) := []
noncomputable def period_Reopen.E (k : Nat) : Env U := { P := Try.prog, D := DD, fd := lk (period_Reopen.fl k), ld := lk (period_Reopen.ll k), jd := lk period_Reopen.jl, mode := lk [], elc := lk ec, mpc := lk mc, rts := Try.f90.resultTypes.toList, dyn := fun t => Nat.beq t 90, vecs := fun d => false, results := Try.f90.results.toList, gh := [], own := false, io := fun g i => false }
theorem period_Reopen.ok (k : Nat) : EnvOk (period_Reopen.E k) := envOk lawful (period_Reopen.fl k) (period_Reopen.ll k) period_Reopen.jl _ _ _ _ _ _ _ _ _ _ (by
  intro p hp
  simp only [period_Reopen.fl, List.mem_cons, List.not_mem_nil, or_false] at hp
  rcases hp with rfl
  · exact ⟨period_is.sound k, enter_of Try.func130 (by kernel_rfl) (by kernel_rfl)⟩) (by
  intro p hp
  simp only [period_Reopen.jl, List.mem_cons, List.not_mem_nil, or_false] at hp
  rcases hp with rfl
  · exact period_Reopen.j1000.fit)
theorem period_Reopen.eq (k : Nat) (x : (Speriod_Table × Int)) : runF (period_Reopen.E k) (codeOf Try.f90) (period_Reopen.mk x) period_Reopen.re = (period_Reopen.D k).f x := by kernel_rfl
theorem period_Reopen.fit (s : St U) (x : (Speriod_Table × Int)) (h : period_Reopen.un s = some x) : Fits s (period_Reopen.mk x) := by
  unfold period_Reopen.un at h
  split at h
  · obtain ⟨x2, hx2, hh1⟩ := Option.bind_eq_some_iff.1 h
    have hc1 := Cd.full_ok hx2
    clear hx2
    subst hc1
    cases hh1
    refine fits_ren [] ?_ ?_ ren_nil rfl
    · exact List.forall_mem_cons.2 ⟨FV.one (FV.same (by assumption) rfl), List.forall_mem_cons.2 ⟨FV.one (FV.same (by assumption) rfl), fun _ hp => (List.not_mem_nil hp).elim⟩⟩
    · exact fun _ hp => (List.not_mem_nil hp).elim
  · cases h
theorem period_Reopen.fitR (s : St U) (y : (Speriod_Table × Int)) (h : period_Reopen.re s = some y) : Fits s (period_Reopen.fin y) := by
  unfold period_Reopen.re at h
  split at h
  · obtain ⟨x2, hx2, hh1⟩ := Option.bind_eq_some_iff.1 h
    have hc1 := Cd.full_ok hx2
    clear hx2
    subst hc1
    cases hh1
    refine fits_ren [] ?_ ?_ ren_nil rfl
    · exact List.forall_mem_cons.2 ⟨FV.tup (by assumption) (FTs.cons (FVA.one (FV.same rfl rfl)) (FTs.cons (FVA.one (FV.same rfl rfl)) (FTs.nil))), fun _ hp => (List.not_mem_nil hp).elim⟩
    · exact fun _ hp => (List.not_mem_nil hp).elim
  · cases h
theorem period_Reopen.sound (k : Nat) : Sound Try.prog DD 90 (period_Reopen.D k) :=
  fun_sound (E := period_Reopen.E k) (fn := Try.f90) (c := codeOf Try.f90) (period_Reopen.ok k) mixed rfl Try.func90 (by kernel_rfl) (by kernel_rfl) (allL_of (l := []) (by kernel_rfl) allL_nil) (period_Reopen.D k) period_Reopen.mk period_Reopen.re (by kernel_rfl) (by kernel_rfl) period_Reopen.fit period_Reopen.fitR (period_Reopen.eq k)
/-! ### (*pyx/ledger.Book).turn: function 77 -/
noncomputable def ledger_Book_turn_c90.f (k : Nat) (a0 : Sledger_Book) (a1 : Unit) (a2 : Int) : Option (Int × Sledger_Book) := (period_Reopen.f k (⟨pack 12 false a0.f_t.f_Closed, pack 12 0 a0.f_t.f_Version⟩ : Speriod_Table) a2).bind fun t1 => (cond (t1.2 == 0) (some (t1.2, (⟨a0.f_scale, a0.f_l, (⟨pack 12 false t1.1.f_Closed, pack 12 0 t1.1.f_Version⟩ : Speriod_Table)⟩ : Sledger_Book))) (some (t1.2, (⟨a0.f_scale, a0.f_l, (⟨pack 12 false a0.f_t.f_Closed, pack 12 0 a0.f_t.f_Version⟩ : Speriod_Table)⟩ : Sledger_Book))))
noncomputable def ledger_Book_turn_c90.un (s : St U) : Option (Sledger_Book × Unit × Int) := match s.get 0, lk s.o 7000000000000, s.get 1, s.get 2, s.get 1000000000000000 with | .ptr 7000000000000 0, some (.lit (.flat (.int .i64 x1) :: x5 :: x3)), .fn 90 [], .flat (.int .i64 x6), .ptr 7000000000000 0 => (tip_Sapi_Entry s.o 3 x5).bind fun ex2 => ((cd_Speriod_Table.full x3).bind fun x4 => (some ((⟨x1, ex2.2, x4⟩ : Sledger_Book), (), x6))) | _, _, _, _, _ => none
noncomputable def ledger_Book_turn_c90.mk (x : (Sledger_Book × Unit × Int)) : St U := ⟨[(0, .ptr 7000000000000 0), (1, .fn 90 []), (2, .flat (.int .i64 x.2.2)), (1000000000000000, .ptr 7000000000000 0)], [(7000000000000, .lit ((.flat (.int .i64 x.1.f_scale)) :: (.tip 7000000000002 C.Sapi_Entry x.1.f_l) :: cd_Speriod_Table.enc x.1.f_t)), (7000000000002, .tip 3)]⟩
noncomputable def ledger_Book_turn_c90.fin (y : (Int × Sledger_Book)) : St U := ⟨[(0, .flat (.int .i64 y.1)), (1000000000000000, .ptr 7000000000000 0)], [(7000000000000, .lit ((.flat (.int .i64 y.2.f_scale)) :: (.tip 7000000000002 C.Sapi_Entry y.2.f_l) :: cd_Speriod_Table.enc y.2.f_t)), (7000000000002, .tip 3)]⟩
noncomputable def ledger_Book_turn_c90.D (k : Nat) : FDen U := { X := (Sledger_Book × Unit × Int), Y := (Int × Sledger_Book), nt := 28, gh := [0], un := ledger_Book_turn_c90.un, f := fun x => ledger_Book_turn_c90.f k (x.1) (x.2.1) (x.2.2), fin := ledger_Book_turn_c90.fin, cl := false, clo := fun h => by cases h }
noncomputable def ledger_Book_turn_c90.re (s : St U) : Option (Int × Sledger_Book) := match s.get 0, s.get 1000000000000000, lk s.o 7000000000000 with | .flat (.int .i64 x1), .ptr 7000000000000 0, some (.lit (.flat (.int .i64 x2) :: x6 :: x4)) => (tip_Sapi_Entry s.o 3 x6).bind fun ex3 => ((cd_Speriod_Table.full x4).bind fun x5 => (some (x1, (⟨x2, ex3.2, x5⟩ : Sledger_Book)))) | _, _, _ => none
noncomputable def ledger_Book_turn_c90.jl : List (Nat × JDen U) := []
noncomputable def ledger_Book_turn_c90.fl (k : Nat) : List (Nat × FDen U) := [(90, period_Reopen.D k)]
noncomputable def ledger_Book_turn_c90.ll (k : Nat) : List (Nat × LDen U) := []
noncomputable def ledger_Book_turn_c90.E (k : Nat) : Env U := { P := Try.prog, D := DD, fd := lk (ledger_Book_turn_c90.fl k), ld := lk (ledger_Book_turn_c90.ll k), jd := lk ledger_Book_turn_c90.jl, mode := lk [], elc := lk ec, mpc := lk mc, rts := Try.f77.resultTypes.toList, dyn := fun t => false, vecs := fun d => false, results := Try.f77.results.toList, gh := [0], own := false, io := fun g i => false }
theorem ledger_Book_turn_c90.ok (k : Nat) : EnvOk (ledger_Book_turn_c90.E k) := envOk lawful (ledger_Book_turn_c90.fl k) (ledger_Book_turn_c90.ll k) ledger_Book_turn_c90.jl _ _ _ _ _ _ _ _ _ _ (by
  intro p hp
  simp only [ledger_Book_turn_c90.fl, List.mem_cons, List.not_mem_nil, or_false] at hp
  rcases hp with rfl
  · exact ⟨period_Reopen.sound k, enter_of Try.func90 (by kernel_rfl) (by kernel_rfl)⟩) (by
  intro p hp
  simp [ledger_Book_turn_c90.jl] at hp)
theorem ledger_Book_turn_c90.eq (k : Nat) (x : (Sledger_Book × Unit × Int)) : runF (ledger_Book_turn_c90.E k) (codeOf Try.f77) (ledger_Book_turn_c90.mk x) ledger_Book_turn_c90.re = (ledger_Book_turn_c90.D k).f x := by kernel_rfl
theorem ledger_Book_turn_c90.fit (s : St U) (x : (Sledger_Book × Unit × Int)) (h : ledger_Book_turn_c90.un s = some x) : Fits s (ledger_Book_turn_c90.mk x) := by
  unfold ledger_Book_turn_c90.un at h
  split at h
  · obtain ⟨ex2, hex2, hh1⟩ := Option.bind_eq_some_iff.1 h
    obtain ⟨x4, hx4, hh2⟩ := Option.bind_eq_some_iff.1 hh1
    cases hh2
    refine fits_ren [(7000000000002, ex2.1)] ?_ ?_ ren_one rfl
    · exact List.forall_mem_cons.2 ⟨FV.one (FV.ptr (by assumption)), List.forall_mem_cons.2 ⟨FV.one (FV.same (by assumption) rfl), List.forall_mem_cons.2 ⟨FV.one (FV.same (by assumption) rfl), List.forall_mem_cons.2 ⟨FV.one (FV.ptr (by assumption)), fun _ hp => (List.not_mem_nil hp).elim⟩⟩⟩⟩
    · exact List.forall_mem_cons.2 ⟨FO.cells (show lk (St.o _) 7000000000000 = some _ from by assumption) (FCs.cons (c0_same rfl rfl) (FCs.cons ((tip_Sapi_Entry_fit hex2 rfl).1) (FCs.tail (Cd.full_ok hx4) rfl))), List.forall_mem_cons.2 ⟨(tip_Sapi_Entry_fit hex2 rfl).2, fun _ hp => (List.not_mem_nil hp).elim⟩⟩
  · cases h
theorem ledger_Book_turn_c90.fitR (s : St U) (y : (Int × Sledger_Book)) (h : ledger_Book_turn_c90.re s = some y) : Fits s (ledger_Book_turn_c90.fin y) := by
  unfold ledger_Book_turn_c90.re at h
  split at h
  · obtain ⟨ex3, hex3, hh1⟩ := Option.bind_eq_some_iff.1 h
    obtain ⟨x5, hx5, hh2⟩ := Option.bind_eq_some_iff.1 hh1
    cases hh2
    refine fits_ren [(7000000000002, ex3.1)] ?_ ?_ ren_one rfl
    · exact List.forall_mem_cons.2 ⟨FV.one (FV.same (by assumption) rfl), List.forall_mem_cons.2 ⟨FV.one (FV.ptr (by assumption)), fun _ hp => (List.not_mem_nil hp).elim⟩⟩
    · exact List.forall_mem_cons.2 ⟨FO.cells (show lk (St.o _) 7000000000000 = some _ from by assumption) (FCs.cons (c0_same rfl rfl) (FCs.cons ((tip_Sapi_Entry_fit hex3 rfl).1) (FCs.tail (Cd.full_ok hx5) rfl))), List.forall_mem_cons.2 ⟨(tip_Sapi_Entry_fit hex3 rfl).2, fun _ hp => (List.not_mem_nil hp).elim⟩⟩
  · cases h
theorem ledger_Book_turn_c90.sound (k : Nat) : Sound Try.prog DD 77 (ledger_Book_turn_c90.D k) :=
  fun_sound (E := ledger_Book_turn_c90.E k) (fn := Try.f77) (c := codeOf Try.f77) (ledger_Book_turn_c90.ok k) mixed rfl Try.func77 (by kernel_rfl) (by kernel_rfl) (allL_of (l := []) (by kernel_rfl) allL_nil) (ledger_Book_turn_c90.D k) ledger_Book_turn_c90.mk ledger_Book_turn_c90.re (by kernel_rfl) (by kernel_rfl) ledger_Book_turn_c90.fit ledger_Book_turn_c90.fitR (ledger_Book_turn_c90.eq k)
/-! ### (*pyx/ledger.Book).Reopen: function 41 -/
noncomputable def ledger_Book_Reopen.f (k : Nat) (a0 : Sledger_Book) (a1 : Int) : Option (Int × Sledger_Book) := (ledger_Book_turn_c90.f k (⟨a0.f_scale, a0.f_l, (⟨pack 12 false a0.f_t.f_Closed, pack 12 0 a0.f_t.f_Version⟩ : Speriod_Table)⟩ : Sledger_Book) () a1).bind fun t1 => (some (t1.1, (⟨t1.2.f_scale, t1.2.f_l, (⟨pack 12 false t1.2.f_t.f_Closed, pack 12 0 t1.2.f_t.f_Version⟩ : Speriod_Table)⟩ : Sledger_Book)))
noncomputable def ledger_Book_Reopen.un (s : St U) : Option (Sledger_Book × Int) := match s.get 0, lk s.o 7000000000000, s.get 1, s.get 1000000000000000 with | .ptr 7000000000000 0, some (.lit (.flat (.int .i64 x1) :: x5 :: x3)), .flat (.int .i64 x6), .ptr 7000000000000 0 => (tip_Sapi_Entry s.o 3 x5).bind fun ex2 => ((cd_Speriod_Table.full x3).bind fun x4 => (some ((⟨x1, ex2.2, x4⟩ : Sledger_Book), x6))) | _, _, _, _ => none
noncomputable def ledger_Book_Reopen.mk (x : (Sledger_Book × Int)) : St U := ⟨[(0, .ptr 7000000000000 0), (1, .flat (.int .i64 x.2)), (1000000000000000, .ptr 7000000000000 0)], [(7000000000000, .lit ((.flat (.int .i64 x.1.f_scale)) :: (.tip 7000000000002 C.Sapi_Entry x.1.f_l) :: cd_Speriod_Table.enc x.1.f_t)), (7000000000002, .tip 3)]⟩
noncomputable def ledger_Book_Reopen.fin (y : (Int × Sledger_Book)) : St U := ⟨[(0, .flat (.int .i64 y.1)), (1000000000000000, .ptr 7000000000000 0)], [(7000000000000, .lit ((.flat (.int .i64 y.2.f_scale)) :: (.tip 7000000000002 C.Sapi_Entry y.2.f_l) :: cd_Speriod_Table.enc y.2.f_t)), (7000000000002, .tip 3)]⟩
noncomputable def ledger_Book_Reopen.D (k : Nat) : FDen U := { X := (Sledger_Book × Int), Y := (Int × Sledger_Book), nt := 8, gh := [0], un := ledger_Book_Reopen.un, f := fun x => ledger_Book_Reopen.f k (x.1) (x.2), fin := ledger_Book_Reopen.fin, cl := false, clo := fun h => by cases h }
noncomputable def ledger_Book_Reopen.re (s : St U) : Option (Int × Sledger_Book) := match s.get 0, s.get 1000000000000000, lk s.o 7000000000000 with | .flat (.int .i64 x1), .ptr 7000000000000 0, some (.lit (.flat (.int .i64 x2) :: x6 :: x4)) => (tip_Sapi_Entry s.o 3 x6).bind fun ex3 => ((cd_Speriod_Table.full x4).bind fun x5 => (some (x1, (⟨x2, ex3.2, x5⟩ : Sledger_Book)))) | _, _, _ => none
noncomputable def ledger_Book_Reopen.jl : List (Nat × JDen U) := []
noncomputable def ledger_Book_Reopen.fl (k : Nat) : List (Nat × FDen U) := [(77, ledger_Book_turn_c90.D k)]
noncomputable def ledger_Book_Reopen.ll (k : Nat) : List (Nat × LDen U) := []
noncomputable def ledger_Book_Reopen.E (k : Nat) : Env U := { P := Try.prog, D := DD, fd := lk (ledger_Book_Reopen.fl k), ld := lk (ledger_Book_Reopen.ll k), jd := lk ledger_Book_Reopen.jl, mode := lk [], elc := lk ec, mpc := lk mc, rts := Try.f41.resultTypes.toList, dyn := fun t => false, vecs := fun d => false, results := Try.f41.results.toList, gh := [0], own := false, io := fun g i => false }
theorem ledger_Book_Reopen.ok (k : Nat) : EnvOk (ledger_Book_Reopen.E k) := envOk lawful (ledger_Book_Reopen.fl k) (ledger_Book_Reopen.ll k) ledger_Book_Reopen.jl _ _ _ _ _ _ _ _ _ _ (by
  intro p hp
  simp only [ledger_Book_Reopen.fl, List.mem_cons, List.not_mem_nil, or_false] at hp
  rcases hp with rfl
  · exact ⟨ledger_Book_turn_c90.sound k, enter_of Try.func77 (by kernel_rfl) (by kernel_rfl)⟩) (by
  intro p hp
  simp [ledger_Book_Reopen.jl] at hp)
theorem ledger_Book_Reopen.eq (k : Nat) (x : (Sledger_Book × Int)) : runF (ledger_Book_Reopen.E k) (codeOf Try.f41) (ledger_Book_Reopen.mk x) ledger_Book_Reopen.re = (ledger_Book_Reopen.D k).f x := by kernel_rfl
theorem ledger_Book_Reopen.fit (s : St U) (x : (Sledger_Book × Int)) (h : ledger_Book_Reopen.un s = some x) : Fits s (ledger_Book_Reopen.mk x) := by
  unfold ledger_Book_Reopen.un at h
  split at h
  · obtain ⟨ex2, hex2, hh1⟩ := Option.bind_eq_some_iff.1 h
    obtain ⟨x4, hx4, hh2⟩ := Option.bind_eq_some_iff.1 hh1
    cases hh2
    refine fits_ren [(7000000000002, ex2.1)] ?_ ?_ ren_one rfl
    · exact List.forall_mem_cons.2 ⟨FV.one (FV.ptr (by assumption)), List.forall_mem_cons.2 ⟨FV.one (FV.same (by assumption) rfl), List.forall_mem_cons.2 ⟨FV.one (FV.ptr (by assumption)), fun _ hp => (List.not_mem_nil hp).elim⟩⟩⟩
    · exact List.forall_mem_cons.2 ⟨FO.cells (show lk (St.o _) 7000000000000 = some _ from by assumption) (FCs.cons (c0_same rfl rfl) (FCs.cons ((tip_Sapi_Entry_fit hex2 rfl).1) (FCs.tail (Cd.full_ok hx4) rfl))), List.forall_mem_cons.2 ⟨(tip_Sapi_Entry_fit hex2 rfl).2, fun _ hp => (List.not_mem_nil hp).elim⟩⟩
  · cases h
theorem ledger_Book_Reopen.fitR (s : St U) (y : (Int × Sledger_Book)) (h : ledger_Book_Reopen.re s = some y) : Fits s (ledger_Book_Reopen.fin y) := by
  unfold ledger_Book_Reopen.re at h
  split at h
  · obtain ⟨ex3, hex3, hh1⟩ := Option.bind_eq_some_iff.1 h
    obtain ⟨x5, hx5, hh2⟩ := Option.bind_eq_some_iff.1 hh1
    cases hh2
    refine fits_ren [(7000000000002, ex3.1)] ?_ ?_ ren_one rfl
    · exact List.forall_mem_cons.2 ⟨FV.one (FV.same (by assumption) rfl), List.forall_mem_cons.2 ⟨FV.one (FV.ptr (by assumption)), fun _ hp => (List.not_mem_nil hp).elim⟩⟩
    · exact List.forall_mem_cons.2 ⟨FO.cells (show lk (St.o _) 7000000000000 = some _ from by assumption) (FCs.cons (c0_same rfl rfl) (FCs.cons ((tip_Sapi_Entry_fit hex3 rfl).1) (FCs.tail (Cd.full_ok hx5) rfl))), List.forall_mem_cons.2 ⟨(tip_Sapi_Entry_fit hex3 rfl).2, fun _ hp => (List.not_mem_nil hp).elim⟩⟩
  · cases h
theorem ledger_Book_Reopen.sound (k : Nat) : Sound Try.prog DD 41 (ledger_Book_Reopen.D k) :=
  fun_sound (E := ledger_Book_Reopen.E k) (fn := Try.f41) (c := codeOf Try.f41) (ledger_Book_Reopen.ok k) mixed rfl Try.func41 (by kernel_rfl) (by kernel_rfl) (allL_of (l := []) (by kernel_rfl) allL_nil) (ledger_Book_Reopen.D k) ledger_Book_Reopen.mk ledger_Book_Reopen.re (by kernel_rfl) (by kernel_rfl) ledger_Book_Reopen.fit ledger_Book_Reopen.fitR (ledger_Book_Reopen.eq k)
/-! ### (*pyx/ledger.Book).Reverse$1: function 80 -/
noncomputable def ledger_Book_Reverse_1.f (k : Nat) (a0 : Sapi_Entry) (a1 : Int) : Option Bool := some (a0.f_Of == a1)
noncomputable def ledger_Book_Reverse_1.un (s : St U) : Option (Sapi_Entry × Int) := match s.get 0, s.get 1 with | .agg [.flat (.int .i64 x1), .row C.Sapi_Line x2, .flat (.int .i64 x3)], .rp [.flat (.int .i64 x4)] 0 => some ((⟨x1, x2, x3⟩ : Sapi_Entry), x4) | _, _ => none
noncomputable def ledger_Book_Reverse_1.mk (x : (Sapi_Entry × Int)) : St U := ⟨[(0, .agg [.flat (.int .i64 x.1.f_Period), .row C.Sapi_Line x.1.f_Lines, .flat (.int .i64 x.1.f_Of)]), (1, .rp [.flat (.int .i64 x.2)] 0)], []⟩
noncomputable def ledger_Book_Reverse_1.fin (y : Bool) : St U := ⟨[(0, .flat (.bool y))], []⟩
noncomputable def ledger_Book_Reverse_1.D (k : Nat) : FDen U := { X := (Sapi_Entry × Int), Y := Bool, nt := 8, gh := [], un := ledger_Book_Reverse_1.un, f := fun x => ledger_Book_Reverse_1.f k (x.1) (x.2), fin := ledger_Book_Reverse_1.fin, cl := true, clo := fun _ _ => rfl }
noncomputable def ledger_Book_Reverse_1.re (s : St U) : Option Bool := match s.get 0 with | .flat (.bool x1) => some x1 | _ => none
noncomputable def ledger_Book_Reverse_1.jl : List (Nat × JDen U) := []
noncomputable def ledger_Book_Reverse_1.fl (k : Nat) : List (Nat × FDen U) := []
noncomputable def ledger_Book_Reverse_1.ll (k : Nat) : List (Nat × LDen U) := []
noncomputable def ledger_Book_Reverse_1.E (k : Nat) : Env U := { P := Try.prog, D := DD, fd := lk (ledger_Book_Reverse_1.fl k), ld := lk (ledger_Book_Reverse_1.ll k), jd := lk ledger_Book_Reverse_1.jl, mode := lk [], elc := lk ec, mpc := lk mc, rts := Try.f80.resultTypes.toList, dyn := fun t => false, vecs := fun d => false, results := Try.f80.results.toList, gh := [], own := false, io := fun g i => false }
theorem ledger_Book_Reverse_1.ok (k : Nat) : EnvOk (ledger_Book_Reverse_1.E k) := envOk lawful (ledger_Book_Reverse_1.fl k) (ledger_Book_Reverse_1.ll k) ledger_Book_Reverse_1.jl _ _ _ _ _ _ _ _ _ _ (by
  intro p hp
  simp [ledger_Book_Reverse_1.fl] at hp) (by
  intro p hp
  simp [ledger_Book_Reverse_1.jl] at hp)
theorem ledger_Book_Reverse_1.eq (k : Nat) (x : (Sapi_Entry × Int)) : runF (ledger_Book_Reverse_1.E k) (codeOf Try.f80) (ledger_Book_Reverse_1.mk x) ledger_Book_Reverse_1.re = (ledger_Book_Reverse_1.D k).f x := by kernel_rfl
theorem ledger_Book_Reverse_1.fit (s : St U) (x : (Sapi_Entry × Int)) (h : ledger_Book_Reverse_1.un s = some x) : Fits s (ledger_Book_Reverse_1.mk x) := by
  unfold ledger_Book_Reverse_1.un at h
  split at h
  · cases h
    refine fits_ren [] ?_ ?_ ren_nil rfl
    · exact List.forall_mem_cons.2 ⟨FV.one (FV.same (by assumption) rfl), List.forall_mem_cons.2 ⟨FV.one (FV.same (by assumption) rfl), fun _ hp => (List.not_mem_nil hp).elim⟩⟩
    · exact fun _ hp => (List.not_mem_nil hp).elim
  · cases h
theorem ledger_Book_Reverse_1.fitR (s : St U) (y : Bool) (h : ledger_Book_Reverse_1.re s = some y) : Fits s (ledger_Book_Reverse_1.fin y) := by
  unfold ledger_Book_Reverse_1.re at h
  split at h
  · cases h
    refine fits_ren [] ?_ ?_ ren_nil rfl
    · exact List.forall_mem_cons.2 ⟨FV.one (FV.same (by assumption) rfl), fun _ hp => (List.not_mem_nil hp).elim⟩
    · exact fun _ hp => (List.not_mem_nil hp).elim
  · cases h
theorem ledger_Book_Reverse_1.sound (k : Nat) : Sound Try.prog DD 80 (ledger_Book_Reverse_1.D k) :=
  fun_sound (E := ledger_Book_Reverse_1.E k) (fn := Try.f80) (c := codeOf Try.f80) (ledger_Book_Reverse_1.ok k) mixed rfl Try.func80 (by kernel_rfl) (by kernel_rfl) (allL_of (l := []) (by kernel_rfl) allL_nil) (ledger_Book_Reverse_1.D k) ledger_Book_Reverse_1.mk ledger_Book_Reverse_1.re (by kernel_rfl) (by kernel_rfl) ledger_Book_Reverse_1.fit ledger_Book_Reverse_1.fitR (ledger_Book_Reverse_1.eq k)
/-! ### slices.IndexFunc[[]pyx/api.Entry,pyx/api.Entry]: function 122 -/
noncomputable def slices_IndexFunc_api_Entry_c80.l2.once (k : Nat) (x : (List Sapi_Entry × Int × Int × Int)) : Option ((List Sapi_Entry × Int × Int × Int) ⊕ (Unit ⊕ Int)) := match x with | (x1, x2, x3, x4) => cond (decide (x4 < x3)) (cond (inb x4 (List.length x1)) ((ledger_Book_Reverse_1.f k (⟨(List.getD x1 (Int.toNat x4) Sapi_Entry.zero).f_Period, (List.getD x1 (Int.toNat x4) Sapi_Entry.zero).f_Lines, (List.getD x1 (Int.toNat x4) Sapi_Entry.zero).f_Of⟩ : Sapi_Entry) x2).bind fun t5 => (cond (t5) (some (.inr (.inr x4))) (some (.inl (x1, x2, x3, IntKind.wrap .i64 (x4 + 1)))))) none) (some (.inr (.inl ())))
noncomputable def slices_IndexFunc_api_Entry_c80.f (k : Nat) (a0 : List Sapi_Entry) (a1 : Int) : Option Int := (iter (slices_IndexFunc_api_Entry_c80.l2.once k) k (a0, a1, (List.length a0 : Int), 0)).bind fun | .inl y7 => (some (-1)) | .inr y8 => (some y8)
noncomputable def slices_IndexFunc_api_Entry_c80.un (s : St U) : Option (List Sapi_Entry × Int) := match s.get 0, s.get 1 with | .row C.Sapi_Entry x1, .fn 80 [.rp [.flat (.int .i64 x2)] 0] => some (x1, x2) | _, _ => none
noncomputable def slices_IndexFunc_api_Entry_c80.mk (x : (List Sapi_Entry × Int)) : St U := ⟨[(0, .row C.Sapi_Entry x.1), (1, .fn 80 [.rp [.flat (.int .i64 x.2)] 0])], []⟩
noncomputable def slices_IndexFunc_api_Entry_c80.fin (y : Int) : St U := ⟨[(0, .flat (.int .i64 y))], []⟩
noncomputable def slices_IndexFunc_api_Entry_c80.D (k : Nat) : FDen U := { X := (List Sapi_Entry × Int), Y := Int, nt := 19, gh := [], un := slices_IndexFunc_api_Entry_c80.un, f := fun x => slices_IndexFunc_api_Entry_c80.f k (x.1) (x.2), fin := slices_IndexFunc_api_Entry_c80.fin, cl := true, clo := fun _ _ => rfl }
noncomputable def slices_IndexFunc_api_Entry_c80.re (s : St U) : Option Int := match s.get 0 with | .flat (.int .i64 x1) => some x1 | _ => none
noncomputable def slices_IndexFunc_api_Entry_c80.l2.mk (x : (List Sapi_Entry × Int × Int × Int)) : St U := match x with | (x1, x2, x3, x4) => ⟨[(0, .row C.Sapi_Entry x1), (1, .fn 80 [.rp [.flat (.int .i64 x2)] 0]), (7, .flat (.int .i64 x3)), (8, .flat (.int .i64 x4))], []⟩
noncomputable def slices_IndexFunc_api_Entry_c80.l2.un (s : St U) : Option (List Sapi_Entry × Int × Int × Int) := (row_Sapi_Entry (s.get 0)).bind fun q0 => (match s.get 1, s.get 7, s.get 8 with | .fn 80 [.rp [.flat (.int .i64 x2)] 0], .flat (.int .i64 x3), .flat (.int .i64 x4) => some (q0, x2, x3, x4) | _, _, _ => none)
noncomputable def slices_IndexFunc_api_Entry_c80.l2.fin (y : Unit ⊕ Int) : Out U := match y with | .inl () => .exit 0 ⟨[], []⟩ | .inr z => .ret (⟨[(0, .flat (.int .i64 z))], []⟩)
noncomputable def slices_IndexFunc_api_Entry_c80.l2.finK {ρ : Type} (y : Unit ⊕ Int) (K : Out U → Option ρ) : Option ρ := match y with | .inl () => K (.exit 0 ⟨[], []⟩) | .inr z => K (.ret (⟨[(0, .flat (.int .i64 z))], []⟩))
theorem slices_IndexFunc_api_Entry_c80.l2.finK_eq {ρ : Type} (y : Unit ⊕ Int) (K : Out U → Option ρ) : slices_IndexFunc_api_Entry_c80.l2.finK y K = K (slices_IndexFunc_api_Entry_c80.l2.fin y) := by
  unfold slices_IndexFunc_api_Entry_c80.l2.finK slices_IndexFunc_api_Entry_c80.l2.fin
  first | rfl | (split <;> rfl)
noncomputable def slices_IndexFunc_api_Entry_c80.l2.re : Out U → Option (Unit ⊕ Int) | .exit 0 s => (some (.inl ())) | .ret s => (match s.get 0 with | .flat (.int .i64 x1) => some (.inr x1) | _ => none) | _ => none
noncomputable def slices_IndexFunc_api_Entry_c80.l2.L (k : Nat) : LDen U := { X := (List Sapi_Entry × Int × Int × Int), Y := Unit ⊕ Int, un := slices_IndexFunc_api_Entry_c80.l2.un, f := iter (slices_IndexFunc_api_Entry_c80.l2.once k) k, fin := slices_IndexFunc_api_Entry_c80.l2.fin, finK := slices_IndexFunc_api_Entry_c80.l2.finK, finK_eq := slices_IndexFunc_api_Entry_c80.l2.finK_eq }
noncomputable def slices_IndexFunc_api_Entry_c80.jl : List (Nat × JDen U) := []
noncomputable def slices_IndexFunc_api_Entry_c80.fl (k : Nat) : List (Nat × FDen U) := [(80, ledger_Book_Reverse_1.D k)]
noncomputable def slices_IndexFunc_api_Entry_c80.ll (k : Nat) : List (Nat × LDen U) := [(2, slices_IndexFunc_api_Entry_c80.l2.L k)]
noncomputable def slices_IndexFunc_api_Entry_c80.E (k : Nat) : Env U := { P := Try.prog, D := DD, fd := lk (slices_IndexFunc_api_Entry_c80.fl k), ld := lk (slices_IndexFunc_api_Entry_c80.ll k), jd := lk slices_IndexFunc_api_Entry_c80.jl, mode := lk [], elc := lk ec, mpc := lk mc, rts := Try.f122.resultTypes.toList, dyn := fun t => false, vecs := fun d => false, results := Try.f122.results.toList, gh := [], own := false, io := fun g i => false }
theorem slices_IndexFunc_api_Entry_c80.ok (k : Nat) : EnvOk (slices_IndexFunc_api_Entry_c80.E k) := envOk lawful (slices_IndexFunc_api_Entry_c80.fl k) (slices_IndexFunc_api_Entry_c80.ll k) slices_IndexFunc_api_Entry_c80.jl _ _ _ _ _ _ _ _ _ _ (by
  intro p hp
  simp only [slices_IndexFunc_api_Entry_c80.fl, List.mem_cons, List.not_mem_nil, or_false] at hp
  rcases hp with rfl
  · exact ⟨ledger_Book_Reverse_1.sound k, enter_of Try.func80 (by kernel_rfl) (by kernel_rfl)⟩) (by
  intro p hp
  simp [slices_IndexFunc_api_Entry_c80.jl] at hp)
theorem slices_IndexFunc_api_Entry_c80.l2.eq (k : Nat) (x : (List Sapi_Entry × Int × Int × Int)) : evC (slices_IndexFunc_api_Entry_c80.E k) (loopAt Try.f122 2) (slices_IndexFunc_api_Entry_c80.l2.mk x) (headK slices_IndexFunc_api_Entry_c80.l2.un slices_IndexFunc_api_Entry_c80.l2.re) = slices_IndexFunc_api_Entry_c80.l2.once k x := by kernel_rfl
theorem slices_IndexFunc_api_Entry_c80.l2.fit (s : St U) (x : (List Sapi_Entry × Int × Int × Int)) (h : slices_IndexFunc_api_Entry_c80.l2.un s = some x) : Fits s (slices_IndexFunc_api_Entry_c80.l2.mk x) := by
  unfold slices_IndexFunc_api_Entry_c80.l2.un at h
  obtain ⟨q0, eq0, h1⟩ := Option.bind_eq_some_iff.1 h
  split at h1
  · cases h1
    refine fits_ren [] ?_ ?_ ren_nil rfl
    · exact List.forall_mem_cons.2 ⟨FV.one (row_Sapi_Entry_fit eq0), List.forall_mem_cons.2 ⟨FV.one (FV.same (by assumption) rfl), List.forall_mem_cons.2 ⟨FV.one (FV.same (by assumption) rfl), List.forall_mem_cons.2 ⟨FV.one (FV.same (by assumption) rfl), fun _ hp => (List.not_mem_nil hp).elim⟩⟩⟩⟩
    · exact fun _ hp => (List.not_mem_nil hp).elim
  · cases h1
theorem slices_IndexFunc_api_Entry_c80.l2.fitO (o : Out U) (y : Unit ⊕ Int) (h : slices_IndexFunc_api_Entry_c80.l2.re o = some y) : FitsO o (slices_IndexFunc_api_Entry_c80.l2.fin y) := by
  unfold slices_IndexFunc_api_Entry_c80.l2.re at h
  split at h
  · cases h
    refine fitsO_exit (fits_ren [] ?_ ?_ ren_nil rfl)
    · exact fun _ hp => (List.not_mem_nil hp).elim
    · exact fun _ hp => (List.not_mem_nil hp).elim
  · split at h
    · cases h
      refine fitsO_ret (fits_ren [] ?_ ?_ ren_nil rfl)
      · exact List.forall_mem_cons.2 ⟨FV.one (FV.same (by assumption) rfl), fun _ hp => (List.not_mem_nil hp).elim⟩
      · exact fun _ hp => (List.not_mem_nil hp).elim
    · cases h
  · cases h
theorem slices_IndexFunc_api_Entry_c80.l2.sound (k : Nat) : LSound (slices_IndexFunc_api_Entry_c80.E k) Try.f122.ntmps Try.f122 (loopAt Try.f122 2) (slices_IndexFunc_api_Entry_c80.l2.L k) :=
  loop_sound (slices_IndexFunc_api_Entry_c80.ok k) mixed rfl (by kernel_rfl) (allL_of (l := []) (by kernel_rfl) allL_nil) slices_IndexFunc_api_Entry_c80.l2.un slices_IndexFunc_api_Entry_c80.l2.mk slices_IndexFunc_api_Entry_c80.l2.fin slices_IndexFunc_api_Entry_c80.l2.re (slices_IndexFunc_api_Entry_c80.l2.once k) k slices_IndexFunc_api_Entry_c80.l2.fit slices_IndexFunc_api_Entry_c80.l2.fitO (slices_IndexFunc_api_Entry_c80.l2.eq k) slices_IndexFunc_api_Entry_c80.l2.finK slices_IndexFunc_api_Entry_c80.l2.finK_eq
theorem slices_IndexFunc_api_Entry_c80.eq (k : Nat) (x : (List Sapi_Entry × Int)) : runF (slices_IndexFunc_api_Entry_c80.E k) (codeOf Try.f122) (slices_IndexFunc_api_Entry_c80.mk x) slices_IndexFunc_api_Entry_c80.re = (slices_IndexFunc_api_Entry_c80.D k).f x := by kernel_rfl
theorem slices_IndexFunc_api_Entry_c80.fit (s : St U) (x : (List Sapi_Entry × Int)) (h : slices_IndexFunc_api_Entry_c80.un s = some x) : Fits s (slices_IndexFunc_api_Entry_c80.mk x) := by
  unfold slices_IndexFunc_api_Entry_c80.un at h
  split at h
  · cases h
    refine fits_ren [] ?_ ?_ ren_nil rfl
    · exact List.forall_mem_cons.2 ⟨FV.one (FV.same (by assumption) rfl), List.forall_mem_cons.2 ⟨FV.one (FV.same (by assumption) rfl), fun _ hp => (List.not_mem_nil hp).elim⟩⟩
    · exact fun _ hp => (List.not_mem_nil hp).elim
  · cases h
theorem slices_IndexFunc_api_Entry_c80.fitR (s : St U) (y : Int) (h : slices_IndexFunc_api_Entry_c80.re s = some y) : Fits s (slices_IndexFunc_api_Entry_c80.fin y) := by
  unfold slices_IndexFunc_api_Entry_c80.re at h
  split at h
  · cases h
    refine fits_ren [] ?_ ?_ ren_nil rfl
    · exact List.forall_mem_cons.2 ⟨FV.one (FV.same (by assumption) rfl), fun _ hp => (List.not_mem_nil hp).elim⟩
    · exact fun _ hp => (List.not_mem_nil hp).elim
  · cases h
theorem slices_IndexFunc_api_Entry_c80.sound (k : Nat) : Sound Try.prog DD 122 (slices_IndexFunc_api_Entry_c80.D k) :=
  fun_sound (E := slices_IndexFunc_api_Entry_c80.E k) (fn := Try.f122) (c := codeOf Try.f122) (slices_IndexFunc_api_Entry_c80.ok k) mixed rfl Try.func122 (by kernel_rfl) (by kernel_rfl) (allL_of (l := [loopAt Try.f122 2]) (by kernel_rfl) (allL_cons (key := 2) (by kernel_rfl) rfl (slices_IndexFunc_api_Entry_c80.l2.sound k) allL_nil)) (slices_IndexFunc_api_Entry_c80.D k) slices_IndexFunc_api_Entry_c80.mk slices_IndexFunc_api_Entry_c80.re (by kernel_rfl) (by kernel_rfl) slices_IndexFunc_api_Entry_c80.fit slices_IndexFunc_api_Entry_c80.fitR (slices_IndexFunc_api_Entry_c80.eq k)
/-! ### slices.ContainsFunc[[]pyx/api.Entry,pyx/api.Entry]: function 79 -/
noncomputable def slices_ContainsFunc_api_Entry_c80.f (k : Nat) (a0 : List Sapi_Entry) (a1 : Int) : Option Bool := (slices_IndexFunc_api_Entry_c80.f k a0 a1).bind fun t1 => (some (decide (t1 ≥ 0)))
noncomputable def slices_ContainsFunc_api_Entry_c80.un (s : St U) : Option (List Sapi_Entry × Int) := match s.get 0, s.get 1 with | .row C.Sapi_Entry x1, .fn 80 [.rp [.flat (.int .i64 x2)] 0] => some (x1, x2) | _, _ => none
noncomputable def slices_ContainsFunc_api_Entry_c80.mk (x : (List Sapi_Entry × Int)) : St U := ⟨[(0, .row C.Sapi_Entry x.1), (1, .fn 80 [.rp [.flat (.int .i64 x.2)] 0])], []⟩
noncomputable def slices_ContainsFunc_api_Entry_c80.fin (y : Bool) : St U := ⟨[(0, .flat (.bool y))], []⟩
noncomputable def slices_ContainsFunc_api_Entry_c80.D (k : Nat) : FDen U := { X := (List Sapi_Entry × Int), Y := Bool, nt := 9, gh := [], un := slices_ContainsFunc_api_Entry_c80.un, f := fun x => slices_ContainsFunc_api_Entry_c80.f k (x.1) (x.2), fin := slices_ContainsFunc_api_Entry_c80.fin, cl := true, clo := fun _ _ => rfl }
noncomputable def slices_ContainsFunc_api_Entry_c80.re (s : St U) : Option Bool := match s.get 0 with | .flat (.bool x1) => some x1 | _ => none
noncomputable def slices_ContainsFunc_api_Entry_c80.jl : List (Nat × JDen U) := []
noncomputable def slices_ContainsFunc_api_Entry_c80.fl (k : Nat) : List (Nat × FDen U) := [(122, slices_IndexFunc_api_Entry_c80.D k)]
noncomputable def slices_ContainsFunc_api_Entry_c80.ll (k : Nat) : List (Nat × LDen U) := []
noncomputable def slices_ContainsFunc_api_Entry_c80.E (k : Nat) : Env U := { P := Try.prog, D := DD, fd := lk (slices_ContainsFunc_api_Entry_c80.fl k), ld := lk (slices_ContainsFunc_api_Entry_c80.ll k), jd := lk slices_ContainsFunc_api_Entry_c80.jl, mode := lk [], elc := lk ec, mpc := lk mc, rts := Try.f79.resultTypes.toList, dyn := fun t => false, vecs := fun d => false, results := Try.f79.results.toList, gh := [], own := false, io := fun g i => false }
theorem slices_ContainsFunc_api_Entry_c80.ok (k : Nat) : EnvOk (slices_ContainsFunc_api_Entry_c80.E k) := envOk lawful (slices_ContainsFunc_api_Entry_c80.fl k) (slices_ContainsFunc_api_Entry_c80.ll k) slices_ContainsFunc_api_Entry_c80.jl _ _ _ _ _ _ _ _ _ _ (by
  intro p hp
  simp only [slices_ContainsFunc_api_Entry_c80.fl, List.mem_cons, List.not_mem_nil, or_false] at hp
  rcases hp with rfl
  · exact ⟨slices_IndexFunc_api_Entry_c80.sound k, enter_of Try.func122 (by kernel_rfl) (by kernel_rfl)⟩) (by
  intro p hp
  simp [slices_ContainsFunc_api_Entry_c80.jl] at hp)
theorem slices_ContainsFunc_api_Entry_c80.eq (k : Nat) (x : (List Sapi_Entry × Int)) : runF (slices_ContainsFunc_api_Entry_c80.E k) (codeOf Try.f79) (slices_ContainsFunc_api_Entry_c80.mk x) slices_ContainsFunc_api_Entry_c80.re = (slices_ContainsFunc_api_Entry_c80.D k).f x := by kernel_rfl
theorem slices_ContainsFunc_api_Entry_c80.fit (s : St U) (x : (List Sapi_Entry × Int)) (h : slices_ContainsFunc_api_Entry_c80.un s = some x) : Fits s (slices_ContainsFunc_api_Entry_c80.mk x) := by
  unfold slices_ContainsFunc_api_Entry_c80.un at h
  split at h
  · cases h
    refine fits_ren [] ?_ ?_ ren_nil rfl
    · exact List.forall_mem_cons.2 ⟨FV.one (FV.same (by assumption) rfl), List.forall_mem_cons.2 ⟨FV.one (FV.same (by assumption) rfl), fun _ hp => (List.not_mem_nil hp).elim⟩⟩
    · exact fun _ hp => (List.not_mem_nil hp).elim
  · cases h
theorem slices_ContainsFunc_api_Entry_c80.fitR (s : St U) (y : Bool) (h : slices_ContainsFunc_api_Entry_c80.re s = some y) : Fits s (slices_ContainsFunc_api_Entry_c80.fin y) := by
  unfold slices_ContainsFunc_api_Entry_c80.re at h
  split at h
  · cases h
    refine fits_ren [] ?_ ?_ ren_nil rfl
    · exact List.forall_mem_cons.2 ⟨FV.one (FV.same (by assumption) rfl), fun _ hp => (List.not_mem_nil hp).elim⟩
    · exact fun _ hp => (List.not_mem_nil hp).elim
  · cases h
theorem slices_ContainsFunc_api_Entry_c80.sound (k : Nat) : Sound Try.prog DD 79 (slices_ContainsFunc_api_Entry_c80.D k) :=
  fun_sound (E := slices_ContainsFunc_api_Entry_c80.E k) (fn := Try.f79) (c := codeOf Try.f79) (slices_ContainsFunc_api_Entry_c80.ok k) mixed rfl Try.func79 (by kernel_rfl) (by kernel_rfl) (allL_of (l := []) (by kernel_rfl) allL_nil) (slices_ContainsFunc_api_Entry_c80.D k) slices_ContainsFunc_api_Entry_c80.mk slices_ContainsFunc_api_Entry_c80.re (by kernel_rfl) (by kernel_rfl) slices_ContainsFunc_api_Entry_c80.fit slices_ContainsFunc_api_Entry_c80.fitR (slices_ContainsFunc_api_Entry_c80.eq k)
/-! ### pyx/dec.Neg: function 47 -/
noncomputable def dec_Neg.f (k : Nat) (a0 : Sapi_Dec) : Option Sapi_Dec := (dec_Right.f k (⟨a0.f_Neg, (a0.f_C.1, a0.f_C.2), a0.f_Scale⟩ : Sapi_Dec)).bind fun t1 => (cond (!t1) (some (⟨false, (0, 0), 0⟩ : Sapi_Dec)) (cond (!a0.f_Neg) ((dec_nought.f k (a0.f_C.1, a0.f_C.2)).bind fun t2 => (some (⟨!t2, (a0.f_C.1, a0.f_C.2), a0.f_Scale⟩ : Sapi_Dec))) (some (⟨false, (a0.f_C.1, a0.f_C.2), a0.f_Scale⟩ : Sapi_Dec))))
noncomputable def dec_Neg.un (s : St U) : Option Sapi_Dec := match s.get 0 with | .agg [.flat (.bool x1), .flat (.int .u64 x2), .flat (.int .u64 x3), .flat (.int .i64 x4)] => some (⟨x1, (x2, x3), x4⟩ : Sapi_Dec) | _ => none
noncomputable def dec_Neg.mk (x : Sapi_Dec) : St U := ⟨[(0, .agg [.flat (.bool x.f_Neg), .flat (.int .u64 x.f_C.1), .flat (.int .u64 x.f_C.2), .flat (.int .i64 x.f_Scale)])], []⟩
noncomputable def dec_Neg.fin (y : Sapi_Dec) : St U := ⟨[(0, .agg [.flat (.bool y.f_Neg), .flat (.int .u64 y.f_C.1), .flat (.int .u64 y.f_C.2), .flat (.int .i64 y.f_Scale)])], []⟩
noncomputable def dec_Neg.D (k : Nat) : FDen U := { X := Sapi_Dec, Y := Sapi_Dec, nt := 18, gh := [], un := dec_Neg.un, f := fun x => dec_Neg.f k (x), fin := dec_Neg.fin, cl := true, clo := fun _ _ => rfl }
noncomputable def dec_Neg.re (s : St U) : Option Sapi_Dec := match s.get 0 with | .agg [.flat (.bool x1), .flat (.int .u64 x2), .flat (.int .u64 x3), .flat (.int .i64 x4)] => some (⟨x1, (x2, x3), x4⟩ : Sapi_Dec) | _ => none
noncomputable def dec_Neg.jl : List (Nat × JDen U) := []
noncomputable def dec_Neg.fl (k : Nat) : List (Nat × FDen U) := [(82, dec_Right.D k), (88, dec_nought.D k)]
noncomputable def dec_Neg.ll (k : Nat) : List (Nat × LDen U) := []
noncomputable def dec_Neg.E (k : Nat) : Env U := { P := Try.prog, D := DD, fd := lk (dec_Neg.fl k), ld := lk (dec_Neg.ll k), jd := lk dec_Neg.jl, mode := lk [], elc := lk ec, mpc := lk mc, rts := Try.f47.resultTypes.toList, dyn := fun t => false, vecs := fun d => false, results := Try.f47.results.toList, gh := [], own := false, io := fun g i => false }
theorem dec_Neg.ok (k : Nat) : EnvOk (dec_Neg.E k) := envOk lawful (dec_Neg.fl k) (dec_Neg.ll k) dec_Neg.jl _ _ _ _ _ _ _ _ _ _ (by
  intro p hp
  simp only [dec_Neg.fl, List.mem_cons, List.not_mem_nil, or_false] at hp
  rcases hp with rfl | rfl
  · exact ⟨dec_Right.sound k, enter_of Try.func82 (by kernel_rfl) (by kernel_rfl)⟩
  · exact ⟨dec_nought.sound k, enter_of Try.func88 (by kernel_rfl) (by kernel_rfl)⟩) (by
  intro p hp
  simp [dec_Neg.jl] at hp)
theorem dec_Neg.eq (k : Nat) (x : Sapi_Dec) : runF (dec_Neg.E k) (codeOf Try.f47) (dec_Neg.mk x) dec_Neg.re = (dec_Neg.D k).f x := by kernel_rfl
theorem dec_Neg.fit (s : St U) (x : Sapi_Dec) (h : dec_Neg.un s = some x) : Fits s (dec_Neg.mk x) := by
  unfold dec_Neg.un at h
  split at h
  · cases h
    refine fits_ren [] ?_ ?_ ren_nil rfl
    · exact List.forall_mem_cons.2 ⟨FV.one (FV.same (by assumption) rfl), fun _ hp => (List.not_mem_nil hp).elim⟩
    · exact fun _ hp => (List.not_mem_nil hp).elim
  · cases h
theorem dec_Neg.fitR (s : St U) (y : Sapi_Dec) (h : dec_Neg.re s = some y) : Fits s (dec_Neg.fin y) := by
  unfold dec_Neg.re at h
  split at h
  · cases h
    refine fits_ren [] ?_ ?_ ren_nil rfl
    · exact List.forall_mem_cons.2 ⟨FV.one (FV.same (by assumption) rfl), fun _ hp => (List.not_mem_nil hp).elim⟩
    · exact fun _ hp => (List.not_mem_nil hp).elim
  · cases h
theorem dec_Neg.sound (k : Nat) : Sound Try.prog DD 47 (dec_Neg.D k) :=
  fun_sound (E := dec_Neg.E k) (fn := Try.f47) (c := codeOf Try.f47) (dec_Neg.ok k) mixed rfl Try.func47 (by kernel_rfl) (by kernel_rfl) (allL_of (l := []) (by kernel_rfl) allL_nil) (dec_Neg.D k) dec_Neg.mk dec_Neg.re (by kernel_rfl) (by kernel_rfl) dec_Neg.fit dec_Neg.fitR (dec_Neg.eq k)
/-! ### pyx/entry.Turned: function 81 -/
noncomputable def entry_Turned.l3.once (k : Nat) (x : (List Sapi_Line × List Sapi_Line × Int × Int)) : Option ((List Sapi_Line × List Sapi_Line × Int × Int) ⊕ (List Sapi_Line)) := match x with | (x1, x2, x3, x4) => cond (decide (x4 < x3)) (cond (inb x4 (List.length x2)) ((dec_Neg.f k (⟨((List.getD x2 (Int.toNat x4) Sapi_Line.zero).f_Amount).f_Neg, ((((List.getD x2 (Int.toNat x4) Sapi_Line.zero).f_Amount).f_C).1, (((List.getD x2 (Int.toNat x4) Sapi_Line.zero).f_Amount).f_C).2), ((List.getD x2 (Int.toNat x4) Sapi_Line.zero).f_Amount).f_Scale⟩ : Sapi_Dec)).bind fun t5 => (cond (okLen (List.length x1 + List.length [(⟨(List.getD x2 (Int.toNat x4) Sapi_Line.zero).f_Acct, (⟨t5.f_Neg, (t5.f_C.1, t5.f_C.2), t5.f_Scale⟩ : Sapi_Dec), (List.getD x2 (Int.toNat x4) Sapi_Line.zero).f_With⟩ : Sapi_Line)]) 48) (some (.inl (x1 ++ [(⟨(List.getD x2 (Int.toNat x4) Sapi_Line.zero).f_Acct, (⟨t5.f_Neg, (t5.f_C.1, t5.f_C.2), t5.f_Scale⟩ : Sapi_Dec), (List.getD x2 (Int.toNat x4) Sapi_Line.zero).f_With⟩ : Sapi_Line)], x2, x3, IntKind.wrap .i64 (x4 + 1)))) none)) none) (some (.inr x1))
noncomputable def entry_Turned.f (k : Nat) (a0 : List Sapi_Line) : Option (List Sapi_Line) := (iter (entry_Turned.l3.once k) k (([] : List Sapi_Line), a0, (List.length a0 : Int), 0)).bind fun y7 => (some y7)
noncomputable def entry_Turned.un (s : St U) : Option (List Sapi_Line) := match s.get 0 with | .row C.Sapi_Line x1 => some x1 | _ => none
noncomputable def entry_Turned.mk (x : List Sapi_Line) : St U := ⟨[(0, .row C.Sapi_Line x)], []⟩
noncomputable def entry_Turned.fin (y : List Sapi_Line) : St U := ⟨[(0, .row C.Sapi_Line y)], []⟩
noncomputable def entry_Turned.D (k : Nat) : FDen U := { X := List Sapi_Line, Y := List Sapi_Line, nt := 22, gh := [], un := entry_Turned.un, f := fun x => entry_Turned.f k (x), fin := entry_Turned.fin, cl := true, clo := fun _ _ => rfl }
noncomputable def entry_Turned.re (s : St U) : Option (List Sapi_Line) := match s.get 0 with | .row C.Sapi_Line x1 => some x1 | _ => none
noncomputable def entry_Turned.l3.mk (x : (List Sapi_Line × List Sapi_Line × Int × Int)) : St U := match x with | (x1, x2, x3, x4) => ⟨[(3, .tip 1003003 C.Sapi_Line x1), (6, .row C.Sapi_Line x2), (7, .flat (.int .i64 x3)), (8, .flat (.int .i64 x4))], [(1003003, .tip 6)]⟩
noncomputable def entry_Turned.l3.un (s : St U) : Option (List Sapi_Line × List Sapi_Line × Int × Int) := (tip_Sapi_Line s.o 6 (s.get 3)).bind fun q0 => ((row_Sapi_Line (s.get 6)).bind fun q1 => (match s.get 7, s.get 8 with | .flat (.int .i64 x3), .flat (.int .i64 x4) => some (q0.2, q1, x3, x4) | _, _ => none))
noncomputable def entry_Turned.l3.fin (y : List Sapi_Line) : Out U := match y with | x6 => .exit 0 ⟨[(3, .tip 1003003 C.Sapi_Line x6)], [(1003003, .tip 6)]⟩
noncomputable def entry_Turned.l3.finK {ρ : Type} (y : List Sapi_Line) (K : Out U → Option ρ) : Option ρ := match y with | x6 => K (.exit 0 ⟨[(3, .tip 1003003 C.Sapi_Line x6)], [(1003003, .tip 6)]⟩)
theorem entry_Turned.l3.finK_eq {ρ : Type} (y : List Sapi_Line) (K : Out U → Option ρ) : entry_Turned.l3.finK y K = K (entry_Turned.l3.fin y) := by
  unfold entry_Turned.l3.finK entry_Turned.l3.fin
  first | rfl | (split <;> rfl)
noncomputable def entry_Turned.l3.re : Out U → Option (List Sapi_Line) | .exit 0 s => ((tip_Sapi_Line s.o 6 (s.get 3)).bind fun q0 => (some q0.2)) | _ => none
noncomputable def entry_Turned.l3.L (k : Nat) : LDen U := { X := (List Sapi_Line × List Sapi_Line × Int × Int), Y := List Sapi_Line, un := entry_Turned.l3.un, f := iter (entry_Turned.l3.once k) k, fin := entry_Turned.l3.fin, finK := entry_Turned.l3.finK, finK_eq := entry_Turned.l3.finK_eq }
noncomputable def entry_Turned.jl : List (Nat × JDen U) := []
noncomputable def entry_Turned.fl (k : Nat) : List (Nat × FDen U) := [(47, dec_Neg.D k)]
noncomputable def entry_Turned.ll (k : Nat) : List (Nat × LDen U) := [(3, entry_Turned.l3.L k)]
noncomputable def entry_Turned.E (k : Nat) : Env U := { P := Try.prog, D := DD, fd := lk (entry_Turned.fl k), ld := lk (entry_Turned.ll k), jd := lk entry_Turned.jl, mode := lk [], elc := lk ec, mpc := lk mc, rts := Try.f81.resultTypes.toList, dyn := fun t => false, vecs := fun d => false, results := Try.f81.results.toList, gh := [], own := false, io := fun g i => false }
theorem entry_Turned.ok (k : Nat) : EnvOk (entry_Turned.E k) := envOk lawful (entry_Turned.fl k) (entry_Turned.ll k) entry_Turned.jl _ _ _ _ _ _ _ _ _ _ (by
  intro p hp
  simp only [entry_Turned.fl, List.mem_cons, List.not_mem_nil, or_false] at hp
  rcases hp with rfl
  · exact ⟨dec_Neg.sound k, enter_of Try.func47 (by kernel_rfl) (by kernel_rfl)⟩) (by
  intro p hp
  simp [entry_Turned.jl] at hp)
theorem entry_Turned.l3.eq (k : Nat) (x : (List Sapi_Line × List Sapi_Line × Int × Int)) : evC (entry_Turned.E k) (loopAt Try.f81 3) (entry_Turned.l3.mk x) (headK entry_Turned.l3.un entry_Turned.l3.re) = entry_Turned.l3.once k x := by kernel_rfl
theorem entry_Turned.l3.fit (s : St U) (x : (List Sapi_Line × List Sapi_Line × Int × Int)) (h : entry_Turned.l3.un s = some x) : Fits s (entry_Turned.l3.mk x) := by
  unfold entry_Turned.l3.un at h
  obtain ⟨q0, eq0, h1⟩ := Option.bind_eq_some_iff.1 h
  obtain ⟨q1, eq1, h2⟩ := Option.bind_eq_some_iff.1 h1
  split at h2
  · cases h2
    refine fits_ren [(1003003, q0.1)] ?_ ?_ ren_one rfl
    · exact List.forall_mem_cons.2 ⟨FV.one (tip_Sapi_Line_fit eq0 rfl).1, List.forall_mem_cons.2 ⟨FV.one (row_Sapi_Line_fit eq1), List.forall_mem_cons.2 ⟨FV.one (FV.same (by assumption) rfl), List.forall_mem_cons.2 ⟨FV.one (FV.same (by assumption) rfl), fun _ hp => (List.not_mem_nil hp).elim⟩⟩⟩⟩
    · exact List.forall_mem_cons.2 ⟨(tip_Sapi_Line_fit eq0 rfl).2, fun _ hp => (List.not_mem_nil hp).elim⟩
  · cases h2
theorem entry_Turned.l3.fitO (o : Out U) (y : List Sapi_Line) (h : entry_Turned.l3.re o = some y) : FitsO o (entry_Turned.l3.fin y) := by
  unfold entry_Turned.l3.re at h
  split at h
  · obtain ⟨q0, eq0, h1⟩ := Option.bind_eq_some_iff.1 h
    cases h1
    refine fitsO_exit (fits_ren [(1003003, q0.1)] ?_ ?_ ren_one rfl)
    · exact List.forall_mem_cons.2 ⟨FV.one (tip_Sapi_Line_fit eq0 rfl).1, fun _ hp => (List.not_mem_nil hp).elim⟩
    · exact List.forall_mem_cons.2 ⟨(tip_Sapi_Line_fit eq0 rfl).2, fun _ hp => (List.not_mem_nil hp).elim⟩
  · cases h
theorem entry_Turned.l3.sound (k : Nat) : LSound (entry_Turned.E k) Try.f81.ntmps Try.f81 (loopAt Try.f81 3) (entry_Turned.l3.L k) :=
  loop_sound (entry_Turned.ok k) mixed rfl (by kernel_rfl) (allL_of (l := []) (by kernel_rfl) allL_nil) entry_Turned.l3.un entry_Turned.l3.mk entry_Turned.l3.fin entry_Turned.l3.re (entry_Turned.l3.once k) k entry_Turned.l3.fit entry_Turned.l3.fitO (entry_Turned.l3.eq k) entry_Turned.l3.finK entry_Turned.l3.finK_eq
theorem entry_Turned.eq (k : Nat) (x : List Sapi_Line) : runF (entry_Turned.E k) (codeOf Try.f81) (entry_Turned.mk x) entry_Turned.re = (entry_Turned.D k).f x := by kernel_rfl
theorem entry_Turned.fit (s : St U) (x : List Sapi_Line) (h : entry_Turned.un s = some x) : Fits s (entry_Turned.mk x) := by
  unfold entry_Turned.un at h
  split at h
  · cases h
    refine fits_ren [] ?_ ?_ ren_nil rfl
    · exact List.forall_mem_cons.2 ⟨FV.one (FV.same (by assumption) rfl), fun _ hp => (List.not_mem_nil hp).elim⟩
    · exact fun _ hp => (List.not_mem_nil hp).elim
  · cases h
theorem entry_Turned.fitR (s : St U) (y : List Sapi_Line) (h : entry_Turned.re s = some y) : Fits s (entry_Turned.fin y) := by
  unfold entry_Turned.re at h
  split at h
  · cases h
    refine fits_ren [] ?_ ?_ ren_nil rfl
    · exact List.forall_mem_cons.2 ⟨FV.one (FV.same (by assumption) rfl), fun _ hp => (List.not_mem_nil hp).elim⟩
    · exact fun _ hp => (List.not_mem_nil hp).elim
  · cases h
theorem entry_Turned.sound (k : Nat) : Sound Try.prog DD 81 (entry_Turned.D k) :=
  fun_sound (E := entry_Turned.E k) (fn := Try.f81) (c := codeOf Try.f81) (entry_Turned.ok k) mixed rfl Try.func81 (by kernel_rfl) (by kernel_rfl) (allL_of (l := [loopAt Try.f81 3]) (by kernel_rfl) (allL_cons (key := 3) (by kernel_rfl) rfl (entry_Turned.l3.sound k) allL_nil)) (entry_Turned.D k) entry_Turned.mk entry_Turned.re (by kernel_rfl) (by kernel_rfl) entry_Turned.fit entry_Turned.fitR (entry_Turned.eq k)
/-! ### (*pyx/ledger.Book).Reverse: function 34 -/
noncomputable def ledger_Book_Reverse.f (k : Nat) (a0 : Sledger_Book) (a1 : Int) (a2 : Int) : Option (Int × Int × Sledger_Book) := ((cond (decide (a1 < 0)) (some (a2, true, a0.f_scale, a0.f_l, (⟨pack 12 false a0.f_t.f_Closed, pack 12 0 a0.f_t.f_Version⟩ : Speriod_Table), a1)) (some (a2, decide (a1 ≥ (List.length a0.f_l : Int)), a0.f_scale, a0.f_l, (⟨pack 12 false a0.f_t.f_Closed, pack 12 0 a0.f_t.f_Version⟩ : Speriod_Table), a1))) : Option (Int × Bool × Int × List Sapi_Entry × Speriod_Table × Int)).bind fun y31 => (cond (y31.2.1) (some (0, 10, (⟨y31.2.2.1, y31.2.2.2.1, (⟨pack 12 false y31.2.2.2.2.1.f_Closed, pack 12 0 y31.2.2.2.2.1.f_Version⟩ : Speriod_Table)⟩ : Sledger_Book))) (((cond (inb y31.2.2.2.2.2 (List.length y31.2.2.2.1)) (cond (decide (((List.getD y31.2.2.2.1 (Int.toNat y31.2.2.2.2.2) Sapi_Entry.zero).f_Of) ≥ 0)) (some (y31.1, y31.2.2.2.2.2, true, y31.2.2.1, y31.2.2.2.1, (⟨pack 12 false y31.2.2.2.2.1.f_Closed, pack 12 0 y31.2.2.2.2.1.f_Version⟩ : Speriod_Table))) ((slices_ContainsFunc_api_Entry_c80.f k y31.2.2.2.1 y31.2.2.2.2.2).bind fun t62 => (some (y31.1, y31.2.2.2.2.2, t62, y31.2.2.1, y31.2.2.2.1, (⟨pack 12 false y31.2.2.2.2.1.f_Closed, pack 12 0 y31.2.2.2.2.1.f_Version⟩ : Speriod_Table))))) none) : Option (Int × Int × Bool × Int × List Sapi_Entry × Speriod_Table)).bind fun y63 => (cond (y63.2.2.1) (some (0, 13, (⟨y63.2.2.2.1, y63.2.2.2.2.1, (⟨pack 12 false y63.2.2.2.2.2.f_Closed, pack 12 0 y63.2.2.2.2.2.f_Version⟩ : Speriod_Table)⟩ : Sledger_Book))) (cond (inb y63.2.1 (List.length y63.2.2.2.2.1)) ((entry_Turned.f k ((List.getD y63.2.2.2.2.1 (Int.toNat y63.2.1) Sapi_Entry.zero).f_Lines)).bind fun t64 => ((ledger_Book_add.f k (⟨y63.2.2.2.1, y63.2.2.2.2.1, (⟨pack 12 false y63.2.2.2.2.2.f_Closed, pack 12 0 y63.2.2.2.2.2.f_Version⟩ : Speriod_Table)⟩ : Sledger_Book) (⟨y63.1, t64, y63.2.1⟩ : Sapi_Entry)).bind fun t65 => (some (t65.1, t65.2.1, (⟨t65.2.2.f_scale, t65.2.2.f_l, (⟨pack 12 false t65.2.2.f_t.f_Closed, pack 12 0 t65.2.2.f_t.f_Version⟩ : Speriod_Table)⟩ : Sledger_Book))))) none))))
noncomputable def ledger_Book_Reverse.un (s : St U) : Option (Sledger_Book × Int × Int) := match s.get 0, lk s.o 7000000000000, s.get 1, s.get 2, s.get 1000000000000000 with | .ptr 7000000000000 0, some (.lit (.flat (.int .i64 x1) :: x5 :: x3)), .flat (.int .i64 x6), .flat (.int .i64 x7), .ptr 7000000000000 0 => (tip_Sapi_Entry s.o 3 x5).bind fun ex2 => ((cd_Speriod_Table.full x3).bind fun x4 => (some ((⟨x1, ex2.2, x4⟩ : Sledger_Book), x6, x7))) | _, _, _, _, _ => none
noncomputable def ledger_Book_Reverse.mk (x : (Sledger_Book × Int × Int)) : St U := ⟨[(0, .ptr 7000000000000 0), (1, .flat (.int .i64 x.2.1)), (2, .flat (.int .i64 x.2.2)), (1000000000000000, .ptr 7000000000000 0)], [(7000000000000, .lit ((.flat (.int .i64 x.1.f_scale)) :: (.tip 7000000000002 C.Sapi_Entry x.1.f_l) :: cd_Speriod_Table.enc x.1.f_t)), (7000000000002, .tip 3)]⟩
noncomputable def ledger_Book_Reverse.fin (y : (Int × Int × Sledger_Book)) : St U := ⟨[(0, .tup [.flat (.int .i64 y.1), .flat (.int .i64 y.2.1)]), (1000000000000000, .ptr 7000000000000 0)], [(7000000000000, .lit ((.flat (.int .i64 y.2.2.f_scale)) :: (.tip 7000000000002 C.Sapi_Entry y.2.2.f_l) :: cd_Speriod_Table.enc y.2.2.f_t)), (7000000000002, .tip 3)]⟩
noncomputable def ledger_Book_Reverse.D (k : Nat) : FDen U := { X := (Sledger_Book × Int × Int), Y := (Int × Int × Sledger_Book), nt := 57, gh := [0], un := ledger_Book_Reverse.un, f := fun x => ledger_Book_Reverse.f k (x.1) (x.2.1) (x.2.2), fin := ledger_Book_Reverse.fin, cl := false, clo := fun h => by cases h }
noncomputable def ledger_Book_Reverse.re (s : St U) : Option (Int × Int × Sledger_Book) := match s.get 0, s.get 1000000000000000, lk s.o 7000000000000 with | .tup [.flat (.int .i64 x1), .flat (.int .i64 x2)], .ptr 7000000000000 0, some (.lit (.flat (.int .i64 x3) :: x7 :: x5)) => (tip_Sapi_Entry s.o 3 x7).bind fun ex4 => ((cd_Speriod_Table.full x5).bind fun x6 => (some (x1, x2, (⟨x3, ex4.2, x6⟩ : Sledger_Book)))) | _, _, _ => none
noncomputable def ledger_Book_Reverse.j3000.fin (y : (Int × Bool × Int × List Sapi_Entry × Speriod_Table × Int)) : Out U := match y with | (x28, x30, x1, x2, x27, x29) => .norm ⟨[(0, .ptr 7000000000000 0), (4, .ptr 4 0), (1000000000000000, .ptr 7000000000000 0), (2, .flat (.int .i64 x28)), (11, .flat (.bool x30))], [(7000000000000, .lit ((.flat (.int .i64 x1)) :: (.tip 700102300000001 C.Sapi_Entry x2) :: cd_Speriod_Table.enc x27)), (700102300000001, .tip 3), (4, .lit [.flat (.int .i64 x29)])]⟩
noncomputable def ledger_Book_Reverse.j3000.finK {ρ : Type} (y : (Int × Bool × Int × List Sapi_Entry × Speriod_Table × Int)) (K : Out U → Option ρ) : Option ρ := match y with | (x28, x30, x1, x2, x27, x29) => K (.norm ⟨[(0, .ptr 7000000000000 0), (4, .ptr 4 0), (1000000000000000, .ptr 7000000000000 0), (2, .flat (.int .i64 x28)), (11, .flat (.bool x30))], [(7000000000000, .lit ((.flat (.int .i64 x1)) :: (.tip 700102300000001 C.Sapi_Entry x2) :: cd_Speriod_Table.enc x27)), (700102300000001, .tip 3), (4, .lit [.flat (.int .i64 x29)])]⟩)
theorem ledger_Book_Reverse.j3000.finK_eq {ρ : Type} (y : (Int × Bool × Int × List Sapi_Entry × Speriod_Table × Int)) (K : Out U → Option ρ) : ledger_Book_Reverse.j3000.finK y K = K (ledger_Book_Reverse.j3000.fin y) := by
  unfold ledger_Book_Reverse.j3000.finK ledger_Book_Reverse.j3000.fin
  first | rfl | (split <;> rfl)
noncomputable def ledger_Book_Reverse.j3000.re : Out U → Option ((Int × Bool × Int × List Sapi_Entry × Speriod_Table × Int)) | .norm s => (match s.get 0, s.get 4, s.get 1000000000000000, s.get 2, s.get 11, lk s.o 7000000000000, lk s.o 4 with | .ptr 7000000000000 0, .ptr 4 0, .ptr 7000000000000 0, .flat (.int .i64 x28), .flat (.bool x30), some (.lit (.flat (.int .i64 x1) :: u7000000000000_1 :: u7000000000000_t)), some (.lit [.flat (.int .i64 x29)]) => (tip_Sapi_Entry s.o 3 u7000000000000_1).bind fun w7000000000000_1 => ((cd_Speriod_Table.full u7000000000000_t).bind fun w7000000000000_t => (some (x28, x30, x1, w7000000000000_1.2, w7000000000000_t, x29))) | _, _, _, _, _, _, _ => none) | _ => none
noncomputable def ledger_Book_Reverse.j3000.J : JDen U := { Y := (Int × Bool × Int × List Sapi_Entry × Speriod_Table × Int), re := ledger_Book_Reverse.j3000.re, fin := ledger_Book_Reverse.j3000.fin, finK := ledger_Book_Reverse.j3000.finK, finK_eq := ledger_Book_Reverse.j3000.finK_eq }
theorem ledger_Book_Reverse.j3000.fit (o : Out U) (y : (Int × Bool × Int × List Sapi_Entry × Speriod_Table × Int)) (h : ledger_Book_Reverse.j3000.re o = some y) : FitsO o (ledger_Book_Reverse.j3000.fin y) := by
  unfold ledger_Book_Reverse.j3000.re at h
  split at h
  · split at h
    · obtain ⟨w7000000000000_1, ew7000000000000_1, h1⟩ := Option.bind_eq_some_iff.1 h
      obtain ⟨w7000000000000_t, ew7000000000000_t, h2⟩ := Option.bind_eq_some_iff.1 h1
      cases h2
      refine fitsO_norm (fits_ren [(700102300000001, w7000000000000_1.1)] ?_ ?_ ren_one rfl)
      · exact List.forall_mem_cons.2 ⟨FV.one (FV.ptr (by assumption)), List.forall_mem_cons.2 ⟨FV.one (FV.ptr (by assumption)), List.forall_mem_cons.2 ⟨FV.one (FV.ptr (by assumption)), List.forall_mem_cons.2 ⟨FV.one (FV.same (by assumption) rfl), List.forall_mem_cons.2 ⟨FV.one (FV.same (by assumption) rfl), fun _ hp => (List.not_mem_nil hp).elim⟩⟩⟩⟩⟩
      · exact List.forall_mem_cons.2 ⟨(FO.cells (show lk (St.o _) 7000000000000 = some _ from by assumption) (FCs.cons (c0_same rfl rfl) (FCs.cons ((tip_Sapi_Entry_fit ew7000000000000_1 rfl).1) (FCs.tail (Cd.full_ok ew7000000000000_t) rfl)))), List.forall_mem_cons.2 ⟨(tip_Sapi_Entry_fit ew7000000000000_1 rfl).2, List.forall_mem_cons.2 ⟨(FO.same (show lk (St.o _) 4 = some _ from by assumption) rfl), fun _ hp => (List.not_mem_nil hp).elim⟩⟩⟩
    · cases h
  · cases h
noncomputable def ledger_Book_Reverse.j5000.fin (y : (Int × Int × Bool × Int × List Sapi_Entry × Speriod_Table)) : Out U := match y with | (x59, x60, x61, x32, x33, x58) => .norm ⟨[(0, .ptr 7000000000000 0), (1000000000000000, .ptr 7000000000000 0), (2, .flat (.int .i64 x59)), (4, .rp [.flat (.int .i64 x60)] 0), (23, .flat (.bool x61))], [(7000000000000, .lit ((.flat (.int .i64 x32)) :: (.tip 700102500000001 C.Sapi_Entry x33) :: cd_Speriod_Table.enc x58)), (700102500000001, .tip 3)]⟩
noncomputable def ledger_Book_Reverse.j5000.finK {ρ : Type} (y : (Int × Int × Bool × Int × List Sapi_Entry × Speriod_Table)) (K : Out U → Option ρ) : Option ρ := match y with | (x59, x60, x61, x32, x33, x58) => K (.norm ⟨[(0, .ptr 7000000000000 0), (1000000000000000, .ptr 7000000000000 0), (2, .flat (.int .i64 x59)), (4, .rp [.flat (.int .i64 x60)] 0), (23, .flat (.bool x61))], [(7000000000000, .lit ((.flat (.int .i64 x32)) :: (.tip 700102500000001 C.Sapi_Entry x33) :: cd_Speriod_Table.enc x58)), (700102500000001, .tip 3)]⟩)
theorem ledger_Book_Reverse.j5000.finK_eq {ρ : Type} (y : (Int × Int × Bool × Int × List Sapi_Entry × Speriod_Table)) (K : Out U → Option ρ) : ledger_Book_Reverse.j5000.finK y K = K (ledger_Book_Reverse.j5000.fin y) := by
  unfold ledger_Book_Reverse.j5000.finK ledger_Book_Reverse.j5000.fin
  first | rfl | (split <;> rfl)
noncomputable def ledger_Book_Reverse.j5000.re : Out U → Option ((Int × Int × Bool × Int × List Sapi_Entry × Speriod_Table)) | .norm s => (match s.get 0, s.get 1000000000000000, s.get 2, s.get 4, s.get 23, lk s.o 7000000000000 with | .ptr 7000000000000 0, .ptr 7000000000000 0, .flat (.int .i64 x59), .rp [.flat (.int .i64 x60)] 0, .flat (.bool x61), some (.lit (.flat (.int .i64 x32) :: u7000000000000_1 :: u7000000000000_t)) => (tip_Sapi_Entry s.o 3 u7000000000000_1).bind fun w7000000000000_1 => ((cd_Speriod_Table.full u7000000000000_t).bind fun w7000000000000_t => (some (x59, x60, x61, x32, w7000000000000_1.2, w7000000000000_t))) | _, _, _, _, _, _ => none) | _ => none
noncomputable def ledger_Book_Reverse.j5000.J : JDen U := { Y := (Int × Int × Bool × Int × List Sapi_Entry × Speriod_Table), re := ledger_Book_Reverse.j5000.re, fin := ledger_Book_Reverse.j5000.fin, finK := ledger_Book_Reverse.j5000.finK, finK_eq := ledger_Book_Reverse.j5000.finK_eq }
theorem ledger_Book_Reverse.j5000.fit (o : Out U) (y : (Int × Int × Bool × Int × List Sapi_Entry × Speriod_Table)) (h : ledger_Book_Reverse.j5000.re o = some y) : FitsO o (ledger_Book_Reverse.j5000.fin y) := by
  unfold ledger_Book_Reverse.j5000.re at h
  split at h
  · split at h
    · obtain ⟨w7000000000000_1, ew7000000000000_1, h1⟩ := Option.bind_eq_some_iff.1 h
      obtain ⟨w7000000000000_t, ew7000000000000_t, h2⟩ := Option.bind_eq_some_iff.1 h1
      cases h2
      refine fitsO_norm (fits_ren [(700102500000001, w7000000000000_1.1)] ?_ ?_ ren_one rfl)
      · exact List.forall_mem_cons.2 ⟨FV.one (FV.ptr (by assumption)), List.forall_mem_cons.2 ⟨FV.one (FV.ptr (by assumption)), List.forall_mem_cons.2 ⟨FV.one (FV.same (by assumption) rfl), List.forall_mem_cons.2 ⟨FV.one (FV.same (by assumption) rfl), List.forall_mem_cons.2 ⟨FV.one (FV.same (by assumption) rfl), fun _ hp => (List.not_mem_nil hp).elim⟩⟩⟩⟩⟩
      · exact List.forall_mem_cons.2 ⟨(FO.cells (show lk (St.o _) 7000000000000 = some _ from by assumption) (FCs.cons (c0_same rfl rfl) (FCs.cons ((tip_Sapi_Entry_fit ew7000000000000_1 rfl).1) (FCs.tail (Cd.full_ok ew7000000000000_t) rfl)))), List.forall_mem_cons.2 ⟨(tip_Sapi_Entry_fit ew7000000000000_1 rfl).2, fun _ hp => (List.not_mem_nil hp).elim⟩⟩
    · cases h
  · cases h
noncomputable def ledger_Book_Reverse.jl : List (Nat × JDen U) := [(3000, ledger_Book_Reverse.j3000.J), (5000, ledger_Book_Reverse.j5000.J)]
noncomputable def ledger_Book_Reverse.fl (k : Nat) : List (Nat × FDen U) := [(79, slices_ContainsFunc_api_Entry_c80.D k), (81, entry_Turned.D k), (72, ledger_Book_add.D k)]
noncomputable def ledger_Book_Reverse.ll (k : Nat) : List (Nat × LDen U) := []
noncomputable def ledger_Book_Reverse.E (k : Nat) : Env U := { P := Try.prog, D := DD, fd := lk (ledger_Book_Reverse.fl k), ld := lk (ledger_Book_Reverse.ll k), jd := lk ledger_Book_Reverse.jl, mode := lk [], elc := lk ec, mpc := lk mc, rts := Try.f34.resultTypes.toList, dyn := fun t => false, vecs := fun d => false, results := Try.f34.results.toList, gh := [0], own := false, io := fun g i => false }
theorem ledger_Book_Reverse.ok (k : Nat) : EnvOk (ledger_Book_Reverse.E k) := envOk lawful (ledger_Book_Reverse.fl k) (ledger_Book_Reverse.ll k) ledger_Book_Reverse.jl _ _ _ _ _ _ _ _ _ _ (by
  intro p hp
  simp only [ledger_Book_Reverse.fl, List.mem_cons, List.not_mem_nil, or_false] at hp
  rcases hp with rfl | rfl | rfl
  · exact ⟨slices_ContainsFunc_api_Entry_c80.sound k, enter_of Try.func79 (by kernel_rfl) (by kernel_rfl)⟩
  · exact ⟨entry_Turned.sound k, enter_of Try.func81 (by kernel_rfl) (by kernel_rfl)⟩
  · exact ⟨ledger_Book_add.sound k, enter_of Try.func72 (by kernel_rfl) (by kernel_rfl)⟩) (by
  intro p hp
  simp only [ledger_Book_Reverse.jl, List.mem_cons, List.not_mem_nil, or_false] at hp
  rcases hp with rfl | rfl
  · exact ledger_Book_Reverse.j3000.fit
  · exact ledger_Book_Reverse.j5000.fit)
theorem ledger_Book_Reverse.eq (k : Nat) (x : (Sledger_Book × Int × Int)) : runF (ledger_Book_Reverse.E k) (codeOf Try.f34) (ledger_Book_Reverse.mk x) ledger_Book_Reverse.re = (ledger_Book_Reverse.D k).f x := by kernel_rfl
theorem ledger_Book_Reverse.fit (s : St U) (x : (Sledger_Book × Int × Int)) (h : ledger_Book_Reverse.un s = some x) : Fits s (ledger_Book_Reverse.mk x) := by
  unfold ledger_Book_Reverse.un at h
  split at h
  · obtain ⟨ex2, hex2, hh1⟩ := Option.bind_eq_some_iff.1 h
    obtain ⟨x4, hx4, hh2⟩ := Option.bind_eq_some_iff.1 hh1
    cases hh2
    refine fits_ren [(7000000000002, ex2.1)] ?_ ?_ ren_one rfl
    · exact List.forall_mem_cons.2 ⟨FV.one (FV.ptr (by assumption)), List.forall_mem_cons.2 ⟨FV.one (FV.same (by assumption) rfl), List.forall_mem_cons.2 ⟨FV.one (FV.same (by assumption) rfl), List.forall_mem_cons.2 ⟨FV.one (FV.ptr (by assumption)), fun _ hp => (List.not_mem_nil hp).elim⟩⟩⟩⟩
    · exact List.forall_mem_cons.2 ⟨FO.cells (show lk (St.o _) 7000000000000 = some _ from by assumption) (FCs.cons (c0_same rfl rfl) (FCs.cons ((tip_Sapi_Entry_fit hex2 rfl).1) (FCs.tail (Cd.full_ok hx4) rfl))), List.forall_mem_cons.2 ⟨(tip_Sapi_Entry_fit hex2 rfl).2, fun _ hp => (List.not_mem_nil hp).elim⟩⟩
  · cases h
theorem ledger_Book_Reverse.fitR (s : St U) (y : (Int × Int × Sledger_Book)) (h : ledger_Book_Reverse.re s = some y) : Fits s (ledger_Book_Reverse.fin y) := by
  unfold ledger_Book_Reverse.re at h
  split at h
  · obtain ⟨ex4, hex4, hh1⟩ := Option.bind_eq_some_iff.1 h
    obtain ⟨x6, hx6, hh2⟩ := Option.bind_eq_some_iff.1 hh1
    cases hh2
    refine fits_ren [(7000000000002, ex4.1)] ?_ ?_ ren_one rfl
    · exact List.forall_mem_cons.2 ⟨FV.tup (by assumption) (FTs.cons (FVA.one (FV.same rfl rfl)) (FTs.cons (FVA.one (FV.same rfl rfl)) (FTs.nil))), List.forall_mem_cons.2 ⟨FV.one (FV.ptr (by assumption)), fun _ hp => (List.not_mem_nil hp).elim⟩⟩
    · exact List.forall_mem_cons.2 ⟨FO.cells (show lk (St.o _) 7000000000000 = some _ from by assumption) (FCs.cons (c0_same rfl rfl) (FCs.cons ((tip_Sapi_Entry_fit hex4 rfl).1) (FCs.tail (Cd.full_ok hx6) rfl))), List.forall_mem_cons.2 ⟨(tip_Sapi_Entry_fit hex4 rfl).2, fun _ hp => (List.not_mem_nil hp).elim⟩⟩
  · cases h
theorem ledger_Book_Reverse.sound (k : Nat) : Sound Try.prog DD 34 (ledger_Book_Reverse.D k) :=
  fun_sound (E := ledger_Book_Reverse.E k) (fn := Try.f34) (c := codeOf Try.f34) (ledger_Book_Reverse.ok k) mixed rfl Try.func34 (by kernel_rfl) (by kernel_rfl) (allL_of (l := []) (by kernel_rfl) allL_nil) (ledger_Book_Reverse.D k) ledger_Book_Reverse.mk ledger_Book_Reverse.re (by kernel_rfl) (by kernel_rfl) ledger_Book_Reverse.fit ledger_Book_Reverse.fitR (ledger_Book_Reverse.eq k)
/-! ### pyx/pyxlaw14.same: function 32 -/
noncomputable def pyxlaw14_same.l9.once (k : Nat) (x : (List Sapi_Entry × List Sapi_Entry × Int × Int × Int × Int × Int)) : Option ((List Sapi_Entry × List Sapi_Entry × Int × Int × Int × Int × Int) ⊕ ((List Sapi_Entry × List Sapi_Entry × Int × Int) ⊕ Bool)) := match x with | (x12, x13, x14, x15, x16, x17, x18) => cond (decide (x18 < x17)) (cond (inb x14 (List.length x12)) (cond (inb x18 (List.length ((List.getD x12 (Int.toNat x14) Sapi_Entry.zero).f_Lines))) (cond (inb x14 (List.length x13)) (cond (inb x18 (List.length ((List.getD x13 (Int.toNat x14) Sapi_Entry.zero).f_Lines))) (cond (!((((List.getD ((List.getD x12 (Int.toNat x14) Sapi_Entry.zero).f_Lines) (Int.toNat x18) Sapi_Line.zero).f_Acct) == ((List.getD ((List.getD x13 (Int.toNat x14) Sapi_Entry.zero).f_Lines) (Int.toNat x18) Sapi_Line.zero).f_Acct)) && (((((List.getD ((List.getD x12 (Int.toNat x14) Sapi_Entry.zero).f_Lines) (Int.toNat x18) Sapi_Line.zero).f_Amount).f_Neg) == (((List.getD ((List.getD x13 (Int.toNat x14) Sapi_Entry.zero).f_Lines) (Int.toNat x18) Sapi_Line.zero).f_Amount).f_Neg)) && ((((((List.getD ((List.getD x12 (Int.toNat x14) Sapi_Entry.zero).f_Lines) (Int.toNat x18) Sapi_Line.zero).f_Amount).f_C).1) == ((((List.getD ((List.getD x13 (Int.toNat x14) Sapi_Entry.zero).f_Lines) (Int.toNat x18) Sapi_Line.zero).f_Amount).f_C).1)) && ((((((List.getD ((List.getD x12 (Int.toNat x14) Sapi_Entry.zero).f_Lines) (Int.toNat x18) Sapi_Line.zero).f_Amount).f_C).2) == ((((List.getD ((List.getD x13 (Int.toNat x14) Sapi_Entry.zero).f_Lines) (Int.toNat x18) Sapi_Line.zero).f_Amount).f_C).2)) && (((((List.getD ((List.getD x12 (Int.toNat x14) Sapi_Entry.zero).f_Lines) (Int.toNat x18) Sapi_Line.zero).f_Amount).f_Scale) == (((List.getD ((List.getD x13 (Int.toNat x14) Sapi_Entry.zero).f_Lines) (Int.toNat x18) Sapi_Line.zero).f_Amount).f_Scale)) && (((List.getD ((List.getD x12 (Int.toNat x14) Sapi_Entry.zero).f_Lines) (Int.toNat x18) Sapi_Line.zero).f_With) == ((List.getD ((List.getD x13 (Int.toNat x14) Sapi_Entry.zero).f_Lines) (Int.toNat x18) Sapi_Line.zero).f_With)))))))) (some (.inr (.inr false))) (some (.inl (x12, x13, x14, x15, x16, x17, IntKind.wrap .i64 (x18 + 1))))) none) none) none) none) (some (.inr (.inl (x12, x13, x15, x16))))
noncomputable def pyxlaw14_same.l4.once (k : Nat) (x : (List Sapi_Entry × List Sapi_Entry × Int × Int)) : Option ((List Sapi_Entry × List Sapi_Entry × Int × Int) ⊕ (Unit ⊕ Bool)) := match x with | (x1, x2, x3, x4) => cond (decide (x4 < x3)) (((cond (inb x4 (List.length x1)) (cond (inb x4 (List.length x2)) (cond (((List.getD x1 (Int.toNat x4) Sapi_Entry.zero).f_Period) != ((List.getD x2 (Int.toNat x4) Sapi_Entry.zero).f_Period)) (some (x1, x2, x4, x3, x4, true)) (cond (inb x4 (List.length x1)) (cond (inb x4 (List.length x2)) (cond (((List.getD x1 (Int.toNat x4) Sapi_Entry.zero).f_Of) != ((List.getD x2 (Int.toNat x4) Sapi_Entry.zero).f_Of)) (some (x1, x2, x4, x3, x4, true)) (cond (inb x4 (List.length x1)) (cond (inb x4 (List.length x2)) (some (x1, x2, x4, x3, x4, (List.length ((List.getD x1 (Int.toNat x4) Sapi_Entry.zero).f_Lines) : Int) != (List.length ((List.getD x2 (Int.toNat x4) Sapi_Entry.zero).f_Lines) : Int))) none) none)) none) none)) none) none) : Option (List Sapi_Entry × List Sapi_Entry × Int × Int × Int × Bool)).bind fun y11 => (cond (y11.2.2.2.2.2) (some (.inr (.inr false))) (cond (inb y11.2.2.1 (List.length y11.1)) ((iter (pyxlaw14_same.l9.once k) k (y11.1, y11.2.1, y11.2.2.1, y11.2.2.2.1, y11.2.2.2.2.1, (List.length ((List.getD y11.1 (Int.toNat y11.2.2.1) Sapi_Entry.zero).f_Lines) : Int), 0)).bind fun | .inl y24 => (some (.inl (y24.1, y24.2.1, y24.2.2.1, IntKind.wrap .i64 (y24.2.2.2 + 1)))) | .inr y25 => (some (.inr (.inr y25)))) none))) (some (.inr (.inl ())))
noncomputable def pyxlaw14_same.f (k : Nat) (a0 : List Sapi_Entry) (a1 : List Sapi_Entry) : Option Bool := cond ((List.length a0 : Int) != (List.length a1 : Int)) (some false) ((iter (pyxlaw14_same.l4.once k) k (a0, a1, (List.length a0 : Int), 0)).bind fun | .inl y27 => (some true) | .inr y28 => (some y28))
noncomputable def pyxlaw14_same.un (s : St U) : Option (List Sapi_Entry × List Sapi_Entry) := match s.get 0, s.get 1 with | .row C.Sapi_Entry x1, .row C.Sapi_Entry x2 => some (x1, x2) | _, _ => none
noncomputable def pyxlaw14_same.mk (x : (List Sapi_Entry × List Sapi_Entry)) : St U := ⟨[(0, .row C.Sapi_Entry x.1), (1, .row C.Sapi_Entry x.2)], []⟩
noncomputable def pyxlaw14_same.fin (y : Bool) : St U := ⟨[(0, .flat (.bool y))], []⟩
noncomputable def pyxlaw14_same.D (k : Nat) : FDen U := { X := (List Sapi_Entry × List Sapi_Entry), Y := Bool, nt := 84, gh := [], un := pyxlaw14_same.un, f := fun x => pyxlaw14_same.f k (x.1) (x.2), fin := pyxlaw14_same.fin, cl := true, clo := fun _ _ => rfl }
noncomputable def pyxlaw14_same.re (s : St U) : Option Bool := match s.get 0 with | .flat (.bool x1) => some x1 | _ => none
noncomputable def pyxlaw14_same.l9.mk (x : (List Sapi_Entry × List Sapi_Entry × Int × Int × Int × Int × Int)) : St U := match x with | (x12, x13, x14, x15, x16, x17, x18) => ⟨[(0, .row C.Sapi_Entry x12), (1, .row C.Sapi_Entry x13), (5, .flat (.int .i64 x14)), (13, .flat (.int .i64 x15)), (14, .flat (.int .i64 x16)), (61, .flat (.int .i64 x17)), (62, .flat (.int .i64 x18))], []⟩
noncomputable def pyxlaw14_same.l9.un (s : St U) : Option (List Sapi_Entry × List Sapi_Entry × Int × Int × Int × Int × Int) := (row_Sapi_Entry (s.get 0)).bind fun q0 => ((row_Sapi_Entry (s.get 1)).bind fun q1 => (match s.get 5, s.get 13, s.get 14, s.get 61, s.get 62 with | .flat (.int .i64 x14), .flat (.int .i64 x15), .flat (.int .i64 x16), .flat (.int .i64 x17), .flat (.int .i64 x18) => some (q0, q1, x14, x15, x16, x17, x18) | _, _, _, _, _ => none))
noncomputable def pyxlaw14_same.l9.fin (y : (List Sapi_Entry × List Sapi_Entry × Int × Int) ⊕ Bool) : Out U := match y with | .inl (x19, x20, x21, x22) => .exit 2 ⟨[(0, .row C.Sapi_Entry x19), (1, .row C.Sapi_Entry x20), (13, .flat (.int .i64 x21)), (14, .flat (.int .i64 x22))], []⟩ | .inr z => .ret (⟨[(0, .flat (.bool z))], []⟩)
noncomputable def pyxlaw14_same.l9.finK {ρ : Type} (y : (List Sapi_Entry × List Sapi_Entry × Int × Int) ⊕ Bool) (K : Out U → Option ρ) : Option ρ := match y with | .inl (x19, x20, x21, x22) => K (.exit 2 ⟨[(0, .row C.Sapi_Entry x19), (1, .row C.Sapi_Entry x20), (13, .flat (.int .i64 x21)), (14, .flat (.int .i64 x22))], []⟩) | .inr z => K (.ret (⟨[(0, .flat (.bool z))], []⟩))
theorem pyxlaw14_same.l9.finK_eq {ρ : Type} (y : (List Sapi_Entry × List Sapi_Entry × Int × Int) ⊕ Bool) (K : Out U → Option ρ) : pyxlaw14_same.l9.finK y K = K (pyxlaw14_same.l9.fin y) := by
  unfold pyxlaw14_same.l9.finK pyxlaw14_same.l9.fin
  first | rfl | (split <;> rfl)
noncomputable def pyxlaw14_same.l9.re : Out U → Option ((List Sapi_Entry × List Sapi_Entry × Int × Int) ⊕ Bool) | .exit 2 s => ((row_Sapi_Entry (s.get 0)).bind fun q0 => ((row_Sapi_Entry (s.get 1)).bind fun q1 => (match s.get 13, s.get 14 with | .flat (.int .i64 x21), .flat (.int .i64 x22) => some (.inl (q0, q1, x21, x22)) | _, _ => none))) | .ret s => (match s.get 0 with | .flat (.bool x1) => some (.inr x1) | _ => none) | _ => none
noncomputable def pyxlaw14_same.l9.L (k : Nat) : LDen U := { X := (List Sapi_Entry × List Sapi_Entry × Int × Int × Int × Int × Int), Y := (List Sapi_Entry × List Sapi_Entry × Int × Int) ⊕ Bool, un := pyxlaw14_same.l9.un, f := iter (pyxlaw14_same.l9.once k) k, fin := pyxlaw14_same.l9.fin, finK := pyxlaw14_same.l9.finK, finK_eq := pyxlaw14_same.l9.finK_eq }
noncomputable def pyxlaw14_same.l4.mk (x : (List Sapi_Entry × List Sapi_Entry × Int × Int)) : St U := match x with | (x1, x2, x3, x4) => ⟨[(0, .row C.Sapi_Entry x1), (1, .row C.Sapi_Entry x2), (13, .flat (.int .i64 x3)), (14, .flat (.int .i64 x4))], []⟩
noncomputable def pyxlaw14_same.l4.un (s : St U) : Option (List Sapi_Entry × List Sapi_Entry × Int × Int) := (row_Sapi_Entry (s.get 0)).bind fun q0 => ((row_Sapi_Entry (s.get 1)).bind fun q1 => (match s.get 13, s.get 14 with | .flat (.int .i64 x3), .flat (.int .i64 x4) => some (q0, q1, x3, x4) | _, _ => none))
noncomputable def pyxlaw14_same.l4.fin (y : Unit ⊕ Bool) : Out U := match y with | .inl () => .exit 0 ⟨[], []⟩ | .inr z => .ret (⟨[(0, .flat (.bool z))], []⟩)
noncomputable def pyxlaw14_same.l4.finK {ρ : Type} (y : Unit ⊕ Bool) (K : Out U → Option ρ) : Option ρ := match y with | .inl () => K (.exit 0 ⟨[], []⟩) | .inr z => K (.ret (⟨[(0, .flat (.bool z))], []⟩))
theorem pyxlaw14_same.l4.finK_eq {ρ : Type} (y : Unit ⊕ Bool) (K : Out U → Option ρ) : pyxlaw14_same.l4.finK y K = K (pyxlaw14_same.l4.fin y) := by
  unfold pyxlaw14_same.l4.finK pyxlaw14_same.l4.fin
  first | rfl | (split <;> rfl)
noncomputable def pyxlaw14_same.l4.re : Out U → Option (Unit ⊕ Bool) | .exit 0 s => (some (.inl ())) | .ret s => (match s.get 0 with | .flat (.bool x1) => some (.inr x1) | _ => none) | _ => none
noncomputable def pyxlaw14_same.l4.L (k : Nat) : LDen U := { X := (List Sapi_Entry × List Sapi_Entry × Int × Int), Y := Unit ⊕ Bool, un := pyxlaw14_same.l4.un, f := iter (pyxlaw14_same.l4.once k) k, fin := pyxlaw14_same.l4.fin, finK := pyxlaw14_same.l4.finK, finK_eq := pyxlaw14_same.l4.finK_eq }
noncomputable def pyxlaw14_same.j6000.fin (y : (List Sapi_Entry × List Sapi_Entry × Int × Int × Int × Bool)) : Out U := match y with | (x5, x6, x7, x8, x9, x10) => .norm ⟨[(0, .row C.Sapi_Entry x5), (1, .row C.Sapi_Entry x6), (5, .flat (.int .i64 x7)), (13, .flat (.int .i64 x8)), (14, .flat (.int .i64 x9)), (55, .flat (.bool x10))], []⟩
noncomputable def pyxlaw14_same.j6000.finK {ρ : Type} (y : (List Sapi_Entry × List Sapi_Entry × Int × Int × Int × Bool)) (K : Out U → Option ρ) : Option ρ := match y with | (x5, x6, x7, x8, x9, x10) => K (.norm ⟨[(0, .row C.Sapi_Entry x5), (1, .row C.Sapi_Entry x6), (5, .flat (.int .i64 x7)), (13, .flat (.int .i64 x8)), (14, .flat (.int .i64 x9)), (55, .flat (.bool x10))], []⟩)
theorem pyxlaw14_same.j6000.finK_eq {ρ : Type} (y : (List Sapi_Entry × List Sapi_Entry × Int × Int × Int × Bool)) (K : Out U → Option ρ) : pyxlaw14_same.j6000.finK y K = K (pyxlaw14_same.j6000.fin y) := by
  unfold pyxlaw14_same.j6000.finK pyxlaw14_same.j6000.fin
  first | rfl | (split <;> rfl)
noncomputable def pyxlaw14_same.j6000.re : Out U → Option ((List Sapi_Entry × List Sapi_Entry × Int × Int × Int × Bool)) | .norm s => ((row_Sapi_Entry (s.get 0)).bind fun q0 => ((row_Sapi_Entry (s.get 1)).bind fun q1 => (match s.get 5, s.get 13, s.get 14, s.get 55 with | .flat (.int .i64 x7), .flat (.int .i64 x8), .flat (.int .i64 x9), .flat (.bool x10) => some (q0, q1, x7, x8, x9, x10) | _, _, _, _ => none))) | _ => none
noncomputable def pyxlaw14_same.j6000.J : JDen U := { Y := (List Sapi_Entry × List Sapi_Entry × Int × Int × Int × Bool), re := pyxlaw14_same.j6000.re, fin := pyxlaw14_same.j6000.fin, finK := pyxlaw14_same.j6000.finK, finK_eq := pyxlaw14_same.j6000.finK_eq }
theorem pyxlaw14_same.j6000.fit (o : Out U) (y : (List Sapi_Entry × List Sapi_Entry × Int × Int × Int × Bool)) (h : pyxlaw14_same.j6000.re o = some y) : FitsO o (pyxlaw14_same.j6000.fin y) := by
  unfold pyxlaw14_same.j6000.re at h
  split at h
  · obtain ⟨q0, eq0, h1⟩ := Option.bind_eq_some_iff.1 h
    obtain ⟨q1, eq1, h2⟩ := Option.bind_eq_some_iff.1 h1
    split at h2
    · cases h2
      refine fitsO_norm (fits_ren [] ?_ ?_ ren_nil rfl)
      · exact List.forall_mem_cons.2 ⟨FV.one (row_Sapi_Entry_fit eq0), List.forall_mem_cons.2 ⟨FV.one (row_Sapi_Entry_fit eq1), List.forall_mem_cons.2 ⟨FV.one (FV.same (by assumption) rfl), List.forall_mem_cons.2 ⟨FV.one (FV.same (by assumption) rfl), List.forall_mem_cons.2 ⟨FV.one (FV.same (by assumption) rfl), List.forall_mem_cons.2 ⟨FV.one (FV.same (by assumption) rfl), fun _ hp => (List.not_mem_nil hp).elim⟩⟩⟩⟩⟩⟩
      · exact fun _ hp => (List.not_mem_nil hp).elim
    · cases h2
  · cases h
noncomputable def pyxlaw14_same.jl : List (Nat × JDen U) := [(6000, pyxlaw14_same.j6000.J)]
noncomputable def pyxlaw14_same.fl (k : Nat) : List (Nat × FDen U) := []
noncomputable def pyxlaw14_same.ll (k : Nat) : List (Nat × LDen U) := [(9, pyxlaw14_same.l9.L k), (4, pyxlaw14_same.l4.L k)]
noncomputable def pyxlaw14_same.E (k : Nat) : Env U := { P := Try.prog, D := DD, fd := lk (pyxlaw14_same.fl k), ld := lk (pyxlaw14_same.ll k), jd := lk pyxlaw14_same.jl, mode := lk [], elc := lk ec, mpc := lk mc, rts := Try.f32.resultTypes.toList, dyn := fun t => false, vecs := fun d => false, results := Try.f32.results.toList, gh := [], own := false, io := fun g i => false }
theorem pyxlaw14_same.ok (k : Nat) : EnvOk (pyxlaw14_same.E k) := envOk lawful (pyxlaw14_same.fl k) (pyxlaw14_same.ll k) pyxlaw14_same.jl _ _ _ _ _ _ _ _ _ _ (by
  intro p hp
  simp [pyxlaw14_same.fl] at hp) (by
  intro p hp
  simp only [pyxlaw14_same.jl, List.mem_cons, List.not_mem_nil, or_false] at hp
  rcases hp with rfl
  · exact pyxlaw14_same.j6000.fit)
theorem pyxlaw14_same.l9.eq (k : Nat) (x : (List Sapi_Entry × List Sapi_Entry × Int × Int × Int × Int × Int)) : evC (pyxlaw14_same.E k) (loopAt Try.f32 9) (pyxlaw14_same.l9.mk x) (headK pyxlaw14_same.l9.un pyxlaw14_same.l9.re) = pyxlaw14_same.l9.once k x := by kernel_rfl
theorem pyxlaw14_same.l9.fit (s : St U) (x : (List Sapi_Entry × List Sapi_Entry × Int × Int × Int × Int × Int)) (h : pyxlaw14_same.l9.un s = some x) : Fits s (pyxlaw14_same.l9.mk x) := by
  unfold pyxlaw14_same.l9.un at h
  obtain ⟨q0, eq0, h1⟩ := Option.bind_eq_some_iff.1 h
  obtain ⟨q1, eq1, h2⟩ := Option.bind_eq_some_iff.1 h1
  split at h2
  · cases h2
    refine fits_ren [] ?_ ?_ ren_nil rfl
    · exact List.forall_mem_cons.2 ⟨FV.one (row_Sapi_Entry_fit eq0), List.forall_mem_cons.2 ⟨FV.one (row_Sapi_Entry_fit eq1), List.forall_mem_cons.2 ⟨FV.one (FV.same (by assumption) rfl), List.forall_mem_cons.2 ⟨FV.one (FV.same (by assumption) rfl), List.forall_mem_cons.2 ⟨FV.one (FV.same (by assumption) rfl), List.forall_mem_cons.2 ⟨FV.one (FV.same (by assumption) rfl), List.forall_mem_cons.2 ⟨FV.one (FV.same (by assumption) rfl), fun _ hp => (List.not_mem_nil hp).elim⟩⟩⟩⟩⟩⟩⟩
    · exact fun _ hp => (List.not_mem_nil hp).elim
  · cases h2
theorem pyxlaw14_same.l9.fitO (o : Out U) (y : (List Sapi_Entry × List Sapi_Entry × Int × Int) ⊕ Bool) (h : pyxlaw14_same.l9.re o = some y) : FitsO o (pyxlaw14_same.l9.fin y) := by
  unfold pyxlaw14_same.l9.re at h
  split at h
  · obtain ⟨q0, eq0, h1⟩ := Option.bind_eq_some_iff.1 h
    obtain ⟨q1, eq1, h2⟩ := Option.bind_eq_some_iff.1 h1
    split at h2
    · cases h2
      refine fitsO_exit (fits_ren [] ?_ ?_ ren_nil rfl)
      · exact List.forall_mem_cons.2 ⟨FV.one (row_Sapi_Entry_fit eq0), List.forall_mem_cons.2 ⟨FV.one (row_Sapi_Entry_fit eq1), List.forall_mem_cons.2 ⟨FV.one (FV.same (by assumption) rfl), List.forall_mem_cons.2 ⟨FV.one (FV.same (by assumption) rfl), fun _ hp => (List.not_mem_nil hp).elim⟩⟩⟩⟩
      · exact fun _ hp => (List.not_mem_nil hp).elim
    · cases h2
  · split at h
    · cases h
      refine fitsO_ret (fits_ren [] ?_ ?_ ren_nil rfl)
      · exact List.forall_mem_cons.2 ⟨FV.one (FV.same (by assumption) rfl), fun _ hp => (List.not_mem_nil hp).elim⟩
      · exact fun _ hp => (List.not_mem_nil hp).elim
    · cases h
  · cases h
theorem pyxlaw14_same.l9.sound (k : Nat) : LSound (pyxlaw14_same.E k) Try.f32.ntmps Try.f32 (loopAt Try.f32 9) (pyxlaw14_same.l9.L k) :=
  loop_sound (pyxlaw14_same.ok k) mixed rfl (by kernel_rfl) (allL_of (l := []) (by kernel_rfl) allL_nil) pyxlaw14_same.l9.un pyxlaw14_same.l9.mk pyxlaw14_same.l9.fin pyxlaw14_same.l9.re (pyxlaw14_same.l9.once k) k pyxlaw14_same.l9.fit pyxlaw14_same.l9.fitO (pyxlaw14_same.l9.eq k) pyxlaw14_same.l9.finK pyxlaw14_same.l9.finK_eq
theorem pyxlaw14_same.l4.eq (k : Nat) (x : (List Sapi_Entry × List Sapi_Entry × Int × Int)) : evC (pyxlaw14_same.E k) (loopAt Try.f32 4) (pyxlaw14_same.l4.mk x) (headK pyxlaw14_same.l4.un pyxlaw14_same.l4.re) = pyxlaw14_same.l4.once k x := by kernel_rfl
theorem pyxlaw14_same.l4.fit (s : St U) (x : (List Sapi_Entry × List Sapi_Entry × Int × Int)) (h : pyxlaw14_same.l4.un s = some x) : Fits s (pyxlaw14_same.l4.mk x) := by
  unfold pyxlaw14_same.l4.un at h
  obtain ⟨q0, eq0, h1⟩ := Option.bind_eq_some_iff.1 h
  obtain ⟨q1, eq1, h2⟩ := Option.bind_eq_some_iff.1 h1
  split at h2
  · cases h2
    refine fits_ren [] ?_ ?_ ren_nil rfl
    · exact List.forall_mem_cons.2 ⟨FV.one (row_Sapi_Entry_fit eq0), List.forall_mem_cons.2 ⟨FV.one (row_Sapi_Entry_fit eq1), List.forall_mem_cons.2 ⟨FV.one (FV.same (by assumption) rfl), List.forall_mem_cons.2 ⟨FV.one (FV.same (by assumption) rfl), fun _ hp => (List.not_mem_nil hp).elim⟩⟩⟩⟩
    · exact fun _ hp => (List.not_mem_nil hp).elim
  · cases h2
theorem pyxlaw14_same.l4.fitO (o : Out U) (y : Unit ⊕ Bool) (h : pyxlaw14_same.l4.re o = some y) : FitsO o (pyxlaw14_same.l4.fin y) := by
  unfold pyxlaw14_same.l4.re at h
  split at h
  · cases h
    refine fitsO_exit (fits_ren [] ?_ ?_ ren_nil rfl)
    · exact fun _ hp => (List.not_mem_nil hp).elim
    · exact fun _ hp => (List.not_mem_nil hp).elim
  · split at h
    · cases h
      refine fitsO_ret (fits_ren [] ?_ ?_ ren_nil rfl)
      · exact List.forall_mem_cons.2 ⟨FV.one (FV.same (by assumption) rfl), fun _ hp => (List.not_mem_nil hp).elim⟩
      · exact fun _ hp => (List.not_mem_nil hp).elim
    · cases h
  · cases h
theorem pyxlaw14_same.l4.sound (k : Nat) : LSound (pyxlaw14_same.E k) Try.f32.ntmps Try.f32 (loopAt Try.f32 4) (pyxlaw14_same.l4.L k) :=
  loop_sound (pyxlaw14_same.ok k) mixed rfl (by kernel_rfl) (allL_of (l := [loopAt Try.f32 9]) (by kernel_rfl) (allL_cons (key := 9) (by kernel_rfl) rfl (pyxlaw14_same.l9.sound k) allL_nil)) pyxlaw14_same.l4.un pyxlaw14_same.l4.mk pyxlaw14_same.l4.fin pyxlaw14_same.l4.re (pyxlaw14_same.l4.once k) k pyxlaw14_same.l4.fit pyxlaw14_same.l4.fitO (pyxlaw14_same.l4.eq k) pyxlaw14_same.l4.finK pyxlaw14_same.l4.finK_eq
theorem pyxlaw14_same.eq (k : Nat) (x : (List Sapi_Entry × List Sapi_Entry)) : runF (pyxlaw14_same.E k) (codeOf Try.f32) (pyxlaw14_same.mk x) pyxlaw14_same.re = (pyxlaw14_same.D k).f x := by kernel_rfl
theorem pyxlaw14_same.fit (s : St U) (x : (List Sapi_Entry × List Sapi_Entry)) (h : pyxlaw14_same.un s = some x) : Fits s (pyxlaw14_same.mk x) := by
  unfold pyxlaw14_same.un at h
  split at h
  · cases h
    refine fits_ren [] ?_ ?_ ren_nil rfl
    · exact List.forall_mem_cons.2 ⟨FV.one (FV.same (by assumption) rfl), List.forall_mem_cons.2 ⟨FV.one (FV.same (by assumption) rfl), fun _ hp => (List.not_mem_nil hp).elim⟩⟩
    · exact fun _ hp => (List.not_mem_nil hp).elim
  · cases h
theorem pyxlaw14_same.fitR (s : St U) (y : Bool) (h : pyxlaw14_same.re s = some y) : Fits s (pyxlaw14_same.fin y) := by
  unfold pyxlaw14_same.re at h
  split at h
  · cases h
    refine fits_ren [] ?_ ?_ ren_nil rfl
    · exact List.forall_mem_cons.2 ⟨FV.one (FV.same (by assumption) rfl), fun _ hp => (List.not_mem_nil hp).elim⟩
    · exact fun _ hp => (List.not_mem_nil hp).elim
  · cases h
theorem pyxlaw14_same.sound (k : Nat) : Sound Try.prog DD 32 (pyxlaw14_same.D k) :=
  fun_sound (E := pyxlaw14_same.E k) (fn := Try.f32) (c := codeOf Try.f32) (pyxlaw14_same.ok k) mixed rfl Try.func32 (by kernel_rfl) (by kernel_rfl) (allL_of (l := [loopAt Try.f32 4]) (by kernel_rfl) (allL_cons (key := 4) (by kernel_rfl) rfl (pyxlaw14_same.l4.sound k) allL_nil)) (pyxlaw14_same.D k) pyxlaw14_same.mk pyxlaw14_same.re (by kernel_rfl) (by kernel_rfl) pyxlaw14_same.fit pyxlaw14_same.fitR (pyxlaw14_same.eq k)
/-! ### pyx/pyxlaw14.LedgerShut: function 8 -/
noncomputable def pyxlaw14_LedgerShut.l5.once (k : Nat) (x : (List Spyxhand_Act × Int × Int × Int × List Sapi_Entry × Speriod_Table)) : Option ((List Spyxhand_Act × Int × Int × Int × List Sapi_Entry × Speriod_Table) ⊕ (Unit ⊕ Bool)) := match x with | (x60, x61, x62, x33, x34, x59) => cond (decide (x62 < x61)) (cond (inb x62 (List.length x60)) ((pyxhand_Pick.f k ((List.getD x60 (Int.toNat x62) Spyxhand_Act.zero).f_B) 3).bind fun t63 => ((ledger_Book_Entries.f k (⟨x33, x34, (⟨pack 12 false x59.f_Closed, pack 12 0 x59.f_Version⟩ : Speriod_Table)⟩ : Sledger_Book)).bind fun t64 => ((ledger_Book_Periods.f k (⟨t64.2.f_scale, t64.2.f_l, (⟨pack 12 false t64.2.f_t.f_Closed, pack 12 0 t64.2.f_t.f_Version⟩ : Speriod_Table)⟩ : Sledger_Book)).bind fun t65 => ((pyxhand_Pick.f k ((List.getD x60 (Int.toNat x62) Spyxhand_Act.zero).f_What) 7).bind fun t66 => (((cond (t66 == 0) ((ledger_Book_Close.f k (⟨t65.2.f_scale, t65.2.f_l, (⟨pack 12 false t65.2.f_t.f_Closed, pack 12 0 t65.2.f_t.f_Version⟩ : Speriod_Table)⟩ : Sledger_Book) t63).bind fun t67 => (some (t63, t64.1, t67.1, x60, x61, x62, t67.2.f_scale, t67.2.f_l, (⟨pack 12 false t67.2.f_t.f_Closed, pack 12 0 t67.2.f_t.f_Version⟩ : Speriod_Table), (⟨pack 12 false t65.1.f_Closed, pack 12 0 t65.1.f_Version⟩ : Speriod_Table)))) (cond (t66 == 1) ((ledger_Book_Reopen.f k (⟨t65.2.f_scale, t65.2.f_l, (⟨pack 12 false t65.2.f_t.f_Closed, pack 12 0 t65.2.f_t.f_Version⟩ : Speriod_Table)⟩ : Sledger_Book) t63).bind fun t102 => (some (t63, t64.1, t102.1, x60, x61, x62, t102.2.f_scale, t102.2.f_l, (⟨pack 12 false t102.2.f_t.f_Closed, pack 12 0 t102.2.f_t.f_Version⟩ : Speriod_Table), (⟨pack 12 false t65.1.f_Closed, pack 12 0 t65.1.f_Version⟩ : Speriod_Table)))) (cond (t66 == 2) ((pyxhand_Pick.f k ((List.getD x60 (Int.toNat x62) Spyxhand_Act.zero).f_N) 6).bind fun t103 => ((ledger_Book_Reverse.f k (⟨t65.2.f_scale, t65.2.f_l, (⟨pack 12 false t65.2.f_t.f_Closed, pack 12 0 t65.2.f_t.f_Version⟩ : Speriod_Table)⟩ : Sledger_Book) t103 t63).bind fun t104 => (some (t63, t64.1, t104.2.1, x60, x61, x62, t104.2.2.f_scale, t104.2.2.f_l, (⟨pack 12 false t104.2.2.f_t.f_Closed, pack 12 0 t104.2.2.f_t.f_Version⟩ : Speriod_Table), (⟨pack 12 false t65.1.f_Closed, pack 12 0 t65.1.f_Version⟩ : Speriod_Table))))) ((pyxhand_Lines.f k ((List.getD x60 (Int.toNat x62) Spyxhand_Act.zero).f_L) 2 ((List.getD x60 (Int.toNat x62) Spyxhand_Act.zero).f_Bend) 4).bind fun t105 => ((ledger_Book_Post.f k (⟨t65.2.f_scale, t65.2.f_l, (⟨pack 12 false t65.2.f_t.f_Closed, pack 12 0 t65.2.f_t.f_Version⟩ : Speriod_Table)⟩ : Sledger_Book) t63 t105).bind fun t106 => (some (t63, t64.1, t106.2.1, x60, x61, x62, t106.2.2.f_scale, t106.2.2.f_l, (⟨pack 12 false t106.2.2.f_t.f_Closed, pack 12 0 t106.2.2.f_t.f_Version⟩ : Speriod_Table), (⟨pack 12 false t65.1.f_Closed, pack 12 0 t65.1.f_Version⟩ : Speriod_Table)))))))) : Option (Int × List Sapi_Entry × Int × List Spyxhand_Act × Int × Int × Int × List Sapi_Entry × Speriod_Table × Speriod_Table)).bind fun y107 => ((ledger_Book_Entries.f k (⟨y107.2.2.2.2.2.2.1, y107.2.2.2.2.2.2.2.1, (⟨pack 12 false y107.2.2.2.2.2.2.2.2.1.f_Closed, pack 12 0 y107.2.2.2.2.2.2.2.2.1.f_Version⟩ : Speriod_Table)⟩ : Sledger_Book)).bind fun t108 => (((cond (decide ((List.length t108.1 : Int) < (List.length y107.2.1 : Int))) (some (y107.2.2.2.1, y107.2.2.2.2.1, y107.2.2.2.2.2.1, true, t108.2.f_scale, t108.2.f_l, (⟨pack 12 false t108.2.f_t.f_Closed, pack 12 0 t108.2.f_t.f_Version⟩ : Speriod_Table))) (cond (y107.2.2.1 != 0) (cond ((List.length t108.1 : Int) != (List.length y107.2.1 : Int)) (some (y107.2.2.2.1, y107.2.2.2.2.1, y107.2.2.2.2.2.1, true, t108.2.f_scale, t108.2.f_l, (⟨pack 12 false t108.2.f_t.f_Closed, pack 12 0 t108.2.f_t.f_Version⟩ : Speriod_Table))) ((ledger_Book_Periods.f k (⟨t108.2.f_scale, t108.2.f_l, (⟨pack 12 false t108.2.f_t.f_Closed, pack 12 0 t108.2.f_t.f_Version⟩ : Speriod_Table)⟩ : Sledger_Book)).bind fun t140 => (cond (!(((List.getD t140.1.f_Closed 0 false) == (List.getD y107.2.2.2.2.2.2.2.2.2.f_Closed 0 false)) && (((List.getD t140.1.f_Closed 1 false) == (List.getD y107.2.2.2.2.2.2.2.2.2.f_Closed 1 false)) && (((List.getD t140.1.f_Closed 2 false) == (List.getD y107.2.2.2.2.2.2.2.2.2.f_Closed 2 false)) && (((List.getD t140.1.f_Closed 3 false) == (List.getD y107.2.2.2.2.2.2.2.2.2.f_Closed 3 false)) && (((List.getD t140.1.f_Closed 4 false) == (List.getD y107.2.2.2.2.2.2.2.2.2.f_Closed 4 false)) && (((List.getD t140.1.f_Closed 5 false) == (List.getD y107.2.2.2.2.2.2.2.2.2.f_Closed 5 false)) && (((List.getD t140.1.f_Closed 6 false) == (List.getD y107.2.2.2.2.2.2.2.2.2.f_Closed 6 false)) && (((List.getD t140.1.f_Closed 7 false) == (List.getD y107.2.2.2.2.2.2.2.2.2.f_Closed 7 false)) && (((List.getD t140.1.f_Closed 8 false) == (List.getD y107.2.2.2.2.2.2.2.2.2.f_Closed 8 false)) && (((List.getD t140.1.f_Closed 9 false) == (List.getD y107.2.2.2.2.2.2.2.2.2.f_Closed 9 false)) && (((List.getD t140.1.f_Closed 10 false) == (List.getD y107.2.2.2.2.2.2.2.2.2.f_Closed 10 false)) && (((List.getD t140.1.f_Closed 11 false) == (List.getD y107.2.2.2.2.2.2.2.2.2.f_Closed 11 false)) && (((List.getD t140.1.f_Version 0 0) == (List.getD y107.2.2.2.2.2.2.2.2.2.f_Version 0 0)) && (((List.getD t140.1.f_Version 1 0) == (List.getD y107.2.2.2.2.2.2.2.2.2.f_Version 1 0)) && (((List.getD t140.1.f_Version 2 0) == (List.getD y107.2.2.2.2.2.2.2.2.2.f_Version 2 0)) && (((List.getD t140.1.f_Version 3 0) == (List.getD y107.2.2.2.2.2.2.2.2.2.f_Version 3 0)) && (((List.getD t140.1.f_Version 4 0) == (List.getD y107.2.2.2.2.2.2.2.2.2.f_Version 4 0)) && (((List.getD t140.1.f_Version 5 0) == (List.getD y107.2.2.2.2.2.2.2.2.2.f_Version 5 0)) && (((List.getD t140.1.f_Version 6 0) == (List.getD y107.2.2.2.2.2.2.2.2.2.f_Version 6 0)) && (((List.getD t140.1.f_Version 7 0) == (List.getD y107.2.2.2.2.2.2.2.2.2.f_Version 7 0)) && (((List.getD t140.1.f_Version 8 0) == (List.getD y107.2.2.2.2.2.2.2.2.2.f_Version 8 0)) && (((List.getD t140.1.f_Version 9 0) == (List.getD y107.2.2.2.2.2.2.2.2.2.f_Version 9 0)) && (((List.getD t140.1.f_Version 10 0) == (List.getD y107.2.2.2.2.2.2.2.2.2.f_Version 10 0)) && ((List.getD t140.1.f_Version 11 0) == (List.getD y107.2.2.2.2.2.2.2.2.2.f_Version 11 0)))))))))))))))))))))))))) (some (y107.2.2.2.1, y107.2.2.2.2.1, y107.2.2.2.2.2.1, true, t140.2.f_scale, t140.2.f_l, (⟨pack 12 false t140.2.f_t.f_Closed, pack 12 0 t140.2.f_t.f_Version⟩ : Speriod_Table))) (cond (decide ((List.length t108.1 : Int) > (List.length y107.2.1 : Int))) (cond (inb y107.1 12) (cond (Nat.blt (Int.toNat y107.1) 12) (cond (List.getD (pack 12 false y107.2.2.2.2.2.2.2.2.2.f_Closed) (Int.toNat y107.1) false) (some (y107.2.2.2.1, y107.2.2.2.2.1, y107.2.2.2.2.2.1, true, t140.2.f_scale, t140.2.f_l, (⟨pack 12 false t140.2.f_t.f_Closed, pack 12 0 t140.2.f_t.f_Version⟩ : Speriod_Table))) (cond (inS 0 (List.length y107.2.1 : Int) (List.length t108.1)) ((pyxlaw14_same.f k (List.take (Int.toNat (List.length y107.2.1 : Int)) t108.1) y107.2.1).bind fun t141 => (some (y107.2.2.2.1, y107.2.2.2.2.1, y107.2.2.2.2.2.1, !t141, t140.2.f_scale, t140.2.f_l, (⟨pack 12 false t140.2.f_t.f_Closed, pack 12 0 t140.2.f_t.f_Version⟩ : Speriod_Table)))) none)) none) none) (cond (inS 0 (List.length y107.2.1 : Int) (List.length t108.1)) ((pyxlaw14_same.f k (List.take (Int.toNat (List.length y107.2.1 : Int)) t108.1) y107.2.1).bind fun t142 => (some (y107.2.2.2.1, y107.2.2.2.2.1, y107.2.2.2.2.2.1, !t142, t140.2.f_scale, t140.2.f_l, (⟨pack 12 false t140.2.f_t.f_Closed, pack 12 0 t140.2.f_t.f_Version⟩ : Speriod_Table)))) none))))) (cond (decide ((List.length t108.1 : Int) > (List.length y107.2.1 : Int))) (cond (inb y107.1 12) (cond (Nat.blt (Int.toNat y107.1) 12) (cond (List.getD (pack 12 false y107.2.2.2.2.2.2.2.2.2.f_Closed) (Int.toNat y107.1) false) (some (y107.2.2.2.1, y107.2.2.2.2.1, y107.2.2.2.2.2.1, true, t108.2.f_scale, t108.2.f_l, (⟨pack 12 false t108.2.f_t.f_Closed, pack 12 0 t108.2.f_t.f_Version⟩ : Speriod_Table))) (cond (inS 0 (List.length y107.2.1 : Int) (List.length t108.1)) ((pyxlaw14_same.f k (List.take (Int.toNat (List.length y107.2.1 : Int)) t108.1) y107.2.1).bind fun t143 => (some (y107.2.2.2.1, y107.2.2.2.2.1, y107.2.2.2.2.2.1, !t143, t108.2.f_scale, t108.2.f_l, (⟨pack 12 false t108.2.f_t.f_Closed, pack 12 0 t108.2.f_t.f_Version⟩ : Speriod_Table)))) none)) none) none) (cond (inS 0 (List.length y107.2.1 : Int) (List.length t108.1)) ((pyxlaw14_same.f k (List.take (Int.toNat (List.length y107.2.1 : Int)) t108.1) y107.2.1).bind fun t144 => (some (y107.2.2.2.1, y107.2.2.2.2.1, y107.2.2.2.2.2.1, !t144, t108.2.f_scale, t108.2.f_l, (⟨pack 12 false t108.2.f_t.f_Closed, pack 12 0 t108.2.f_t.f_Version⟩ : Speriod_Table)))) none)))) : Option (List Spyxhand_Act × Int × Int × Bool × Int × List Sapi_Entry × Speriod_Table)).bind fun y145 => (cond (y145.2.2.2.1) (some (.inr (.inr false))) (some (.inl (y145.1, y145.2.1, IntKind.wrap .i64 (y145.2.2.1 + 1), y145.2.2.2.2.1, y145.2.2.2.2.2.1, (⟨pack 12 false y145.2.2.2.2.2.2.f_Closed, pack 12 0 y145.2.2.2.2.2.2.f_Version⟩ : Speriod_Table)))))))))))) none) (some (.inr (.inl ())))
noncomputable def pyxlaw14_LedgerShut.f (k : Nat) (a0 : List Spyxhand_Act) : Option Bool := (ledger_New.f k 2).bind fun t1 => ((((pyxlaw14_known.f k).bind fun t2 => (cond (!t2) (some (a0, true, t1.f_scale, t1.f_l, (⟨pack 12 false t1.f_t.f_Closed, pack 12 0 t1.f_t.f_Version⟩ : Speriod_Table))) (some (a0, false, t1.f_scale, t1.f_l, (⟨pack 12 false t1.f_t.f_Closed, pack 12 0 t1.f_t.f_Version⟩ : Speriod_Table))))) : Option (List Spyxhand_Act × Bool × Int × List Sapi_Entry × Speriod_Table)).bind fun y32 => (cond (y32.2.1) (some false) ((iter (pyxlaw14_LedgerShut.l5.once k) k (y32.1, (List.length y32.1 : Int), 0, y32.2.2.1, y32.2.2.2.1, (⟨pack 12 false y32.2.2.2.2.f_Closed, pack 12 0 y32.2.2.2.2.f_Version⟩ : Speriod_Table))).bind fun | .inl y147 => (some true) | .inr y148 => (some y148))))
noncomputable def pyxlaw14_LedgerShut.un (s : St U) : Option (List Spyxhand_Act) := match s.get 0 with | .row C.Spyxhand_Act x1 => some x1 | _ => none
noncomputable def pyxlaw14_LedgerShut.mk (x : List Spyxhand_Act) : St U := ⟨[(0, .row C.Spyxhand_Act x)], []⟩
noncomputable def pyxlaw14_LedgerShut.fin (y : Bool) : St U := ⟨[(0, .flat (.bool y))], []⟩
noncomputable def pyxlaw14_LedgerShut.D (k : Nat) : FDen U := { X := List Spyxhand_Act, Y := Bool, nt := 113, gh := [], un := pyxlaw14_LedgerShut.un, f := fun x => pyxlaw14_LedgerShut.f k (x), fin := pyxlaw14_LedgerShut.fin, cl := true, clo := fun _ _ => rfl }
noncomputable def pyxlaw14_LedgerShut.re (s : St U) : Option Bool := match s.get 0 with | .flat (.bool x1) => some x1 | _ => none
noncomputable def pyxlaw14_LedgerShut.l5.mk (x : (List Spyxhand_Act × Int × Int × Int × List Sapi_Entry × Speriod_Table)) : St U := match x with | (x60, x61, x62, x33, x34, x59) => ⟨[(3, .ptr 120000000000007 0), (18, .row C.Spyxhand_Act x60), (19, .flat (.int .i64 x61)), (20, .flat (.int .i64 x62))], [(120000000000007, .lit ((.flat (.int .i64 x33)) :: (.tip 12000002000500701 C.Sapi_Entry x34) :: cd_Speriod_Table.enc x59)), (12000002000500701, .tip 3)]⟩
noncomputable def pyxlaw14_LedgerShut.l5.un (s : St U) : Option (List Spyxhand_Act × Int × Int × Int × List Sapi_Entry × Speriod_Table) := (row_Spyxhand_Act (s.get 18)).bind fun q0 => (match s.get 3, s.get 19, s.get 20, lk s.o 120000000000007 with | .ptr 120000000000007 0, .flat (.int .i64 x61), .flat (.int .i64 x62), some (.lit (.flat (.int .i64 x33) :: u120000000000007_1 :: u120000000000007_t)) => (tip_Sapi_Entry s.o 3 u120000000000007_1).bind fun w120000000000007_1 => ((cd_Speriod_Table.full u120000000000007_t).bind fun w120000000000007_t => (some (q0, x61, x62, x33, w120000000000007_1.2, w120000000000007_t))) | _, _, _, _ => none)
noncomputable def pyxlaw14_LedgerShut.l5.fin (y : Unit ⊕ Bool) : Out U := match y with | .inl () => .exit 0 ⟨[], []⟩ | .inr z => .ret (⟨[(0, .flat (.bool z))], []⟩)
noncomputable def pyxlaw14_LedgerShut.l5.finK {ρ : Type} (y : Unit ⊕ Bool) (K : Out U → Option ρ) : Option ρ := match y with | .inl () => K (.exit 0 ⟨[], []⟩) | .inr z => K (.ret (⟨[(0, .flat (.bool z))], []⟩))
theorem pyxlaw14_LedgerShut.l5.finK_eq {ρ : Type} (y : Unit ⊕ Bool) (K : Out U → Option ρ) : pyxlaw14_LedgerShut.l5.finK y K = K (pyxlaw14_LedgerShut.l5.fin y) := by
  unfold pyxlaw14_LedgerShut.l5.finK pyxlaw14_LedgerShut.l5.fin
  first | rfl | (split <;> rfl)
noncomputable def pyxlaw14_LedgerShut.l5.re : Out U → Option (Unit ⊕ Bool) | .exit 0 s => (some (.inl ())) | .ret s => (match s.get 0 with | .flat (.bool x1) => some (.inr x1) | _ => none) | _ => none
noncomputable def pyxlaw14_LedgerShut.l5.L (k : Nat) : LDen U := { X := (List Spyxhand_Act × Int × Int × Int × List Sapi_Entry × Speriod_Table), Y := Unit ⊕ Bool, un := pyxlaw14_LedgerShut.l5.un, f := iter (pyxlaw14_LedgerShut.l5.once k) k, fin := pyxlaw14_LedgerShut.l5.fin, finK := pyxlaw14_LedgerShut.l5.finK, finK_eq := pyxlaw14_LedgerShut.l5.finK_eq }
noncomputable def pyxlaw14_LedgerShut.j2000.fin (y : (List Spyxhand_Act × Bool × Int × List Sapi_Entry × Speriod_Table)) : Out U := match y with | (x3, x31, x4, x5, x30) => .norm ⟨[(3, .ptr 120000000000007 0), (0, .row C.Spyxhand_Act x3), (17, .flat (.bool x31))], [(120000000000007, .lit ((.flat (.int .i64 x4)) :: (.tip 12000102200000701 C.Sapi_Entry x5) :: cd_Speriod_Table.enc x30)), (12000102200000701, .tip 3)]⟩
noncomputable def pyxlaw14_LedgerShut.j2000.finK {ρ : Type} (y : (List Spyxhand_Act × Bool × Int × List Sapi_Entry × Speriod_Table)) (K : Out U → Option ρ) : Option ρ := match y with | (x3, x31, x4, x5, x30) => K (.norm ⟨[(3, .ptr 120000000000007 0), (0, .row C.Spyxhand_Act x3), (17, .flat (.bool x31))], [(120000000000007, .lit ((.flat (.int .i64 x4)) :: (.tip 12000102200000701 C.Sapi_Entry x5) :: cd_Speriod_Table.enc x30)), (12000102200000701, .tip 3)]⟩)
theorem pyxlaw14_LedgerShut.j2000.finK_eq {ρ : Type} (y : (List Spyxhand_Act × Bool × Int × List Sapi_Entry × Speriod_Table)) (K : Out U → Option ρ) : pyxlaw14_LedgerShut.j2000.finK y K = K (pyxlaw14_LedgerShut.j2000.fin y) := by
  unfold pyxlaw14_LedgerShut.j2000.finK pyxlaw14_LedgerShut.j2000.fin
  first | rfl | (split <;> rfl)
noncomputable def pyxlaw14_LedgerShut.j2000.re : Out U → Option ((List Spyxhand_Act × Bool × Int × List Sapi_Entry × Speriod_Table)) | .norm s => ((row_Spyxhand_Act (s.get 0)).bind fun q0 => (match s.get 3, s.get 17, lk s.o 120000000000007 with | .ptr 120000000000007 0, .flat (.bool x31), some (.lit (.flat (.int .i64 x4) :: u120000000000007_1 :: u120000000000007_t)) => (tip_Sapi_Entry s.o 3 u120000000000007_1).bind fun w120000000000007_1 => ((cd_Speriod_Table.full u120000000000007_t).bind fun w120000000000007_t => (some (q0, x31, x4, w120000000000007_1.2, w120000000000007_t))) | _, _, _ => none)) | _ => none
noncomputable def pyxlaw14_LedgerShut.j2000.J : JDen U := { Y := (List Spyxhand_Act × Bool × Int × List Sapi_Entry × Speriod_Table), re := pyxlaw14_LedgerShut.j2000.re, fin := pyxlaw14_LedgerShut.j2000.fin, finK := pyxlaw14_LedgerShut.j2000.finK, finK_eq := pyxlaw14_LedgerShut.j2000.finK_eq }
theorem pyxlaw14_LedgerShut.j2000.fit (o : Out U) (y : (List Spyxhand_Act × Bool × Int × List Sapi_Entry × Speriod_Table)) (h : pyxlaw14_LedgerShut.j2000.re o = some y) : FitsO o (pyxlaw14_LedgerShut.j2000.fin y) := by
  unfold pyxlaw14_LedgerShut.j2000.re at h
  split at h
  · obtain ⟨q0, eq0, h1⟩ := Option.bind_eq_some_iff.1 h
    split at h1
    · obtain ⟨w120000000000007_1, ew120000000000007_1, h2⟩ := Option.bind_eq_some_iff.1 h1
      obtain ⟨w120000000000007_t, ew120000000000007_t, h3⟩ := Option.bind_eq_some_iff.1 h2
      cases h3
      refine fitsO_norm (fits_ren [(12000102200000701, w120000000000007_1.1)] ?_ ?_ ren_one rfl)
      · exact List.forall_mem_cons.2 ⟨FV.one (FV.ptr (by assumption)), List.forall_mem_cons.2 ⟨FV.one (row_Spyxhand_Act_fit eq0), List.forall_mem_cons.2 ⟨FV.one (FV.same (by assumption) rfl), fun _ hp => (List.not_mem_nil hp).elim⟩⟩⟩
      · exact List.forall_mem_cons.2 ⟨(FO.cells (show lk (St.o _) 120000000000007 = some _ from by assumption) (FCs.cons (c0_same rfl rfl) (FCs.cons ((tip_Sapi_Entry_fit ew120000000000007_1 rfl).1) (FCs.tail (Cd.full_ok ew120000000000007_t) rfl)))), List.forall_mem_cons.2 ⟨(tip_Sapi_Entry_fit ew120000000000007_1 rfl).2, fun _ hp => (List.not_mem_nil hp).elim⟩⟩
    · cases h1
  · cases h
noncomputable def pyxlaw14_LedgerShut.j13001.fin (y : (Int × List Sapi_Entry × Int × List Spyxhand_Act × Int × Int × Int × List Sapi_Entry × Speriod_Table × Speriod_Table)) : Out U := match y with | (x95, x96, x98, x99, x100, x101, x68, x69, x94, x97) => .norm ⟨[(3, .ptr 120000000000007 0), (8, .ptr 8 0), (6, .flat (.int .i64 x95)), (7, .row C.Sapi_Entry x96), (9, .flat (.int .i64 x98)), (18, .row C.Spyxhand_Act x99), (19, .flat (.int .i64 x100)), (20, .flat (.int .i64 x101))], [(120000000000007, .lit ((.flat (.int .i64 x68)) :: (.tip 12000103300100701 C.Sapi_Entry x69) :: cd_Speriod_Table.enc x94)), (12000103300100701, .tip 3), (8, .lit (cd_Speriod_Table.enc x97))]⟩
noncomputable def pyxlaw14_LedgerShut.j13001.finK {ρ : Type} (y : (Int × List Sapi_Entry × Int × List Spyxhand_Act × Int × Int × Int × List Sapi_Entry × Speriod_Table × Speriod_Table)) (K : Out U → Option ρ) : Option ρ := match y with | (x95, x96, x98, x99, x100, x101, x68, x69, x94, x97) => K (.norm ⟨[(3, .ptr 120000000000007 0), (8, .ptr 8 0), (6, .flat (.int .i64 x95)), (7, .row C.Sapi_Entry x96), (9, .flat (.int .i64 x98)), (18, .row C.Spyxhand_Act x99), (19, .flat (.int .i64 x100)), (20, .flat (.int .i64 x101))], [(120000000000007, .lit ((.flat (.int .i64 x68)) :: (.tip 12000103300100701 C.Sapi_Entry x69) :: cd_Speriod_Table.enc x94)), (12000103300100701, .tip 3), (8, .lit (cd_Speriod_Table.enc x97))]⟩)
theorem pyxlaw14_LedgerShut.j13001.finK_eq {ρ : Type} (y : (Int × List Sapi_Entry × Int × List Spyxhand_Act × Int × Int × Int × List Sapi_Entry × Speriod_Table × Speriod_Table)) (K : Out U → Option ρ) : pyxlaw14_LedgerShut.j13001.finK y K = K (pyxlaw14_LedgerShut.j13001.fin y) := by
  unfold pyxlaw14_LedgerShut.j13001.finK pyxlaw14_LedgerShut.j13001.fin
  first | rfl | (split <;> rfl)
noncomputable def pyxlaw14_LedgerShut.j13001.re : Out U → Option ((Int × List Sapi_Entry × Int × List Spyxhand_Act × Int × Int × Int × List Sapi_Entry × Speriod_Table × Speriod_Table)) | .norm s => ((row_Sapi_Entry (s.get 7)).bind fun q0 => ((row_Spyxhand_Act (s.get 18)).bind fun q1 => ((Cd.ofLit cd_Speriod_Table s.o 8).bind fun q2 => (match s.get 3, s.get 8, s.get 6, s.get 9, s.get 19, s.get 20, lk s.o 120000000000007 with | .ptr 120000000000007 0, .ptr 8 0, .flat (.int .i64 x95), .flat (.int .i64 x98), .flat (.int .i64 x100), .flat (.int .i64 x101), some (.lit (.flat (.int .i64 x68) :: u120000000000007_1 :: u120000000000007_t)) => (tip_Sapi_Entry s.o 3 u120000000000007_1).bind fun w120000000000007_1 => ((cd_Speriod_Table.full u120000000000007_t).bind fun w120000000000007_t => (some (x95, q0, x98, q1, x100, x101, x68, w120000000000007_1.2, w120000000000007_t, q2))) | _, _, _, _, _, _, _ => none)))) | _ => none
noncomputable def pyxlaw14_LedgerShut.j13001.J : JDen U := { Y := (Int × List Sapi_Entry × Int × List Spyxhand_Act × Int × Int × Int × List Sapi_Entry × Speriod_Table × Speriod_Table), re := pyxlaw14_LedgerShut.j13001.re, fin := pyxlaw14_LedgerShut.j13001.fin, finK := pyxlaw14_LedgerShut.j13001.finK, finK_eq := pyxlaw14_LedgerShut.j13001.finK_eq }
theorem pyxlaw14_LedgerShut.j13001.fit (o : Out U) (y : (Int × List Sapi_Entry × Int × List Spyxhand_Act × Int × Int × Int × List Sapi_Entry × Speriod_Table × Speriod_Table)) (h : pyxlaw14_LedgerShut.j13001.re o = some y) : FitsO o (pyxlaw14_LedgerShut.j13001.fin y) := by
  unfold pyxlaw14_LedgerShut.j13001.re at h
  split at h
  · obtain ⟨q0, eq0, h1⟩ := Option.bind_eq_some_iff.1 h
    obtain ⟨q1, eq1, h2⟩ := Option.bind_eq_some_iff.1 h1
    obtain ⟨q2, eq2, h3⟩ := Option.bind_eq_some_iff.1 h2
    split at h3
    · obtain ⟨w120000000000007_1, ew120000000000007_1, h4⟩ := Option.bind_eq_some_iff.1 h3
      obtain ⟨w120000000000007_t, ew120000000000007_t, h5⟩ := Option.bind_eq_some_iff.1 h4
      cases h5
      refine fitsO_norm (fits_ren [(12000103300100701, w120000000000007_1.1)] ?_ ?_ ren_one rfl)
      · exact List.forall_mem_cons.2 ⟨FV.one (FV.ptr (by assumption)), List.forall_mem_cons.2 ⟨FV.one (FV.ptr (by assumption)), List.forall_mem_cons.2 ⟨FV.one (FV.same (by assumption) rfl), List.forall_mem_cons.2 ⟨FV.one (row_Sapi_Entry_fit eq0), List.forall_mem_cons.2 ⟨FV.one (FV.same (by assumption) rfl), List.forall_mem_cons.2 ⟨FV.one (row_Spyxhand_Act_fit eq1), List.forall_mem_cons.2 ⟨FV.one (FV.same (by assumption) rfl), List.forall_mem_cons.2 ⟨FV.one (FV.same (by assumption) rfl), fun _ hp => (List.not_mem_nil hp).elim⟩⟩⟩⟩⟩⟩⟩⟩
      · exact List.forall_mem_cons.2 ⟨(FO.cells (show lk (St.o _) 120000000000007 = some _ from by assumption) (FCs.cons (c0_same rfl rfl) (FCs.cons ((tip_Sapi_Entry_fit ew120000000000007_1 rfl).1) (FCs.tail (Cd.full_ok ew120000000000007_t) rfl)))), List.forall_mem_cons.2 ⟨(tip_Sapi_Entry_fit ew120000000000007_1 rfl).2, List.forall_mem_cons.2 ⟨(FO.same (Cd.ofLit_ok eq2) rfl), fun _ hp => (List.not_mem_nil hp).elim⟩⟩⟩
    · cases h3
  · cases h
noncomputable def pyxlaw14_LedgerShut.j20000.fin (y : (List Spyxhand_Act × Int × Int × Bool × Int × List Sapi_Entry × Speriod_Table)) : Out U := match y with | (x136, x137, x138, x139, x109, x110, x135) => .norm ⟨[(3, .ptr 120000000000007 0), (18, .row C.Spyxhand_Act x136), (19, .flat (.int .i64 x137)), (20, .flat (.int .i64 x138)), (111, .flat (.bool x139))], [(120000000000007, .lit ((.flat (.int .i64 x109)) :: (.tip 12000104000000701 C.Sapi_Entry x110) :: cd_Speriod_Table.enc x135)), (12000104000000701, .tip 3)]⟩
noncomputable def pyxlaw14_LedgerShut.j20000.finK {ρ : Type} (y : (List Spyxhand_Act × Int × Int × Bool × Int × List Sapi_Entry × Speriod_Table)) (K : Out U → Option ρ) : Option ρ := match y with | (x136, x137, x138, x139, x109, x110, x135) => K (.norm ⟨[(3, .ptr 120000000000007 0), (18, .row C.Spyxhand_Act x136), (19, .flat (.int .i64 x137)), (20, .flat (.int .i64 x138)), (111, .flat (.bool x139))], [(120000000000007, .lit ((.flat (.int .i64 x109)) :: (.tip 12000104000000701 C.Sapi_Entry x110) :: cd_Speriod_Table.enc x135)), (12000104000000701, .tip 3)]⟩)
theorem pyxlaw14_LedgerShut.j20000.finK_eq {ρ : Type} (y : (List Spyxhand_Act × Int × Int × Bool × Int × List Sapi_Entry × Speriod_Table)) (K : Out U → Option ρ) : pyxlaw14_LedgerShut.j20000.finK y K = K (pyxlaw14_LedgerShut.j20000.fin y) := by
  unfold pyxlaw14_LedgerShut.j20000.finK pyxlaw14_LedgerShut.j20000.fin
  first | rfl | (split <;> rfl)
noncomputable def pyxlaw14_LedgerShut.j20000.re : Out U → Option ((List Spyxhand_Act × Int × Int × Bool × Int × List Sapi_Entry × Speriod_Table)) | .norm s => ((row_Spyxhand_Act (s.get 18)).bind fun q0 => (match s.get 3, s.get 19, s.get 20, s.get 111, lk s.o 120000000000007 with | .ptr 120000000000007 0, .flat (.int .i64 x137), .flat (.int .i64 x138), .flat (.bool x139), some (.lit (.flat (.int .i64 x109) :: u120000000000007_1 :: u120000000000007_t)) => (tip_Sapi_Entry s.o 3 u120000000000007_1).bind fun w120000000000007_1 => ((cd_Speriod_Table.full u120000000000007_t).bind fun w120000000000007_t => (some (q0, x137, x138, x139, x109, w120000000000007_1.2, w120000000000007_t))) | _, _, _, _, _ => none)) | _ => none
noncomputable def pyxlaw14_LedgerShut.j20000.J : JDen U := { Y := (List Spyxhand_Act × Int × Int × Bool × Int × List Sapi_Entry × Speriod_Table), re := pyxlaw14_LedgerShut.j20000.re, fin := pyxlaw14_LedgerShut.j20000.fin, finK := pyxlaw14_LedgerShut.j20000.finK, finK_eq := pyxlaw14_LedgerShut.j20000.finK_eq }
theorem pyxlaw14_LedgerShut.j20000.fit (o : Out U) (y : (List Spyxhand_Act × Int × Int × Bool × Int × List Sapi_Entry × Speriod_Table)) (h : pyxlaw14_LedgerShut.j20000.re o = some y) : FitsO o (pyxlaw14_LedgerShut.j20000.fin y) := by
  unfold pyxlaw14_LedgerShut.j20000.re at h
  split at h
  · obtain ⟨q0, eq0, h1⟩ := Option.bind_eq_some_iff.1 h
    split at h1
    · obtain ⟨w120000000000007_1, ew120000000000007_1, h2⟩ := Option.bind_eq_some_iff.1 h1
      obtain ⟨w120000000000007_t, ew120000000000007_t, h3⟩ := Option.bind_eq_some_iff.1 h2
      cases h3
      refine fitsO_norm (fits_ren [(12000104000000701, w120000000000007_1.1)] ?_ ?_ ren_one rfl)
      · exact List.forall_mem_cons.2 ⟨FV.one (FV.ptr (by assumption)), List.forall_mem_cons.2 ⟨FV.one (row_Spyxhand_Act_fit eq0), List.forall_mem_cons.2 ⟨FV.one (FV.same (by assumption) rfl), List.forall_mem_cons.2 ⟨FV.one (FV.same (by assumption) rfl), List.forall_mem_cons.2 ⟨FV.one (FV.same (by assumption) rfl), fun _ hp => (List.not_mem_nil hp).elim⟩⟩⟩⟩⟩
      · exact List.forall_mem_cons.2 ⟨(FO.cells (show lk (St.o _) 120000000000007 = some _ from by assumption) (FCs.cons (c0_same rfl rfl) (FCs.cons ((tip_Sapi_Entry_fit ew120000000000007_1 rfl).1) (FCs.tail (Cd.full_ok ew120000000000007_t) rfl)))), List.forall_mem_cons.2 ⟨(tip_Sapi_Entry_fit ew120000000000007_1 rfl).2, fun _ hp => (List.not_mem_nil hp).elim⟩⟩
    · cases h1
  · cases h
noncomputable def pyxlaw14_LedgerShut.jl : List (Nat × JDen U) := [(2000, pyxlaw14_LedgerShut.j2000.J), (13001, pyxlaw14_LedgerShut.j13001.J), (20000, pyxlaw14_LedgerShut.j20000.J)]
noncomputable def pyxlaw14_LedgerShut.fl (k : Nat) : List (Nat × FDen U) := [(27, ledger_New.D k), (28, pyxlaw14_known.D k), (25, pyxhand_Pick.D k), (31, ledger_Book_Entries.D k), (45, ledger_Book_Periods.D k), (33, ledger_Book_Close.D k), (41, ledger_Book_Reopen.D k), (34, ledger_Book_Reverse.D k), (29, pyxhand_Lines.D k), (30, ledger_Book_Post.D k), (32, pyxlaw14_same.D k)]
noncomputable def pyxlaw14_LedgerShut.ll (k : Nat) : List (Nat × LDen U) := [(5, pyxlaw14_LedgerShut.l5.L k)]
noncomputable def pyxlaw14_LedgerShut.E (k : Nat) : Env U := { P := Try.prog, D := DD, fd := lk (pyxlaw14_LedgerShut.fl k), ld := lk (pyxlaw14_LedgerShut.ll k), jd := lk pyxlaw14_LedgerShut.jl, mode := lk [], elc := lk ec, mpc := lk mc, rts := Try.f8.resultTypes.toList, dyn := fun t => Nat.beq t 90, vecs := fun d => false, results := Try.f8.results.toList, gh := [], own := false, io := fun g i => false }
theorem pyxlaw14_LedgerShut.ok (k : Nat) : EnvOk (pyxlaw14_LedgerShut.E k) := envOk lawful (pyxlaw14_LedgerShut.fl k) (pyxlaw14_LedgerShut.ll k) pyxlaw14_LedgerShut.jl _ _ _ _ _ _ _ _ _ _ (by
  intro p hp
  simp only [pyxlaw14_LedgerShut.fl, List.mem_cons, List.not_mem_nil, or_false] at hp
  rcases hp with rfl | rfl | rfl | rfl | rfl | rfl | rfl | rfl | rfl | rfl | rfl
  · exact ⟨ledger_New.sound k, enter_of Try.func27 (by kernel_rfl) (by kernel_rfl)⟩
  · exact ⟨pyxlaw14_known.sound k, enter_of Try.func28 (by kernel_rfl) (by kernel_rfl)⟩
  · exact ⟨pyxhand_Pick.sound k, enter_of Try.func25 (by kernel_rfl) (by kernel_rfl)⟩
  · exact ⟨ledger_Book_Entries.sound k, enter_of Try.func31 (by kernel_rfl) (by kernel_rfl)⟩
  · exact ⟨ledger_Book_Periods.sound k, enter_of Try.func45 (by kernel_rfl) (by kernel_rfl)⟩
  · exact ⟨ledger_Book_Close.sound k, enter_of Try.func33 (by kernel_rfl) (by kernel_rfl)⟩
  · exact ⟨ledger_Book_Reopen.sound k, enter_of Try.func41 (by kernel_rfl) (by kernel_rfl)⟩
  · exact ⟨ledger_Book_Reverse.sound k, enter_of Try.func34 (by kernel_rfl) (by kernel_rfl)⟩
  · exact ⟨pyxhand_Lines.sound k, enter_of Try.func29 (by kernel_rfl) (by kernel_rfl)⟩
  · exact ⟨ledger_Book_Post.sound k, enter_of Try.func30 (by kernel_rfl) (by kernel_rfl)⟩
  · exact ⟨pyxlaw14_same.sound k, enter_of Try.func32 (by kernel_rfl) (by kernel_rfl)⟩) (by
  intro p hp
  simp only [pyxlaw14_LedgerShut.jl, List.mem_cons, List.not_mem_nil, or_false] at hp
  rcases hp with rfl | rfl | rfl
  · exact pyxlaw14_LedgerShut.j2000.fit
  · exact pyxlaw14_LedgerShut.j13001.fit
  · exact pyxlaw14_LedgerShut.j20000.fit)
theorem pyxlaw14_LedgerShut.l5.eq (k : Nat) (x : (List Spyxhand_Act × Int × Int × Int × List Sapi_Entry × Speriod_Table)) : evC (pyxlaw14_LedgerShut.E k) (loopAt Try.f8 5) (pyxlaw14_LedgerShut.l5.mk x) (headK pyxlaw14_LedgerShut.l5.un pyxlaw14_LedgerShut.l5.re) = pyxlaw14_LedgerShut.l5.once k x := by kernel_rfl
theorem pyxlaw14_LedgerShut.l5.fit (s : St U) (x : (List Spyxhand_Act × Int × Int × Int × List Sapi_Entry × Speriod_Table)) (h : pyxlaw14_LedgerShut.l5.un s = some x) : Fits s (pyxlaw14_LedgerShut.l5.mk x) := by
  unfold pyxlaw14_LedgerShut.l5.un at h
  obtain ⟨q0, eq0, h1⟩ := Option.bind_eq_some_iff.1 h
  split at h1
  · obtain ⟨w120000000000007_1, ew120000000000007_1, h2⟩ := Option.bind_eq_some_iff.1 h1
    obtain ⟨w120000000000007_t, ew120000000000007_t, h3⟩ := Option.bind_eq_some_iff.1 h2
    cases h3
    refine fits_ren [(12000002000500701, w120000000000007_1.1)] ?_ ?_ ren_one rfl
    · exact List.forall_mem_cons.2 ⟨FV.one (FV.ptr (by assumption)), List.forall_mem_cons.2 ⟨FV.one (row_Spyxhand_Act_fit eq0), List.forall_mem_cons.2 ⟨FV.one (FV.same (by assumption) rfl), List.forall_mem_cons.2 ⟨FV.one (FV.same (by assumption) rfl), fun _ hp => (List.not_mem_nil hp).elim⟩⟩⟩⟩
    · exact List.forall_mem_cons.2 ⟨(FO.cells (show lk (St.o _) 120000000000007 = some _ from by assumption) (FCs.cons (c0_same rfl rfl) (FCs.cons ((tip_Sapi_Entry_fit ew120000000000007_1 rfl).1) (FCs.tail (Cd.full_ok ew120000000000007_t) rfl)))), List.forall_mem_cons.2 ⟨(tip_Sapi_Entry_fit ew120000000000007_1 rfl).2, fun _ hp => (List.not_mem_nil hp).elim⟩⟩
  · cases h1
theorem pyxlaw14_LedgerShut.l5.fitO (o : Out U) (y : Unit ⊕ Bool) (h : pyxlaw14_LedgerShut.l5.re o = some y) : FitsO o (pyxlaw14_LedgerShut.l5.fin y) := by
  unfold pyxlaw14_LedgerShut.l5.re at h
  split at h
  · cases h
    refine fitsO_exit (fits_ren [] ?_ ?_ ren_nil rfl)
    · exact fun _ hp => (List.not_mem_nil hp).elim
    · exact fun _ hp => (List.not_mem_nil hp).elim
  · split at h
    · cases h
      refine fitsO_ret (fits_ren [] ?_ ?_ ren_nil rfl)
      · exact List.forall_mem_cons.2 ⟨FV.one (FV.same (by assumption) rfl), fun _ hp => (List.not_mem_nil hp).elim⟩
      · exact fun _ hp => (List.not_mem_nil hp).elim
    · cases h
  · cases h
theorem pyxlaw14_LedgerShut.l5.sound (k : Nat) : LSound (pyxlaw14_LedgerShut.E k) Try.f8.ntmps Try.f8 (loopAt Try.f8 5) (pyxlaw14_LedgerShut.l5.L k) :=
  loop_sound (pyxlaw14_LedgerShut.ok k) mixed rfl (by kernel_rfl) (allL_of (l := []) (by kernel_rfl) allL_nil) pyxlaw14_LedgerShut.l5.un pyxlaw14_LedgerShut.l5.mk pyxlaw14_LedgerShut.l5.fin pyxlaw14_LedgerShut.l5.re (pyxlaw14_LedgerShut.l5.once k) k pyxlaw14_LedgerShut.l5.fit pyxlaw14_LedgerShut.l5.fitO (pyxlaw14_LedgerShut.l5.eq k) pyxlaw14_LedgerShut.l5.finK pyxlaw14_LedgerShut.l5.finK_eq
theorem pyxlaw14_LedgerShut.eq (k : Nat) (x : List Spyxhand_Act) : runF (pyxlaw14_LedgerShut.E k) (codeOf Try.f8) (pyxlaw14_LedgerShut.mk x) pyxlaw14_LedgerShut.re = (pyxlaw14_LedgerShut.D k).f x := by kernel_rfl
theorem pyxlaw14_LedgerShut.fit (s : St U) (x : List Spyxhand_Act) (h : pyxlaw14_LedgerShut.un s = some x) : Fits s (pyxlaw14_LedgerShut.mk x) := by
  unfold pyxlaw14_LedgerShut.un at h
  split at h
  · cases h
    refine fits_ren [] ?_ ?_ ren_nil rfl
    · exact List.forall_mem_cons.2 ⟨FV.one (FV.same (by assumption) rfl), fun _ hp => (List.not_mem_nil hp).elim⟩
    · exact fun _ hp => (List.not_mem_nil hp).elim
  · cases h
theorem pyxlaw14_LedgerShut.fitR (s : St U) (y : Bool) (h : pyxlaw14_LedgerShut.re s = some y) : Fits s (pyxlaw14_LedgerShut.fin y) := by
  unfold pyxlaw14_LedgerShut.re at h
  split at h
  · cases h
    refine fits_ren [] ?_ ?_ ren_nil rfl
    · exact List.forall_mem_cons.2 ⟨FV.one (FV.same (by assumption) rfl), fun _ hp => (List.not_mem_nil hp).elim⟩
    · exact fun _ hp => (List.not_mem_nil hp).elim
  · cases h
theorem pyxlaw14_LedgerShut.sound (k : Nat) : Sound Try.prog DD 8 (pyxlaw14_LedgerShut.D k) :=
  fun_sound (E := pyxlaw14_LedgerShut.E k) (fn := Try.f8) (c := codeOf Try.f8) (pyxlaw14_LedgerShut.ok k) mixed rfl Try.func8 (by kernel_rfl) (by kernel_rfl) (allL_of (l := [loopAt Try.f8 5]) (by kernel_rfl) (allL_cons (key := 5) (by kernel_rfl) rfl (pyxlaw14_LedgerShut.l5.sound k) allL_nil)) (pyxlaw14_LedgerShut.D k) pyxlaw14_LedgerShut.mk pyxlaw14_LedgerShut.re (by kernel_rfl) (by kernel_rfl) pyxlaw14_LedgerShut.fit pyxlaw14_LedgerShut.fitR (pyxlaw14_LedgerShut.eq k)
end
end Go.Proofs.Ytlaogfkgkpgofaa
