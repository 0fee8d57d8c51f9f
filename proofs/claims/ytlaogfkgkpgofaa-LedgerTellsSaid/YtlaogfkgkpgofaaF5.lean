import Derived.Test.YtlaogfkgkpgofaaF4
/-! Functions, told; their equations with the evaluator; that they are sound. Written by gen.py. -/
namespace Go.Proofs.Ytlaogfkgkpgofaa
open Go Go.Ev
noncomputable section
set_option linter.unusedVariables false
set_option linter.unusedSimpArgs false
set_option maxRecDepth 100000
/-! ### (*pyx/ledger.Book).turn: function 77 -/
noncomputable def ledger_Book_turn_c78.f (k : Nat) (a0 : Sledger_Book) (a1 : Unit) (a2 : Int) : Option (Int × Sledger_Book) := (period_Close.f k (⟨pack 12 false a0.f_t.f_Closed, pack 12 0 a0.f_t.f_Version⟩ : Speriod_Table) a2).bind fun t1 => (cond (t1.2 == 0) (some (t1.2, (⟨a0.f_scale, a0.f_l, (⟨pack 12 false t1.1.f_Closed, pack 12 0 t1.1.f_Version⟩ : Speriod_Table)⟩ : Sledger_Book))) (some (t1.2, (⟨a0.f_scale, a0.f_l, (⟨pack 12 false a0.f_t.f_Closed, pack 12 0 a0.f_t.f_Version⟩ : Speriod_Table)⟩ : Sledger_Book))))
noncomputable def ledger_Book_turn_c78.un (s : St U) : Option (Sledger_Book × Unit × Int) := match s.get 0, lk s.o 7000000000000, s.get 1, s.get 2, s.get 1000000000000000 with | .ptr 7000000000000 0, some (.lit (.flat (.int .i64 x1) :: x5 :: x3)), .fn 78 [], .flat (.int .i64 x6), .ptr 7000000000000 0 => (tip_Sapi_Entry s.o 3 x5).bind fun ex2 => ((cd_Speriod_Table.full x3).bind fun x4 => (some ((⟨x1, ex2.2, x4⟩ : Sledger_Book), (), x6))) | _, _, _, _, _ => none
noncomputable def ledger_Book_turn_c78.mk (x : (Sledger_Book × Unit × Int)) : St U := ⟨[(0, .ptr 7000000000000 0), (1, .fn 78 []), (2, .flat (.int .i64 x.2.2)), (1000000000000000, .ptr 7000000000000 0)], [(7000000000000, .lit ((.flat (.int .i64 x.1.f_scale)) :: (.tip 7000000000002 C.Sapi_Entry x.1.f_l) :: cd_Speriod_Table.enc x.1.f_t)), (7000000000002, .tip 3)]⟩
noncomputable def ledger_Book_turn_c78.fin (y : (Int × Sledger_Book)) : St U := ⟨[(0, .flat (.int .i64 y.1)), (1000000000000000, .ptr 7000000000000 0)], [(7000000000000, .lit ((.flat (.int .i64 y.2.f_scale)) :: (.tip 7000000000002 C.Sapi_Entry y.2.f_l) :: cd_Speriod_Table.enc y.2.f_t)), (7000000000002, .tip 3)]⟩
noncomputable def ledger_Book_turn_c78.D (k : Nat) : FDen U := { X := (Sledger_Book × Unit × Int), Y := (Int × Sledger_Book), nt := 28, gh := [0], un := ledger_Book_turn_c78.un, f := fun x => ledger_Book_turn_c78.f k (x.1) (x.2.1) (x.2.2), fin := ledger_Book_turn_c78.fin, cl := false, clo := fun h => by cases h }
noncomputable def ledger_Book_turn_c78.re (s : St U) : Option (Int × Sledger_Book) := match s.get 0, s.get 1000000000000000, lk s.o 7000000000000 with | .flat (.int .i64 x1), .ptr 7000000000000 0, some (.lit (.flat (.int .i64 x2) :: x6 :: x4)) => (tip_Sapi_Entry s.o 3 x6).bind fun ex3 => ((cd_Speriod_Table.full x4).bind fun x5 => (some (x1, (⟨x2, ex3.2, x5⟩ : Sledger_Book)))) | _, _, _ => none
noncomputable def ledger_Book_turn_c78.jl : List (Nat × JDen U) := []
noncomputable def ledger_Book_turn_c78.fl (k : Nat) : List (Nat × FDen U) := [(78, period_Close.D k)]
noncomputable def ledger_Book_turn_c78.ll (k : Nat) : List (Nat × LDen U) := []
noncomputable def ledger_Book_turn_c78.E (k : Nat) : Env U := { P := Try.prog, D := DD, fd := lk (ledger_Book_turn_c78.fl k), sf := lk sl0, ld := lk (ledger_Book_turn_c78.ll k), jd := lk ledger_Book_turn_c78.jl, mode := lk [], elc := lk ec, mpc := lk mc, rts := Try.f77.resultTypes.toList, dyn := fun t => false, vecs := fun d => false, results := Try.f77.results.toList, gh := [0], own := false, io := fun g i => false }
theorem ledger_Book_turn_c78.ok (k : Nat) : EnvOk (ledger_Book_turn_c78.E k) := envOk lawful (ledger_Book_turn_c78.fl k) sl0 (ledger_Book_turn_c78.ll k) ledger_Book_turn_c78.jl _ _ _ _ _ _ _ _ _ _ (by
  intro p hp
  simp only [ledger_Book_turn_c78.fl, List.mem_cons, List.not_mem_nil, or_false] at hp
  rcases hp with rfl
  · exact ⟨period_Close.sound k, enter_of Try.func78 (by kernel_rfl) (by kernel_rfl)⟩) sl0_ok (by
  intro p hp
  simp [ledger_Book_turn_c78.jl] at hp)
theorem ledger_Book_turn_c78.eq (k : Nat) (x : (Sledger_Book × Unit × Int)) : runF (ledger_Book_turn_c78.E k) (codeOf Try.f77) (ledger_Book_turn_c78.mk x) ledger_Book_turn_c78.re = (ledger_Book_turn_c78.D k).f x := by kernel_rfl
theorem ledger_Book_turn_c78.fit (s : St U) (x : (Sledger_Book × Unit × Int)) (h : ledger_Book_turn_c78.un s = some x) : Fits s (ledger_Book_turn_c78.mk x) := by
  unfold ledger_Book_turn_c78.un at h
  split at h
  · obtain ⟨ex2, hex2, hh1⟩ := Option.bind_eq_some_iff.1 h
    obtain ⟨x4, hx4, hh2⟩ := Option.bind_eq_some_iff.1 hh1
    cases hh2
    refine fits_ren [(7000000000002, ex2.1)] ?_ ?_ ren_one rfl
    · exact List.forall_mem_cons.2 ⟨FV.one (FV.ptr (by assumption)), List.forall_mem_cons.2 ⟨FV.one (FV.same (by assumption) rfl), List.forall_mem_cons.2 ⟨FV.one (FV.same (by assumption) rfl), List.forall_mem_cons.2 ⟨FV.one (FV.ptr (by assumption)), fun _ hp => (List.not_mem_nil hp).elim⟩⟩⟩⟩
    · exact List.forall_mem_cons.2 ⟨FO.cells (show lk (St.o _) 7000000000000 = some _ from by assumption) (FCs.cons (c0_same rfl rfl) (FCs.cons ((tip_Sapi_Entry_fit hex2 rfl).1) (FCs.tail (Cd.full_ok hx4) rfl))), List.forall_mem_cons.2 ⟨(tip_Sapi_Entry_fit hex2 rfl).2, fun _ hp => (List.not_mem_nil hp).elim⟩⟩
  · cases h
theorem ledger_Book_turn_c78.fitR (s : St U) (y : (Int × Sledger_Book)) (h : ledger_Book_turn_c78.re s = some y) : Fits s (ledger_Book_turn_c78.fin y) := by
  unfold ledger_Book_turn_c78.re at h
  split at h
  · obtain ⟨ex3, hex3, hh1⟩ := Option.bind_eq_some_iff.1 h
    obtain ⟨x5, hx5, hh2⟩ := Option.bind_eq_some_iff.1 hh1
    cases hh2
    refine fits_ren [(7000000000002, ex3.1)] ?_ ?_ ren_one rfl
    · exact List.forall_mem_cons.2 ⟨FV.one (FV.same (by assumption) rfl), List.forall_mem_cons.2 ⟨FV.one (FV.ptr (by assumption)), fun _ hp => (List.not_mem_nil hp).elim⟩⟩
    · exact List.forall_mem_cons.2 ⟨FO.cells (show lk (St.o _) 7000000000000 = some _ from by assumption) (FCs.cons (c0_same rfl rfl) (FCs.cons ((tip_Sapi_Entry_fit hex3 rfl).1) (FCs.tail (Cd.full_ok hx5) rfl))), List.forall_mem_cons.2 ⟨(tip_Sapi_Entry_fit hex3 rfl).2, fun _ hp => (List.not_mem_nil hp).elim⟩⟩
  · cases h
theorem ledger_Book_turn_c78.sound (k : Nat) : Sound Try.prog DD 77 (ledger_Book_turn_c78.D k) :=
  fun_sound (E := ledger_Book_turn_c78.E k) (fn := Try.f77) (c := codeOf Try.f77) (ledger_Book_turn_c78.ok k) mixed rfl Try.func77 (by kernel_rfl) (by kernel_rfl) (allL_of (l := []) (by kernel_rfl) allL_nil) (ledger_Book_turn_c78.D k) ledger_Book_turn_c78.mk ledger_Book_turn_c78.re (by kernel_rfl) (by kernel_rfl) ledger_Book_turn_c78.fit ledger_Book_turn_c78.fitR (ledger_Book_turn_c78.eq k)
noncomputable def ledger_Book_turn_c78.pk (k : Nat) : Pk Try.prog DD := ⟨77, ledger_Book_turn_c78.D k, ledger_Book_turn_c78.sound k, enter_of Try.func77 (by kernel_rfl) (by kernel_rfl)⟩
/-! ### (*pyx/ledger.Book).Close: function 33 -/
noncomputable def ledger_Book_Close.f (k : Nat) (a0 : Sledger_Book) (a1 : Int) : Option (Int × Sledger_Book) := (ledger_Book_turn_c78.f k (⟨a0.f_scale, a0.f_l, (⟨pack 12 false a0.f_t.f_Closed, pack 12 0 a0.f_t.f_Version⟩ : Speriod_Table)⟩ : Sledger_Book) () a1).bind fun t1 => (some (t1.1, (⟨t1.2.f_scale, t1.2.f_l, (⟨pack 12 false t1.2.f_t.f_Closed, pack 12 0 t1.2.f_t.f_Version⟩ : Speriod_Table)⟩ : Sledger_Book)))
noncomputable def ledger_Book_Close.i : Lay U (Sledger_Book × Int) := (pcGh 1000000000000000 7000000000000 (pcAnd (pcOne 0 (io_Sledger_Book_rt 7000000000000 7000000000000)) (pcOne 1 (tAt (vInt .i64))))).lay (fun _ => by kernel_rfl)
noncomputable def ledger_Book_Close.r : Lay U (Int × Sledger_Book) := (pcAnd (pcOne 0 (tAt (vInt .i64))) (pcOne 1000000000000000 (io_Sledger_Book_rt 7000000000000 7000000000000))).lay (fun _ => by kernel_rfl)
noncomputable def ledger_Book_Close.D (k : Nat) : FDen U := fdn ledger_Book_Close.i ledger_Book_Close.r Try.f33.ntmps [0] false (fun x => ledger_Book_Close.f k (x.1) (x.2)) (fun h => by cases h)
noncomputable def ledger_Book_Close.E (k : Nat) : Env U := mkE Try.f33 [ledger_Book_turn_c78.pk k] [] [] [] n0 n0 [0] false n00
theorem ledger_Book_Close.eq (k : Nat) (x : (Sledger_Book × Int)) : runF (ledger_Book_Close.E k) (codeOf Try.f33) (ledger_Book_Close.i.put x) ledger_Book_Close.r.un = ledger_Book_Close.f k (x.1) (x.2) := by kernel_rfl
theorem ledger_Book_Close.sound (k : Nat) : Sound Try.prog DD 33 (ledger_Book_Close.D k) :=
  funP (E := ledger_Book_Close.E k) (fn := Try.f33) (c := codeOf Try.f33) (mkE_ok _ _ _ _ _ _ _ _ _ _) mixed rfl Try.func33 (by kernel_rfl) (by kernel_rfl) (allL_of (l := []) (by kernel_rfl) allL_nil) ledger_Book_Close.i ledger_Book_Close.r [0] false (fun x => ledger_Book_Close.f k (x.1) (x.2)) (fun h => by cases h) (by kernel_rfl) (ledger_Book_Close.eq k)
noncomputable def ledger_Book_Close.pk (k : Nat) : Pk Try.prog DD := ⟨33, ledger_Book_Close.D k, ledger_Book_Close.sound k, enter_of Try.func33 (by kernel_rfl) (by kernel_rfl)⟩
/-! ### pyx/pyxref11.is: function 103 -/
noncomputable def pyxref11_is.f (k : Nat) (a0 : Int) : Option Bool := cond (decide (a0 ≥ 0)) (some (decide (a0 < 12))) (some false)
noncomputable def pyxref11_is.i : Lay U Int := (pcOne 0 (tAt (vInt .i64))).lay (fun _ => by kernel_rfl)
noncomputable def pyxref11_is.r : Lay U Bool := (pcOne 0 (tAt vBool)).lay (fun _ => by kernel_rfl)
noncomputable def pyxref11_is.D (k : Nat) : FDen U := fdn pyxref11_is.i pyxref11_is.r Try.f103.ntmps [] true (fun x => pyxref11_is.f k (x)) (fun _ _ => rfl)
noncomputable def pyxref11_is.E (k : Nat) : Env U := mkE Try.f103 [] [] [] [] n0 n0 [] false n00
theorem pyxref11_is.eq (k : Nat) (x : Int) : runF (pyxref11_is.E k) (codeOf Try.f103) (pyxref11_is.i.put x) pyxref11_is.r.un = pyxref11_is.f k (x) := by kernel_rfl
theorem pyxref11_is.sound (k : Nat) : Sound Try.prog DD 103 (pyxref11_is.D k) :=
  funP (E := pyxref11_is.E k) (fn := Try.f103) (c := codeOf Try.f103) (mkE_ok _ _ _ _ _ _ _ _ _ _) mixed rfl Try.func103 (by kernel_rfl) (by kernel_rfl) (allL_of (l := []) (by kernel_rfl) allL_nil) pyxref11_is.i pyxref11_is.r [] true (fun x => pyxref11_is.f k (x)) (fun _ _ => rfl) (by kernel_rfl) (pyxref11_is.eq k)
noncomputable def pyxref11_is.pk (k : Nat) : Pk Try.prog DD := ⟨103, pyxref11_is.D k, pyxref11_is.sound k, enter_of Try.func103 (by kernel_rfl) (by kernel_rfl)⟩
/-! ### (pyx/pyxref11.Table).Close: function 89 -/
noncomputable def pyxref11_Table_Close.f (k : Nat) (a0 : Spyxref11_Table) (a1 : Int) : Option (Spyxref11_Table × Int) := (((pyxref11_is.f k a1).bind fun t1 => (cond (!t1) (some (a1, true, (⟨pack 12 false a0.f_Closed, pack 12 0 a0.f_Version⟩ : Spyxref11_Table), (⟨[false, false, false, false, false, false, false, false, false, false, false, false], [0, 0, 0, 0, 0, 0, 0, 0, 0, 0, 0, 0]⟩ : Spyxref11_Table))) (cond (inb a1 12) (cond (Nat.blt (Int.toNat a1) 12) (cond (List.getD (pack 12 false a0.f_Closed) (Int.toNat a1) false) (some (a1, true, (⟨pack 12 false a0.f_Closed, pack 12 0 a0.f_Version⟩ : Spyxref11_Table), (⟨[false, false, false, false, false, false, false, false, false, false, false, false], [0, 0, 0, 0, 0, 0, 0, 0, 0, 0, 0, 0]⟩ : Spyxref11_Table))) (cond (decide (a1 > 0)) (cond (inb (IntKind.wrap .i64 (a1 - 1)) 12) (cond (Nat.blt (Int.toNat (IntKind.wrap .i64 (a1 - 1))) 12) (some (a1, !(List.getD (pack 12 false a0.f_Closed) (Int.toNat (IntKind.wrap .i64 (a1 - 1))) false), (⟨pack 12 false a0.f_Closed, pack 12 0 a0.f_Version⟩ : Spyxref11_Table), (⟨[false, false, false, false, false, false, false, false, false, false, false, false], [0, 0, 0, 0, 0, 0, 0, 0, 0, 0, 0, 0]⟩ : Spyxref11_Table))) none) none) (some (a1, false, (⟨pack 12 false a0.f_Closed, pack 12 0 a0.f_Version⟩ : Spyxref11_Table), (⟨[false, false, false, false, false, false, false, false, false, false, false, false], [0, 0, 0, 0, 0, 0, 0, 0, 0, 0, 0, 0]⟩ : Spyxref11_Table))))) none) none))) : Option (Int × Bool × Spyxref11_Table × Spyxref11_Table)).bind fun y6 => (cond (y6.2.1) (some ((⟨[false, false, false, false, false, false, false, false, false, false, false, false], [0, 0, 0, 0, 0, 0, 0, 0, 0, 0, 0, 0]⟩ : Spyxref11_Table), 8)) (cond (inb y6.1 12) (cond (Nat.blt (Int.toNat y6.1) 12) (cond (inb y6.1 12) (cond (Nat.blt (Int.toNat y6.1) 12) (cond (inb y6.1 12) (cond (Nat.blt (Int.toNat y6.1) 12) (some ((⟨putAll (Int.toNat y6.1) true 0 (pack 12 false y6.2.2.1.f_Closed), putAll (Int.toNat y6.1) (IntKind.wrap .i64 ((List.getD (pack 12 0 y6.2.2.1.f_Version) (Int.toNat y6.1) 0) + 1)) 0 (pack 12 0 y6.2.2.1.f_Version)⟩ : Spyxref11_Table), 0)) none) none) none) none) none) none))
noncomputable def pyxref11_Table_Close.i : Lay U (Spyxref11_Table × Int) := (pcAnd (pcOne 0 (tAt (vCd cd_Spyxref11_Table))) (pcOne 1 (tAt (vInt .i64)))).lay (fun _ => by kernel_rfl)
noncomputable def pyxref11_Table_Close.r : Lay U (Spyxref11_Table × Int) := (pcTup 0 (tqCons (tAt (vCd cd_Spyxref11_Table)) (tqOne (tAt (vInt .i64))))).lay (fun _ => by kernel_rfl)
noncomputable def pyxref11_Table_Close.D (k : Nat) : FDen U := fdn pyxref11_Table_Close.i pyxref11_Table_Close.r Try.f89.ntmps [] true (fun x => pyxref11_Table_Close.f k (x.1) (x.2)) (fun _ _ => rfl)
noncomputable def pyxref11_Table_Close.j1000 : Jk U := ⟨(Int × Bool × Spyxref11_Table × Spyxref11_Table), oNorm (lay [(2, sPtr 2 0), (4, sPtr 4 0), (1, sAt (vInt .i64)), (26, sAt vBool)] [bCd 2 cd_Spyxref11_Table, bCd 4 cd_Spyxref11_Table] (fun _ => by kernel_rfl))⟩
noncomputable def pyxref11_Table_Close.E (k : Nat) : Env U := mkE Try.f89 [pyxref11_is.pk k] [(1000, pyxref11_Table_Close.j1000)] [] [] (fun t => Nat.beq t 90 || Nat.beq t 91) n0 [] false n00
theorem pyxref11_Table_Close.eq (k : Nat) (x : (Spyxref11_Table × Int)) : runF (pyxref11_Table_Close.E k) (codeOf Try.f89) (pyxref11_Table_Close.i.put x) pyxref11_Table_Close.r.un = pyxref11_Table_Close.f k (x.1) (x.2) := by kernel_rfl
theorem pyxref11_Table_Close.sound (k : Nat) : Sound Try.prog DD 89 (pyxref11_Table_Close.D k) :=
  funP (E := pyxref11_Table_Close.E k) (fn := Try.f89) (c := codeOf Try.f89) (mkE_ok _ _ _ _ _ _ _ _ _ _) mixed rfl Try.func89 (by kernel_rfl) (by kernel_rfl) (allL_of (l := []) (by kernel_rfl) allL_nil) pyxref11_Table_Close.i pyxref11_Table_Close.r [] true (fun x => pyxref11_Table_Close.f k (x.1) (x.2)) (fun _ _ => rfl) (by kernel_rfl) (pyxref11_Table_Close.eq k)
noncomputable def pyxref11_Table_Close.pk (k : Nat) : Pk Try.prog DD := ⟨89, pyxref11_Table_Close.D k, pyxref11_Table_Close.sound k, enter_of Try.func89 (by kernel_rfl) (by kernel_rfl)⟩
/-! ### (*pyx/pyxref11.Book).Close: function 40 -/
noncomputable def pyxref11_Book_Close.f (k : Nat) (a0 : Spyxref11_Book) (a1 : Int) : Option (Int × Spyxref11_Book) := (pyxref11_Table_Close.f k (⟨pack 12 false a0.f_T.f_Closed, pack 12 0 a0.f_T.f_Version⟩ : Spyxref11_Table) a1).bind fun t1 => (cond (t1.2 == 0) (some (t1.2, (⟨a0.f_Scale, a0.f_L, (⟨pack 12 false t1.1.f_Closed, pack 12 0 t1.1.f_Version⟩ : Spyxref11_Table)⟩ : Spyxref11_Book))) (some (t1.2, (⟨a0.f_Scale, a0.f_L, (⟨pack 12 false a0.f_T.f_Closed, pack 12 0 a0.f_T.f_Version⟩ : Spyxref11_Table)⟩ : Spyxref11_Book))))
noncomputable def pyxref11_Book_Close.i : Lay U (Spyxref11_Book × Int) := (pcGh 1000000000000000 7000000000000 (pcAnd (pcOne 0 (io_Spyxref11_Book_rt 7000000000000 7000000000000)) (pcOne 1 (tAt (vInt .i64))))).lay (fun _ => by kernel_rfl)
noncomputable def pyxref11_Book_Close.r : Lay U (Int × Spyxref11_Book) := (pcAnd (pcOne 0 (tAt (vInt .i64))) (pcOne 1000000000000000 (io_Spyxref11_Book_rt 7000000000000 7000000000000))).lay (fun _ => by kernel_rfl)
noncomputable def pyxref11_Book_Close.D (k : Nat) : FDen U := fdn pyxref11_Book_Close.i pyxref11_Book_Close.r Try.f40.ntmps [0] false (fun x => pyxref11_Book_Close.f k (x.1) (x.2)) (fun h => by cases h)
noncomputable def pyxref11_Book_Close.E (k : Nat) : Env U := mkE Try.f40 [pyxref11_Table_Close.pk k] [] [] [] n0 n0 [0] false n00
theorem pyxref11_Book_Close.eq (k : Nat) (x : (Spyxref11_Book × Int)) : runF (pyxref11_Book_Close.E k) (codeOf Try.f40) (pyxref11_Book_Close.i.put x) pyxref11_Book_Close.r.un = pyxref11_Book_Close.f k (x.1) (x.2) := by kernel_rfl
theorem pyxref11_Book_Close.sound (k : Nat) : Sound Try.prog DD 40 (pyxref11_Book_Close.D k) :=
  funP (E := pyxref11_Book_Close.E k) (fn := Try.f40) (c := codeOf Try.f40) (mkE_ok _ _ _ _ _ _ _ _ _ _) mixed rfl Try.func40 (by kernel_rfl) (by kernel_rfl) (allL_of (l := []) (by kernel_rfl) allL_nil) pyxref11_Book_Close.i pyxref11_Book_Close.r [0] false (fun x => pyxref11_Book_Close.f k (x.1) (x.2)) (fun h => by cases h) (by kernel_rfl) (pyxref11_Book_Close.eq k)
noncomputable def pyxref11_Book_Close.pk (k : Nat) : Pk Try.prog DD := ⟨40, pyxref11_Book_Close.D k, pyxref11_Book_Close.sound k, enter_of Try.func40 (by kernel_rfl) (by kernel_rfl)⟩
/-! ### pyx/period.Reopen: function 90 -/
noncomputable def period_Reopen.f (k : Nat) (a0 : Speriod_Table) (a1 : Int) : Option (Speriod_Table × Int) := (((period_is.f k a1).bind fun t1 => (cond (!t1) (some (a1, true, (⟨pack 12 false a0.f_Closed, pack 12 0 a0.f_Version⟩ : Speriod_Table), (⟨[false, false, false, false, false, false, false, false, false, false, false, false], [0, 0, 0, 0, 0, 0, 0, 0, 0, 0, 0, 0]⟩ : Speriod_Table))) (cond (inb a1 12) (cond (Nat.blt (Int.toNat a1) 12) (cond (!(List.getD (pack 12 false a0.f_Closed) (Int.toNat a1) false)) (some (a1, true, (⟨pack 12 false a0.f_Closed, pack 12 0 a0.f_Version⟩ : Speriod_Table), (⟨[false, false, false, false, false, false, false, false, false, false, false, false], [0, 0, 0, 0, 0, 0, 0, 0, 0, 0, 0, 0]⟩ : Speriod_Table))) ((period_is.f k (IntKind.wrap .i64 (a1 + 1))).bind fun t6 => (cond (t6) (cond (inb (IntKind.wrap .i64 (a1 + 1)) 12) (cond (Nat.blt (Int.toNat (IntKind.wrap .i64 (a1 + 1))) 12) (some (a1, List.getD (pack 12 false a0.f_Closed) (Int.toNat (IntKind.wrap .i64 (a1 + 1))) false, (⟨pack 12 false a0.f_Closed, pack 12 0 a0.f_Version⟩ : Speriod_Table), (⟨[false, false, false, false, false, false, false, false, false, false, false, false], [0, 0, 0, 0, 0, 0, 0, 0, 0, 0, 0, 0]⟩ : Speriod_Table))) none) none) (some (a1, false, (⟨pack 12 false a0.f_Closed, pack 12 0 a0.f_Version⟩ : Speriod_Table), (⟨[false, false, false, false, false, false, false, false, false, false, false, false], [0, 0, 0, 0, 0, 0, 0, 0, 0, 0, 0, 0]⟩ : Speriod_Table)))))) none) none))) : Option (Int × Bool × Speriod_Table × Speriod_Table)).bind fun y7 => (cond (y7.2.1) (some ((⟨[false, false, false, false, false, false, false, false, false, false, false, false], [0, 0, 0, 0, 0, 0, 0, 0, 0, 0, 0, 0]⟩ : Speriod_Table), 8)) (cond (inb y7.1 12) (cond (Nat.blt (Int.toNat y7.1) 12) (some ((⟨putAll (Int.toNat y7.1) false 0 (pack 12 false y7.2.2.1.f_Closed), pack 12 0 y7.2.2.1.f_Version⟩ : Speriod_Table), 0)) none) none))
noncomputable def period_Reopen.i : Lay U (Speriod_Table × Int) := (pcAnd (pcOne 0 (tAt (vCd cd_Speriod_Table))) (pcOne 1 (tAt (vInt .i64)))).lay (fun _ => by kernel_rfl)
noncomputable def period_Reopen.r : Lay U (Speriod_Table × Int) := (pcTup 0 (tqCons (tAt (vCd cd_Speriod_Table)) (tqOne (tAt (vInt .i64))))).lay (fun _ => by kernel_rfl)
noncomputable def period_Reopen.D (k : Nat) : FDen U := fdn period_Reopen.i period_Reopen.r Try.f90.ntmps [] true (fun x => period_Reopen.f k (x.1) (x.2)) (fun _ _ => rfl)
noncomputable def period_Reopen.j1000 : Jk U := ⟨(Int × Bool × Speriod_Table × Speriod_Table), oNorm (lay [(2, sPtr 2 0), (4, sPtr 4 0), (1, sAt (vInt .i64)), (27, sAt vBool)] [bCd 2 cd_Speriod_Table, bCd 4 cd_Speriod_Table] (fun _ => by kernel_rfl))⟩
noncomputable def period_Reopen.E (k : Nat) : Env U := mkE Try.f90 [period_is.pk k] [(1000, period_Reopen.j1000)] [] [] (fun t => Nat.beq t 90) n0 [] false n00
theorem period_Reopen.eq (k : Nat) (x : (Speriod_Table × Int)) : runF (period_Reopen.E k) (codeOf Try.f90) (period_Reopen.i.put x) period_Reopen.r.un = period_Reopen.f k (x.1) (x.2) := by kernel_rfl
theorem period_Reopen.sound (k : Nat) : Sound Try.prog DD 90 (period_Reopen.D k) :=
  funP (E := period_Reopen.E k) (fn := Try.f90) (c := codeOf Try.f90) (mkE_ok _ _ _ _ _ _ _ _ _ _) mixed rfl Try.func90 (by kernel_rfl) (by kernel_rfl) (allL_of (l := []) (by kernel_rfl) allL_nil) period_Reopen.i period_Reopen.r [] true (fun x => period_Reopen.f k (x.1) (x.2)) (fun _ _ => rfl) (by kernel_rfl) (period_Reopen.eq k)
noncomputable def period_Reopen.pk (k : Nat) : Pk Try.prog DD := ⟨90, period_Reopen.D k, period_Reopen.sound k, enter_of Try.func90 (by kernel_rfl) (by kernel_rfl)⟩
/-! ### (*pyx/ledger.Book).turn: function 77 -/
noncomputable def ledger_Book_turn_c90.f (k : Nat) (a0 : Sledger_Book) (a1 : Unit) (a2 : Int) : Option (Int × Sledger_Book) := (period_Reopen.f k (⟨pack 12 false a0.f_t.f_Closed, pack 12 0 a0.f_t.f_Version⟩ : Speriod_Table) a2).bind fun t1 => (cond (t1.2 == 0) (some (t1.2, (⟨a0.f_scale, a0.f_l, (⟨pack 12 false t1.1.f_Closed, pack 12 0 t1.1.f_Version⟩ : Speriod_Table)⟩ : Sledger_Book))) (some (t1.2, (⟨a0.f_scale, a0.f_l, (⟨pack 12 false a0.f_t.f_Closed, pack 12 0 a0.f_t.f_Version⟩ : Speriod_Table)⟩ : Sledger_Book))))
noncomputable def ledger_Book_turn_c90.un (s : St U) : Option (Sledger_Book × Unit × Int) := match s.get 0, lk s.o 7000000000000, s.get 1, s.get 2, s.get 1000000000000000 with | .ptr 7000000000000 0, some (.lit (.flat (.int .i64 x1) :: x5 :: x3)), .fn 90 [], .flat (.int .i64 x6), .ptr 7000000000000 0 => (tip_Sapi_Entry s.o 3 x5).bind fun ex2 => ((cd_Speriod_Table.full x3).bind fun x4 => (some ((⟨x1, ex2.2, x4⟩ : Sledger_Book), (), x6))) | _, _, _, _, _ => none
noncomputable def ledger_Book_turn_c90.mk (x : (Sledger_Book × Unit × Int)) : St U := ⟨[(0, .ptr 7000000000000 0), (1, .fn 90 []), (2, .flat (.int .i64 x.2.2)), (1000000000000000, .ptr 7000000000000 0)], [(7000000000000, .lit ((.flat (.int .i64 x.1.f_scale)) :: (.tip 7000000000002 C.Sapi_Entry x.1.f_l) :: cd_Speriod_Table.enc x.1.f_t)), (7000000000002, .tip 3)]⟩
noncomputable def ledger_Book_turn_c90.fin (y : (Int × Sledger_Book)) : St U := ⟨[(0, .flat (.int .i64 y.1)), (1000000000000000, .ptr 7000000000000 0)], [(7000000000000, .lit ((.flat (.int .i64 y.2.f_scale)) :: (.tip 7000000000002 C.Sapi_Entry y.2.f_l) :: cd_Speriod_Table.enc y.2.f_t)), (7000000000002, .tip 3)]⟩
noncomputable def ledger_Book_turn_c90.D (k : Nat) : FDen U := { X := (Sledger_Book × Unit × Int), Y := (Int × Sledger_Book), nt := 28, gh := [0], un := ledger_Book_turn_c90.un, f := fun x => ledger_Book_turn_c90.f k (x.1) (x.2.1) (x.2.2), fin := ledger_Book_turn_c90.fin, cl := false, clo := fun h => by cases h }
noncomputable def ledger_Book_turn_c90.re (s : St U) : Option (Int × Sledger_Book) := match s.get 0, s.get 1000000000000000, lk s.o 7000000000000 with | .flat (.int .i64 x1), .ptr 7000000000000 0, some (.lit (.flat (.int .i64 x2) :: x6 :: x4)) => (tip_Sapi_Entry s.o 3 x6).bind fun ex3 => ((cd_Speriod_Table.full x4).bind fun x5 => (some (x1, (⟨x2, ex3.2, x5⟩ : Sledger_Book)))) | _, _, _ => none
noncomputable def ledger_Book_turn_c90.jl : List (Nat × JDen U) := []
noncomputable def ledger_Book_turn_c90.fl (k : Nat) : List (Nat × FDen U) := [(90, period_Reopen.D k)]
noncomputable def ledger_Book_turn_c90.ll (k : Nat) : List (Nat × LDen U) := []
noncomputable def ledger_Book_turn_c90.E (k : Nat) : Env U := { P := Try.prog, D := DD, fd := lk (ledger_Book_turn_c90.fl k), sf := lk sl0, ld := lk (ledger_Book_turn_c90.ll k), jd := lk ledger_Book_turn_c90.jl, mode := lk [], elc := lk ec, mpc := lk mc, rts := Try.f77.resultTypes.toList, dyn := fun t => false, vecs := fun d => false, results := Try.f77.results.toList, gh := [0], own := false, io := fun g i => false }
theorem ledger_Book_turn_c90.ok (k : Nat) : EnvOk (ledger_Book_turn_c90.E k) := envOk lawful (ledger_Book_turn_c90.fl k) sl0 (ledger_Book_turn_c90.ll k) ledger_Book_turn_c90.jl _ _ _ _ _ _ _ _ _ _ (by
  intro p hp
  simp only [ledger_Book_turn_c90.fl, List.mem_cons, List.not_mem_nil, or_false] at hp
  rcases hp with rfl
  · exact ⟨period_Reopen.sound k, enter_of Try.func90 (by kernel_rfl) (by kernel_rfl)⟩) sl0_ok (by
  intro p hp
  simp [ledger_Book_turn_c90.jl] at hp)
theorem ledger_Book_turn_c90.eq (k : Nat) (x : (Sledger_Book × Unit × Int)) : runF (ledger_Book_turn_c90.E k) (codeOf Try.f77) (ledger_Book_turn_c90.mk x) ledger_Book_turn_c90.re = (ledger_Book_turn_c90.D k).f x := by kernel_rfl
theorem ledger_Book_turn_c90.fit (s : St U) (x : (Sledger_Book × Unit × Int)) (h : ledger_Book_turn_c90.un s = some x) : Fits s (ledger_Book_turn_c90.mk x) := by
  unfold ledger_Book_turn_c90.un at h
  split at h
  · obtain ⟨ex2, hex2, hh1⟩ := Option.bind_eq_some_iff.1 h
    obtain ⟨x4, hx4, hh2⟩ := Option.bind_eq_some_iff.1 hh1
    cases hh2
    refine fits_ren [(7000000000002, ex2.1)] ?_ ?_ ren_one rfl
    · exact List.forall_mem_cons.2 ⟨FV.one (FV.ptr (by assumption)), List.forall_mem_cons.2 ⟨FV.one (FV.same (by assumption) rfl), List.forall_mem_cons.2 ⟨FV.one (FV.same (by assumption) rfl), List.forall_mem_cons.2 ⟨FV.one (FV.ptr (by assumption)), fun _ hp => (List.not_mem_nil hp).elim⟩⟩⟩⟩
    · exact List.forall_mem_cons.2 ⟨FO.cells (show lk (St.o _) 7000000000000 = some _ from by assumption) (FCs.cons (c0_same rfl rfl) (FCs.cons ((tip_Sapi_Entry_fit hex2 rfl).1) (FCs.tail (Cd.full_ok hx4) rfl))), List.forall_mem_cons.2 ⟨(tip_Sapi_Entry_fit hex2 rfl).2, fun _ hp => (List.not_mem_nil hp).elim⟩⟩
  · cases h
theorem ledger_Book_turn_c90.fitR (s : St U) (y : (Int × Sledger_Book)) (h : ledger_Book_turn_c90.re s = some y) : Fits s (ledger_Book_turn_c90.fin y) := by
  unfold ledger_Book_turn_c90.re at h
  split at h
  · obtain ⟨ex3, hex3, hh1⟩ := Option.bind_eq_some_iff.1 h
    obtain ⟨x5, hx5, hh2⟩ := Option.bind_eq_some_iff.1 hh1
    cases hh2
    refine fits_ren [(7000000000002, ex3.1)] ?_ ?_ ren_one rfl
    · exact List.forall_mem_cons.2 ⟨FV.one (FV.same (by assumption) rfl), List.forall_mem_cons.2 ⟨FV.one (FV.ptr (by assumption)), fun _ hp => (List.not_mem_nil hp).elim⟩⟩
    · exact List.forall_mem_cons.2 ⟨FO.cells (show lk (St.o _) 7000000000000 = some _ from by assumption) (FCs.cons (c0_same rfl rfl) (FCs.cons ((tip_Sapi_Entry_fit hex3 rfl).1) (FCs.tail (Cd.full_ok hx5) rfl))), List.forall_mem_cons.2 ⟨(tip_Sapi_Entry_fit hex3 rfl).2, fun _ hp => (List.not_mem_nil hp).elim⟩⟩
  · cases h
theorem ledger_Book_turn_c90.sound (k : Nat) : Sound Try.prog DD 77 (ledger_Book_turn_c90.D k) :=
  fun_sound (E := ledger_Book_turn_c90.E k) (fn := Try.f77) (c := codeOf Try.f77) (ledger_Book_turn_c90.ok k) mixed rfl Try.func77 (by kernel_rfl) (by kernel_rfl) (allL_of (l := []) (by kernel_rfl) allL_nil) (ledger_Book_turn_c90.D k) ledger_Book_turn_c90.mk ledger_Book_turn_c90.re (by kernel_rfl) (by kernel_rfl) ledger_Book_turn_c90.fit ledger_Book_turn_c90.fitR (ledger_Book_turn_c90.eq k)
noncomputable def ledger_Book_turn_c90.pk (k : Nat) : Pk Try.prog DD := ⟨77, ledger_Book_turn_c90.D k, ledger_Book_turn_c90.sound k, enter_of Try.func77 (by kernel_rfl) (by kernel_rfl)⟩
/-! ### (*pyx/ledger.Book).Reopen: function 41 -/
noncomputable def ledger_Book_Reopen.f (k : Nat) (a0 : Sledger_Book) (a1 : Int) : Option (Int × Sledger_Book) := (ledger_Book_turn_c90.f k (⟨a0.f_scale, a0.f_l, (⟨pack 12 false a0.f_t.f_Closed, pack 12 0 a0.f_t.f_Version⟩ : Speriod_Table)⟩ : Sledger_Book) () a1).bind fun t1 => (some (t1.1, (⟨t1.2.f_scale, t1.2.f_l, (⟨pack 12 false t1.2.f_t.f_Closed, pack 12 0 t1.2.f_t.f_Version⟩ : Speriod_Table)⟩ : Sledger_Book)))
noncomputable def ledger_Book_Reopen.i : Lay U (Sledger_Book × Int) := (pcGh 1000000000000000 7000000000000 (pcAnd (pcOne 0 (io_Sledger_Book_rt 7000000000000 7000000000000)) (pcOne 1 (tAt (vInt .i64))))).lay (fun _ => by kernel_rfl)
noncomputable def ledger_Book_Reopen.r : Lay U (Int × Sledger_Book) := (pcAnd (pcOne 0 (tAt (vInt .i64))) (pcOne 1000000000000000 (io_Sledger_Book_rt 7000000000000 7000000000000))).lay (fun _ => by kernel_rfl)
noncomputable def ledger_Book_Reopen.D (k : Nat) : FDen U := fdn ledger_Book_Reopen.i ledger_Book_Reopen.r Try.f41.ntmps [0] false (fun x => ledger_Book_Reopen.f k (x.1) (x.2)) (fun h => by cases h)
noncomputable def ledger_Book_Reopen.E (k : Nat) : Env U := mkE Try.f41 [ledger_Book_turn_c90.pk k] [] [] [] n0 n0 [0] false n00
theorem ledger_Book_Reopen.eq (k : Nat) (x : (Sledger_Book × Int)) : runF (ledger_Book_Reopen.E k) (codeOf Try.f41) (ledger_Book_Reopen.i.put x) ledger_Book_Reopen.r.un = ledger_Book_Reopen.f k (x.1) (x.2) := by kernel_rfl
theorem ledger_Book_Reopen.sound (k : Nat) : Sound Try.prog DD 41 (ledger_Book_Reopen.D k) :=
  funP (E := ledger_Book_Reopen.E k) (fn := Try.f41) (c := codeOf Try.f41) (mkE_ok _ _ _ _ _ _ _ _ _ _) mixed rfl Try.func41 (by kernel_rfl) (by kernel_rfl) (allL_of (l := []) (by kernel_rfl) allL_nil) ledger_Book_Reopen.i ledger_Book_Reopen.r [0] false (fun x => ledger_Book_Reopen.f k (x.1) (x.2)) (fun h => by cases h) (by kernel_rfl) (ledger_Book_Reopen.eq k)
noncomputable def ledger_Book_Reopen.pk (k : Nat) : Pk Try.prog DD := ⟨41, ledger_Book_Reopen.D k, ledger_Book_Reopen.sound k, enter_of Try.func41 (by kernel_rfl) (by kernel_rfl)⟩
/-! ### (pyx/pyxref11.Table).Reopen: function 91 -/
noncomputable def pyxref11_Table_Reopen.f (k : Nat) (a0 : Spyxref11_Table) (a1 : Int) : Option (Spyxref11_Table × Int) := (((pyxref11_is.f k a1).bind fun t1 => (cond (!t1) (some (a1, true, (⟨pack 12 false a0.f_Closed, pack 12 0 a0.f_Version⟩ : Spyxref11_Table), (⟨[false, false, false, false, false, false, false, false, false, false, false, false], [0, 0, 0, 0, 0, 0, 0, 0, 0, 0, 0, 0]⟩ : Spyxref11_Table))) (cond (inb a1 12) (cond (Nat.blt (Int.toNat a1) 12) (cond (!(List.getD (pack 12 false a0.f_Closed) (Int.toNat a1) false)) (some (a1, true, (⟨pack 12 false a0.f_Closed, pack 12 0 a0.f_Version⟩ : Spyxref11_Table), (⟨[false, false, false, false, false, false, false, false, false, false, false, false], [0, 0, 0, 0, 0, 0, 0, 0, 0, 0, 0, 0]⟩ : Spyxref11_Table))) (cond (decide ((IntKind.wrap .i64 (a1 + 1)) < 12)) (cond (inb (IntKind.wrap .i64 (a1 + 1)) 12) (cond (Nat.blt (Int.toNat (IntKind.wrap .i64 (a1 + 1))) 12) (some (a1, List.getD (pack 12 false a0.f_Closed) (Int.toNat (IntKind.wrap .i64 (a1 + 1))) false, (⟨pack 12 false a0.f_Closed, pack 12 0 a0.f_Version⟩ : Spyxref11_Table), (⟨[false, false, false, false, false, false, false, false, false, false, false, false], [0, 0, 0, 0, 0, 0, 0, 0, 0, 0, 0, 0]⟩ : Spyxref11_Table))) none) none) (some (a1, false, (⟨pack 12 false a0.f_Closed, pack 12 0 a0.f_Version⟩ : Spyxref11_Table), (⟨[false, false, false, false, false, false, false, false, false, false, false, false], [0, 0, 0, 0, 0, 0, 0, 0, 0, 0, 0, 0]⟩ : Spyxref11_Table))))) none) none))) : Option (Int × Bool × Spyxref11_Table × Spyxref11_Table)).bind fun y6 => (cond (y6.2.1) (some ((⟨[false, false, false, false, false, false, false, false, false, false, false, false], [0, 0, 0, 0, 0, 0, 0, 0, 0, 0, 0, 0]⟩ : Spyxref11_Table), 8)) (cond (inb y6.1 12) (cond (Nat.blt (Int.toNat y6.1) 12) (some ((⟨putAll (Int.toNat y6.1) false 0 (pack 12 false y6.2.2.1.f_Closed), pack 12 0 y6.2.2.1.f_Version⟩ : Spyxref11_Table), 0)) none) none))
noncomputable def pyxref11_Table_Reopen.i : Lay U (Spyxref11_Table × Int) := (pcAnd (pcOne 0 (tAt (vCd cd_Spyxref11_Table))) (pcOne 1 (tAt (vInt .i64)))).lay (fun _ => by kernel_rfl)
noncomputable def pyxref11_Table_Reopen.r : Lay U (Spyxref11_Table × Int) := (pcTup 0 (tqCons (tAt (vCd cd_Spyxref11_Table)) (tqOne (tAt (vInt .i64))))).lay (fun _ => by kernel_rfl)
noncomputable def pyxref11_Table_Reopen.D (k : Nat) : FDen U := fdn pyxref11_Table_Reopen.i pyxref11_Table_Reopen.r Try.f91.ntmps [] true (fun x => pyxref11_Table_Reopen.f k (x.1) (x.2)) (fun _ _ => rfl)
noncomputable def pyxref11_Table_Reopen.j1000 : Jk U := ⟨(Int × Bool × Spyxref11_Table × Spyxref11_Table), oNorm (lay [(2, sPtr 2 0), (4, sPtr 4 0), (1, sAt (vInt .i64)), (27, sAt vBool)] [bCd 2 cd_Spyxref11_Table, bCd 4 cd_Spyxref11_Table] (fun _ => by kernel_rfl))⟩
noncomputable def pyxref11_Table_Reopen.E (k : Nat) : Env U := mkE Try.f91 [pyxref11_is.pk k] [(1000, pyxref11_Table_Reopen.j1000)] [] [] (fun t => Nat.beq t 90) n0 [] false n00
theorem pyxref11_Table_Reopen.eq (k : Nat) (x : (Spyxref11_Table × Int)) : runF (pyxref11_Table_Reopen.E k) (codeOf Try.f91) (pyxref11_Table_Reopen.i.put x) pyxref11_Table_Reopen.r.un = pyxref11_Table_Reopen.f k (x.1) (x.2) := by kernel_rfl
theorem pyxref11_Table_Reopen.sound (k : Nat) : Sound Try.prog DD 91 (pyxref11_Table_Reopen.D k) :=
  funP (E := pyxref11_Table_Reopen.E k) (fn := Try.f91) (c := codeOf Try.f91) (mkE_ok _ _ _ _ _ _ _ _ _ _) mixed rfl Try.func91 (by kernel_rfl) (by kernel_rfl) (allL_of (l := []) (by kernel_rfl) allL_nil) pyxref11_Table_Reopen.i pyxref11_Table_Reopen.r [] true (fun x => pyxref11_Table_Reopen.f k (x.1) (x.2)) (fun _ _ => rfl) (by kernel_rfl) (pyxref11_Table_Reopen.eq k)
noncomputable def pyxref11_Table_Reopen.pk (k : Nat) : Pk Try.prog DD := ⟨91, pyxref11_Table_Reopen.D k, pyxref11_Table_Reopen.sound k, enter_of Try.func91 (by kernel_rfl) (by kernel_rfl)⟩
/-! ### (*pyx/pyxref11.Book).Reopen: function 42 -/
noncomputable def pyxref11_Book_Reopen.f (k : Nat) (a0 : Spyxref11_Book) (a1 : Int) : Option (Int × Spyxref11_Book) := (pyxref11_Table_Reopen.f k (⟨pack 12 false a0.f_T.f_Closed, pack 12 0 a0.f_T.f_Version⟩ : Spyxref11_Table) a1).bind fun t1 => (cond (t1.2 == 0) (some (t1.2, (⟨a0.f_Scale, a0.f_L, (⟨pack 12 false t1.1.f_Closed, pack 12 0 t1.1.f_Version⟩ : Spyxref11_Table)⟩ : Spyxref11_Book))) (some (t1.2, (⟨a0.f_Scale, a0.f_L, (⟨pack 12 false a0.f_T.f_Closed, pack 12 0 a0.f_T.f_Version⟩ : Spyxref11_Table)⟩ : Spyxref11_Book))))
noncomputable def pyxref11_Book_Reopen.i : Lay U (Spyxref11_Book × Int) := (pcGh 1000000000000000 7000000000000 (pcAnd (pcOne 0 (io_Spyxref11_Book_rt 7000000000000 7000000000000)) (pcOne 1 (tAt (vInt .i64))))).lay (fun _ => by kernel_rfl)
noncomputable def pyxref11_Book_Reopen.r : Lay U (Int × Spyxref11_Book) := (pcAnd (pcOne 0 (tAt (vInt .i64))) (pcOne 1000000000000000 (io_Spyxref11_Book_rt 7000000000000 7000000000000))).lay (fun _ => by kernel_rfl)
noncomputable def pyxref11_Book_Reopen.D (k : Nat) : FDen U := fdn pyxref11_Book_Reopen.i pyxref11_Book_Reopen.r Try.f42.ntmps [0] false (fun x => pyxref11_Book_Reopen.f k (x.1) (x.2)) (fun h => by cases h)
noncomputable def pyxref11_Book_Reopen.E (k : Nat) : Env U := mkE Try.f42 [pyxref11_Table_Reopen.pk k] [] [] [] n0 n0 [0] false n00
theorem pyxref11_Book_Reopen.eq (k : Nat) (x : (Spyxref11_Book × Int)) : runF (pyxref11_Book_Reopen.E k) (codeOf Try.f42) (pyxref11_Book_Reopen.i.put x) pyxref11_Book_Reopen.r.un = pyxref11_Book_Reopen.f k (x.1) (x.2) := by kernel_rfl
theorem pyxref11_Book_Reopen.sound (k : Nat) : Sound Try.prog DD 42 (pyxref11_Book_Reopen.D k) :=
  funP (E := pyxref11_Book_Reopen.E k) (fn := Try.f42) (c := codeOf Try.f42) (mkE_ok _ _ _ _ _ _ _ _ _ _) mixed rfl Try.func42 (by kernel_rfl) (by kernel_rfl) (allL_of (l := []) (by kernel_rfl) allL_nil) pyxref11_Book_Reopen.i pyxref11_Book_Reopen.r [0] false (fun x => pyxref11_Book_Reopen.f k (x.1) (x.2)) (fun h => by cases h) (by kernel_rfl) (pyxref11_Book_Reopen.eq k)
noncomputable def pyxref11_Book_Reopen.pk (k : Nat) : Pk Try.prog DD := ⟨42, pyxref11_Book_Reopen.D k, pyxref11_Book_Reopen.sound k, enter_of Try.func42 (by kernel_rfl) (by kernel_rfl)⟩
/-! ### (*pyx/ledger.Book).Reverse$1: function 80 -/
noncomputable def ledger_Book_Reverse_1.f (k : Nat) (a0 : Sapi_Entry) (a1 : Int) : Option Bool := some (a0.f_Of == a1)
noncomputable def ledger_Book_Reverse_1.i : Lay U (Sapi_Entry × Int) := (pcAnd (pcOne 0 (tAt (vCd cd_Sapi_Entry))) (pcOne 1 (tAt (vRp (Cd.int .i64))))).lay (fun _ => by kernel_rfl)
noncomputable def ledger_Book_Reverse_1.r : Lay U Bool := (pcOne 0 (tAt vBool)).lay (fun _ => by kernel_rfl)
noncomputable def ledger_Book_Reverse_1.D (k : Nat) : FDen U := fdn ledger_Book_Reverse_1.i ledger_Book_Reverse_1.r Try.f80.ntmps [] true (fun x => ledger_Book_Reverse_1.f k (x.1) (x.2)) (fun _ _ => rfl)
noncomputable def ledger_Book_Reverse_1.E (k : Nat) : Env U := mkE Try.f80 [] [] [] [] n0 n0 [] false n00
theorem ledger_Book_Reverse_1.eq (k : Nat) (x : (Sapi_Entry × Int)) : runF (ledger_Book_Reverse_1.E k) (codeOf Try.f80) (ledger_Book_Reverse_1.i.put x) ledger_Book_Reverse_1.r.un = ledger_Book_Reverse_1.f k (x.1) (x.2) := by kernel_rfl
theorem ledger_Book_Reverse_1.sound (k : Nat) : Sound Try.prog DD 80 (ledger_Book_Reverse_1.D k) :=
  funP (E := ledger_Book_Reverse_1.E k) (fn := Try.f80) (c := codeOf Try.f80) (mkE_ok _ _ _ _ _ _ _ _ _ _) mixed rfl Try.func80 (by kernel_rfl) (by kernel_rfl) (allL_of (l := []) (by kernel_rfl) allL_nil) ledger_Book_Reverse_1.i ledger_Book_Reverse_1.r [] true (fun x => ledger_Book_Reverse_1.f k (x.1) (x.2)) (fun _ _ => rfl) (by kernel_rfl) (ledger_Book_Reverse_1.eq k)
noncomputable def ledger_Book_Reverse_1.pk (k : Nat) : Pk Try.prog DD := ⟨80, ledger_Book_Reverse_1.D k, ledger_Book_Reverse_1.sound k, enter_of Try.func80 (by kernel_rfl) (by kernel_rfl)⟩
/-! ### slices.IndexFunc[[]pyx/api.Entry,pyx/api.Entry]: function 122 -/
noncomputable def slices_IndexFunc_api_Entry_c80.l2.once (k : Nat) (x : (List Sapi_Entry × Int × Int × Int)) : Option ((List Sapi_Entry × Int × Int × Int) ⊕ (Unit ⊕ Int)) := match x with | (x1, x2, x3, x4) => cond (decide (x4 < x3)) (cond (inb x4 (List.length x1)) ((ledger_Book_Reverse_1.f k (⟨(List.getD x1 (Int.toNat x4) Sapi_Entry.zero).f_Period, (List.getD x1 (Int.toNat x4) Sapi_Entry.zero).f_Lines, (List.getD x1 (Int.toNat x4) Sapi_Entry.zero).f_Of⟩ : Sapi_Entry) x2).bind fun t5 => (cond (t5) (some (.inr (.inr x4))) (some (.inl (x1, x2, x3, IntKind.wrap .i64 (x4 + 1)))))) none) (some (.inr (.inl ())))
noncomputable def slices_IndexFunc_api_Entry_c80.f (k : Nat) (a0 : List Sapi_Entry) (a1 : Int) : Option Int := (iter (slices_IndexFunc_api_Entry_c80.l2.once k) k (a0, a1, (List.length a0 : Int), 0)).bind fun | .inl y7 => (some (-1)) | .inr y8 => (some y8)
noncomputable def slices_IndexFunc_api_Entry_c80.un (s : St U) : Option (List Sapi_Entry × Int) := match s.get 0, s.get 1 with | .row C.Sapi_Entry x1, .fn 80 [.rp [.flat (.int .i64 x2)] 0] => some (x1, x2) | _, _ => none
noncomputable def slices_IndexFunc_api_Entry_c80.mk (x : (List Sapi_Entry × Int)) : St U := ⟨[(0, .row C.Sapi_Entry x.1), (1, .fn 80 [.rp [.flat (.int .i64 x.2)] 0])], []⟩
noncomputable def slices_IndexFunc_api_Entry_c80.fin (y : Int) : St U := ⟨[(0, .flat (.int .i64 y))], []⟩
noncomputable def slices_IndexFunc_api_Entry_c80.D (k : Nat) : FDen U := { X := (List Sapi_Entry × Int), Y := Int, nt := 19, gh := [], un := slices_IndexFunc_api_Entry_c80.un, f := fun x => slices_IndexFunc_api_Entry_c80.f k (x.1) (x.2), fin := slices_IndexFunc_api_Entry_c80.fin, cl := true, clo := fun _ _ => rfl }
noncomputable def slices_IndexFunc_api_Entry_c80.re (s : St U) : Option Int := match s.get 0 with | .flat (.int .i64 x1) => some x1 | _ => none
noncomputable def slices_IndexFunc_api_Entry_c80.l2.mk (x : (List Sapi_Entry × Int × Int × Int)) : St U := match x with | (x1, x2, x3, x4) => ⟨[(0, .row C.Sapi_Entry x1), (1, .fn 80 [.rp [.flat (.int .i64 x2)] 0]), (7, .flat (.int .i64 x3)), (8, .flat (.int .i64 x4))], []⟩
noncomputable def slices_IndexFunc_api_Entry_c80.l2.un (s : St U) : Option (List Sapi_Entry × Int × Int × Int) := (row_Sapi_Entry (s.get 0)).bind fun q0 => (match s.get 1, s.get 7, s.get 8 with | .fn 80 [.rp [.flat (.int .i64 x2)] 0], .flat (.int .i64 x3), .flat (.int .i64 x4) => some (q0, x2, x3, x4) | _, _, _ => none)
noncomputable def slices_IndexFunc_api_Entry_c80.l2.fin (y : Unit ⊕ Int) : Out U := match y with | .inl () => .exit 0 ⟨[], []⟩ | .inr z => .ret (⟨[(0, .flat (.int .i64 z))], []⟩)
noncomputable def slices_IndexFunc_api_Entry_c80.l2.finK {ρ : Type} (y : Unit ⊕ Int) (K : Out U → Option ρ) : Option ρ := match y with | .inl () => K (.exit 0 ⟨[], []⟩) | .inr z => K (.ret (⟨[(0, .flat (.int .i64 z))], []⟩))
theorem slices_IndexFunc_api_Entry_c80.l2.finK_eq {ρ : Type} (y : Unit ⊕ Int) (K : Out U → Option ρ) : slices_IndexFunc_api_Entry_c80.l2.finK y K = K (slices_IndexFunc_api_Entry_c80.l2.fin y) := by
  unfold slices_IndexFunc_api_Entry_c80.l2.finK slices_IndexFunc_api_Entry_c80.l2.fin
  first | rfl | (split <;> rfl)
noncomputable def slices_IndexFunc_api_Entry_c80.l2.re : Out U → Option (Unit ⊕ Int) | .exit 0 s => (some (.inl ())) | .ret s => (match s.get 0 with | .flat (.int .i64 x1) => some (.inr x1) | _ => none) | _ => none
noncomputable def slices_IndexFunc_api_Entry_c80.l2.L (k : Nat) : LDen U := { X := (List Sapi_Entry × Int × Int × Int), Y := Unit ⊕ Int, un := slices_IndexFunc_api_Entry_c80.l2.un, f := iter (slices_IndexFunc_api_Entry_c80.l2.once k) k, fin := slices_IndexFunc_api_Entry_c80.l2.fin, finK := slices_IndexFunc_api_Entry_c80.l2.finK, finK_eq := slices_IndexFunc_api_Entry_c80.l2.finK_eq }
noncomputable def slices_IndexFunc_api_Entry_c80.jl : List (Nat × JDen U) := []
noncomputable def slices_IndexFunc_api_Entry_c80.fl (k : Nat) : List (Nat × FDen U) := [(80, ledger_Book_Reverse_1.D k)]
noncomputable def slices_IndexFunc_api_Entry_c80.ll (k : Nat) : List (Nat × LDen U) := [(2, slices_IndexFunc_api_Entry_c80.l2.L k)]
noncomputable def slices_IndexFunc_api_Entry_c80.E (k : Nat) : Env U := { P := Try.prog, D := DD, fd := lk (slices_IndexFunc_api_Entry_c80.fl k), sf := lk sl0, ld := lk (slices_IndexFunc_api_Entry_c80.ll k), jd := lk slices_IndexFunc_api_Entry_c80.jl, mode := lk [], elc := lk ec, mpc := lk mc, rts := Try.f122.resultTypes.toList, dyn := fun t => false, vecs := fun d => false, results := Try.f122.results.toList, gh := [], own := false, io := fun g i => false }
theorem slices_IndexFunc_api_Entry_c80.ok (k : Nat) : EnvOk (slices_IndexFunc_api_Entry_c80.E k) := envOk lawful (slices_IndexFunc_api_Entry_c80.fl k) sl0 (slices_IndexFunc_api_Entry_c80.ll k) slices_IndexFunc_api_Entry_c80.jl _ _ _ _ _ _ _ _ _ _ (by
  intro p hp
  simp only [slices_IndexFunc_api_Entry_c80.fl, List.mem_cons, List.not_mem_nil, or_false] at hp
  rcases hp with rfl
  · exact ⟨ledger_Book_Reverse_1.sound k, enter_of Try.func80 (by kernel_rfl) (by kernel_rfl)⟩) sl0_ok (by
  intro p hp
  simp [slices_IndexFunc_api_Entry_c80.jl] at hp)
theorem slices_IndexFunc_api_Entry_c80.l2.eq (k : Nat) (x : (List Sapi_Entry × Int × Int × Int)) : evC (slices_IndexFunc_api_Entry_c80.E k) (loopAt Try.f122 2) (slices_IndexFunc_api_Entry_c80.l2.mk x) (headK slices_IndexFunc_api_Entry_c80.l2.un slices_IndexFunc_api_Entry_c80.l2.re) = slices_IndexFunc_api_Entry_c80.l2.once k x := by kernel_rfl
theorem slices_IndexFunc_api_Entry_c80.l2.fit (s : St U) (x : (List Sapi_Entry × Int × Int × Int)) (h : slices_IndexFunc_api_Entry_c80.l2.un s = some x) : Fits s (slices_IndexFunc_api_Entry_c80.l2.mk x) := by
  unfold slices_IndexFunc_api_Entry_c80.l2.un at h
  obtain ⟨q0, eq0, h1⟩ := Option.bind_eq_some_iff.1 h
  split at h1
  · cases h1
    refine fits_ren [] ?_ ?_ ren_nil rfl
    · exact List.forall_mem_cons.2 ⟨FV.one (row_Sapi_Entry_fit eq0), List.forall_mem_cons.2 ⟨FV.one (FV.same (by assumption) rfl), List.forall_mem_cons.2 ⟨FV.one (FV.same (by assumption) rfl), List.forall_mem_cons.2 ⟨FV.one (FV.same (by assumption) rfl), fun _ hp => (List.not_mem_nil hp).elim⟩⟩⟩⟩
    · exact fun _ hp => (List.not_mem_nil hp).elim
  · cases h1
theorem slices_IndexFunc_api_Entry_c80.l2.fitO (o : Out U) (y : Unit ⊕ Int) (h : slices_IndexFunc_api_Entry_c80.l2.re o = some y) : FitsO o (slices_IndexFunc_api_Entry_c80.l2.fin y) := by
  unfold slices_IndexFunc_api_Entry_c80.l2.re at h
  split at h
  · cases h
    refine fitsO_exit (fits_ren [] ?_ ?_ ren_nil rfl)
    · exact fun _ hp => (List.not_mem_nil hp).elim
    · exact fun _ hp => (List.not_mem_nil hp).elim
  · split at h
    · cases h
      refine fitsO_ret (fits_ren [] ?_ ?_ ren_nil rfl)
      · exact List.forall_mem_cons.2 ⟨FV.one (FV.same (by assumption) rfl), fun _ hp => (List.not_mem_nil hp).elim⟩
      · exact fun _ hp => (List.not_mem_nil hp).elim
    · cases h
  · cases h
theorem slices_IndexFunc_api_Entry_c80.l2.sound (k : Nat) : LSound (slices_IndexFunc_api_Entry_c80.E k) Try.f122.ntmps Try.f122 (loopAt Try.f122 2) (slices_IndexFunc_api_Entry_c80.l2.L k) :=
  loop_sound (slices_IndexFunc_api_Entry_c80.ok k) mixed rfl (by kernel_rfl) (allL_of (l := []) (by kernel_rfl) allL_nil) slices_IndexFunc_api_Entry_c80.l2.un slices_IndexFunc_api_Entry_c80.l2.mk slices_IndexFunc_api_Entry_c80.l2.fin slices_IndexFunc_api_Entry_c80.l2.re (slices_IndexFunc_api_Entry_c80.l2.once k) k slices_IndexFunc_api_Entry_c80.l2.fit slices_IndexFunc_api_Entry_c80.l2.fitO (slices_IndexFunc_api_Entry_c80.l2.eq k) slices_IndexFunc_api_Entry_c80.l2.finK slices_IndexFunc_api_Entry_c80.l2.finK_eq
theorem slices_IndexFunc_api_Entry_c80.eq (k : Nat) (x : (List Sapi_Entry × Int)) : runF (slices_IndexFunc_api_Entry_c80.E k) (codeOf Try.f122) (slices_IndexFunc_api_Entry_c80.mk x) slices_IndexFunc_api_Entry_c80.re = (slices_IndexFunc_api_Entry_c80.D k).f x := by kernel_rfl
theorem slices_IndexFunc_api_Entry_c80.fit (s : St U) (x : (List Sapi_Entry × Int)) (h : slices_IndexFunc_api_Entry_c80.un s = some x) : Fits s (slices_IndexFunc_api_Entry_c80.mk x) := by
  unfold slices_IndexFunc_api_Entry_c80.un at h
  split at h
  · cases h
    refine fits_ren [] ?_ ?_ ren_nil rfl
    · exact List.forall_mem_cons.2 ⟨FV.one (FV.same (by assumption) rfl), List.forall_mem_cons.2 ⟨FV.one (FV.same (by assumption) rfl), fun _ hp => (List.not_mem_nil hp).elim⟩⟩
    · exact fun _ hp => (List.not_mem_nil hp).elim
  · cases h
theorem slices_IndexFunc_api_Entry_c80.fitR (s : St U) (y : Int) (h : slices_IndexFunc_api_Entry_c80.re s = some y) : Fits s (slices_IndexFunc_api_Entry_c80.fin y) := by
  unfold slices_IndexFunc_api_Entry_c80.re at h
  split at h
  · cases h
    refine fits_ren [] ?_ ?_ ren_nil rfl
    · exact List.forall_mem_cons.2 ⟨FV.one (FV.same (by assumption) rfl), fun _ hp => (List.not_mem_nil hp).elim⟩
    · exact fun _ hp => (List.not_mem_nil hp).elim
  · cases h
theorem slices_IndexFunc_api_Entry_c80.sound (k : Nat) : Sound Try.prog DD 122 (slices_IndexFunc_api_Entry_c80.D k) :=
  fun_sound (E := slices_IndexFunc_api_Entry_c80.E k) (fn := Try.f122) (c := codeOf Try.f122) (slices_IndexFunc_api_Entry_c80.ok k) mixed rfl Try.func122 (by kernel_rfl) (by kernel_rfl) (allL_of (l := [loopAt Try.f122 2]) (by kernel_rfl) (allL_cons (key := 2) (by kernel_rfl) rfl (slices_IndexFunc_api_Entry_c80.l2.sound k) allL_nil)) (slices_IndexFunc_api_Entry_c80.D k) slices_IndexFunc_api_Entry_c80.mk slices_IndexFunc_api_Entry_c80.re (by kernel_rfl) (by kernel_rfl) slices_IndexFunc_api_Entry_c80.fit slices_IndexFunc_api_Entry_c80.fitR (slices_IndexFunc_api_Entry_c80.eq k)
noncomputable def slices_IndexFunc_api_Entry_c80.pk (k : Nat) : Pk Try.prog DD := ⟨122, slices_IndexFunc_api_Entry_c80.D k, slices_IndexFunc_api_Entry_c80.sound k, enter_of Try.func122 (by kernel_rfl) (by kernel_rfl)⟩
/-! ### slices.ContainsFunc[[]pyx/api.Entry,pyx/api.Entry]: function 79 -/
noncomputable def slices_ContainsFunc_api_Entry_c80.f (k : Nat) (a0 : List Sapi_Entry) (a1 : Int) : Option Bool := (slices_IndexFunc_api_Entry_c80.f k a0 a1).bind fun t1 => (some (decide (t1 ≥ 0)))
noncomputable def slices_ContainsFunc_api_Entry_c80.un (s : St U) : Option (List Sapi_Entry × Int) := match s.get 0, s.get 1 with | .row C.Sapi_Entry x1, .fn 80 [.rp [.flat (.int .i64 x2)] 0] => some (x1, x2) | _, _ => none
noncomputable def slices_ContainsFunc_api_Entry_c80.mk (x : (List Sapi_Entry × Int)) : St U := ⟨[(0, .row C.Sapi_Entry x.1), (1, .fn 80 [.rp [.flat (.int .i64 x.2)] 0])], []⟩
noncomputable def slices_ContainsFunc_api_Entry_c80.fin (y : Bool) : St U := ⟨[(0, .flat (.bool y))], []⟩
noncomputable def slices_ContainsFunc_api_Entry_c80.D (k : Nat) : FDen U := { X := (List Sapi_Entry × Int), Y := Bool, nt := 9, gh := [], un := slices_ContainsFunc_api_Entry_c80.un, f := fun x => slices_ContainsFunc_api_Entry_c80.f k (x.1) (x.2), fin := slices_ContainsFunc_api_Entry_c80.fin, cl := true, clo := fun _ _ => rfl }
noncomputable def slices_ContainsFunc_api_Entry_c80.re (s : St U) : Option Bool := match s.get 0 with | .flat (.bool x1) => some x1 | _ => none
noncomputable def slices_ContainsFunc_api_Entry_c80.jl : List (Nat × JDen U) := []
noncomputable def slices_ContainsFunc_api_Entry_c80.fl (k : Nat) : List (Nat × FDen U) := [(122, slices_IndexFunc_api_Entry_c80.D k)]
noncomputable def slices_ContainsFunc_api_Entry_c80.ll (k : Nat) : List (Nat × LDen U) := []
noncomputable def slices_ContainsFunc_api_Entry_c80.E (k : Nat) : Env U := { P := Try.prog, D := DD, fd := lk (slices_ContainsFunc_api_Entry_c80.fl k), sf := lk sl0, ld := lk (slices_ContainsFunc_api_Entry_c80.ll k), jd := lk slices_ContainsFunc_api_Entry_c80.jl, mode := lk [], elc := lk ec, mpc := lk mc, rts := Try.f79.resultTypes.toList, dyn := fun t => false, vecs := fun d => false, results := Try.f79.results.toList, gh := [], own := false, io := fun g i => false }
theorem slices_ContainsFunc_api_Entry_c80.ok (k : Nat) : EnvOk (slices_ContainsFunc_api_Entry_c80.E k) := envOk lawful (slices_ContainsFunc_api_Entry_c80.fl k) sl0 (slices_ContainsFunc_api_Entry_c80.ll k) slices_ContainsFunc_api_Entry_c80.jl _ _ _ _ _ _ _ _ _ _ (by
  intro p hp
  simp only [slices_ContainsFunc_api_Entry_c80.fl, List.mem_cons, List.not_mem_nil, or_false] at hp
  rcases hp with rfl
  · exact ⟨slices_IndexFunc_api_Entry_c80.sound k, enter_of Try.func122 (by kernel_rfl) (by kernel_rfl)⟩) sl0_ok (by
  intro p hp
  simp [slices_ContainsFunc_api_Entry_c80.jl] at hp)
theorem slices_ContainsFunc_api_Entry_c80.eq (k : Nat) (x : (List Sapi_Entry × Int)) : runF (slices_ContainsFunc_api_Entry_c80.E k) (codeOf Try.f79) (slices_ContainsFunc_api_Entry_c80.mk x) slices_ContainsFunc_api_Entry_c80.re = (slices_ContainsFunc_api_Entry_c80.D k).f x := by kernel_rfl
theorem slices_ContainsFunc_api_Entry_c80.fit (s : St U) (x : (List Sapi_Entry × Int)) (h : slices_ContainsFunc_api_Entry_c80.un s = some x) : Fits s (slices_ContainsFunc_api_Entry_c80.mk x) := by
  unfold slices_ContainsFunc_api_Entry_c80.un at h
  split at h
  · cases h
    refine fits_ren [] ?_ ?_ ren_nil rfl
    · exact List.forall_mem_cons.2 ⟨FV.one (FV.same (by assumption) rfl), List.forall_mem_cons.2 ⟨FV.one (FV.same (by assumption) rfl), fun _ hp => (List.not_mem_nil hp).elim⟩⟩
    · exact fun _ hp => (List.not_mem_nil hp).elim
  · cases h
theorem slices_ContainsFunc_api_Entry_c80.fitR (s : St U) (y : Bool) (h : slices_ContainsFunc_api_Entry_c80.re s = some y) : Fits s (slices_ContainsFunc_api_Entry_c80.fin y) := by
  unfold slices_ContainsFunc_api_Entry_c80.re at h
  split at h
  · cases h
    refine fits_ren [] ?_ ?_ ren_nil rfl
    · exact List.forall_mem_cons.2 ⟨FV.one (FV.same (by assumption) rfl), fun _ hp => (List.not_mem_nil hp).elim⟩
    · exact fun _ hp => (List.not_mem_nil hp).elim
  · cases h
theorem slices_ContainsFunc_api_Entry_c80.sound (k : Nat) : Sound Try.prog DD 79 (slices_ContainsFunc_api_Entry_c80.D k) :=
  fun_sound (E := slices_ContainsFunc_api_Entry_c80.E k) (fn := Try.f79) (c := codeOf Try.f79) (slices_ContainsFunc_api_Entry_c80.ok k) mixed rfl Try.func79 (by kernel_rfl) (by kernel_rfl) (allL_of (l := []) (by kernel_rfl) allL_nil) (slices_ContainsFunc_api_Entry_c80.D k) slices_ContainsFunc_api_Entry_c80.mk slices_ContainsFunc_api_Entry_c80.re (by kernel_rfl) (by kernel_rfl) slices_ContainsFunc_api_Entry_c80.fit slices_ContainsFunc_api_Entry_c80.fitR (slices_ContainsFunc_api_Entry_c80.eq k)
noncomputable def slices_ContainsFunc_api_Entry_c80.pk (k : Nat) : Pk Try.prog DD := ⟨79, slices_ContainsFunc_api_Entry_c80.D k, slices_ContainsFunc_api_Entry_c80.sound k, enter_of Try.func79 (by kernel_rfl) (by kernel_rfl)⟩
/-! ### pyx/dec.Neg: function 47 -/
noncomputable def dec_Neg.f (k : Nat) (a0 : Sapi_Dec) : Option Sapi_Dec := (dec_Right.f k (⟨a0.f_Neg, (a0.f_C.1, a0.f_C.2), a0.f_Scale⟩ : Sapi_Dec)).bind fun t1 => (cond (!t1) (some (⟨false, (0, 0), 0⟩ : Sapi_Dec)) (cond (!a0.f_Neg) ((dec_nought.f k (a0.f_C.1, a0.f_C.2)).bind fun t2 => (some (⟨!t2, (a0.f_C.1, a0.f_C.2), a0.f_Scale⟩ : Sapi_Dec))) (some (⟨false, (a0.f_C.1, a0.f_C.2), a0.f_Scale⟩ : Sapi_Dec))))
noncomputable def dec_Neg.i : Lay U Sapi_Dec := (pcOne 0 (tAt (vCd cd_Sapi_Dec))).lay (fun _ => by kernel_rfl)
noncomputable def dec_Neg.r : Lay U Sapi_Dec := (pcOne 0 (tAt (vCd cd_Sapi_Dec))).lay (fun _ => by kernel_rfl)
noncomputable def dec_Neg.D (k : Nat) : FDen U := fdn dec_Neg.i dec_Neg.r Try.f47.ntmps [] true (fun x => dec_Neg.f k (x)) (fun _ _ => rfl)
noncomputable def dec_Neg.E (k : Nat) : Env U := mkE Try.f47 [dec_Right.pk k, dec_nought.pk k] [] [] [] n0 n0 [] false n00
theorem dec_Neg.eq (k : Nat) (x : Sapi_Dec) : runF (dec_Neg.E k) (codeOf Try.f47) (dec_Neg.i.put x) dec_Neg.r.un = dec_Neg.f k (x) := by kernel_rfl
theorem dec_Neg.sound (k : Nat) : Sound Try.prog DD 47 (dec_Neg.D k) :=
  funP (E := dec_Neg.E k) (fn := Try.f47) (c := codeOf Try.f47) (mkE_ok _ _ _ _ _ _ _ _ _ _) mixed rfl Try.func47 (by kernel_rfl) (by kernel_rfl) (allL_of (l := []) (by kernel_rfl) allL_nil) dec_Neg.i dec_Neg.r [] true (fun x => dec_Neg.f k (x)) (fun _ _ => rfl) (by kernel_rfl) (dec_Neg.eq k)
noncomputable def dec_Neg.pk (k : Nat) : Pk Try.prog DD := ⟨47, dec_Neg.D k, dec_Neg.sound k, enter_of Try.func47 (by kernel_rfl) (by kernel_rfl)⟩
end
end Go.Proofs.Ytlaogfkgkpgofaa
