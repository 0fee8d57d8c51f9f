import Derived.Test.YtlaogfkgkpgofaaF4
/-! Functions, told; their equations with the evaluator; that they are sound. Written by gen.py. -/
namespace Go.Proofs.Ytlaogfkgkpgofaa
open Go Go.Ev
noncomputable section
set_option linter.unusedVariables false
set_option linter.unusedSimpArgs false
set_option maxRecDepth 100000
/-! ### (*pyx/ledger.Book).Close: function 33 -/
noncomputable def ledger_Book_Close.f (k : Nat) (a0 : Sledger_Book) (a1 : Int) : Option (Int × Sledger_Book) := (ledger_Book_turn_c78.f k (⟨a0.f_scale, a0.f_l, (⟨pack 12 false a0.f_t.f_Closed, pack 12 0 a0.f_t.f_Version⟩ : Speriod_Table)⟩ : Sledger_Book) () a1).bind fun t1 => (some (t1.1, (⟨t1.2.f_scale, t1.2.f_l, (⟨pack 12 false t1.2.f_t.f_Closed, pack 12 0 t1.2.f_t.f_Version⟩ : Speriod_Table)⟩ : Sledger_Book)))
noncomputable def ledger_Book_Close.un (s : St U) : Option (Sledger_Book × Int) := match s.get 0, lk s.o 7000000000000, s.get 1, s.get 1000000000000000 with | .ptr 7000000000000 0, some (.lit (.flat (.int .i64 x1) :: x5 :: x3)), .flat (.int .i64 x6), .ptr 7000000000000 0 => (tip_Sapi_Entry s.o 3 x5).bind fun ex2 => ((cd_Speriod_Table.full x3).bind fun x4 => (some ((⟨x1, ex2.2, x4⟩ : Sledger_Book), x6))) | _, _, _, _ => none
noncomputable def ledger_Book_Close.mk (x : (Sledger_Book × Int)) : St U := ⟨[(0, .ptr 7000000000000 0), (1, .flat (.int .i64 x.2)), (1000000000000000, .ptr 7000000000000 0)], [(7000000000000, .lit ((.flat (.int .i64 x.1.f_scale)) :: (.tip 7000000000002 C.Sapi_Entry x.1.f_l) :: cd_Speriod_Table.enc x.1.f_t)), (7000000000002, .tip 3)]⟩
noncomputable def ledger_Book_Close.fin (y : (Int × Sledger_Book)) : St U := ⟨[(0, .flat (.int .i64 y.1)), (1000000000000000, .ptr 7000000000000 0)], [(7000000000000, .lit ((.flat (.int .i64 y.2.f_scale)) :: (.tip 7000000000002 C.Sapi_Entry y.2.f_l) :: cd_Speriod_Table.enc y.2.f_t)), (7000000000002, .tip 3)]⟩
noncomputable def ledger_Book_Close.D (k : Nat) : FDen U := { X := (Sledger_Book × Int), Y := (Int × Sledger_Book), nt := 8, gh := [0], un := ledger_Book_Close.un, f := fun x => ledger_Book_Close.f k (x.1) (x.2), fin := ledger_Book_Close.fin, cl := false, clo := fun h => by cases h }
noncomputable def ledger_Book_Close.re (s : St U) : Option (Int × Sledger_Book) := match s.get 0, s.get 1000000000000000, lk s.o 7000000000000 with | .flat (.int .i64 x1), .ptr 7000000000000 0, some (.lit (.flat (.int .i64 x2) :: x6 :: x4)) => (tip_Sapi_Entry s.o 3 x6).bind fun ex3 => ((cd_Speriod_Table.full x4).bind fun x5 => (some (x1, (⟨x2, ex3.2, x5⟩ : Sledger_Book)))) | _, _, _ => none
noncomputable def ledger_Book_Close.jl : List (Nat × JDen U) := []
noncomputable def ledger_Book_Close.fl (k : Nat) : List (Nat × FDen U) := [(77, ledger_Book_turn_c78.D k)]
noncomputable def ledger_Book_Close.ll (k : Nat) : List (Nat × LDen U) := []
noncomputable def ledger_Book_Close.E (k : Nat) : Env U := { P := Try.prog, D := DD, fd := lk (ledger_Book_Close.fl k), ld := lk (ledger_Book_Close.ll k), jd := lk ledger_Book_Close.jl, mode := lk [], elc := lk ec, mpc := lk mc, rts := Try.f33.resultTypes.toList, dyn := fun t => false, vecs := fun d => false, results := Try.f33.results.toList, gh := [0], own := false, io := fun g i => false }
theorem ledger_Book_Close.ok (k : Nat) : EnvOk (ledger_Book_Close.E k) := envOk lawful (ledger_Book_Close.fl k) (ledger_Book_Close.ll k) ledger_Book_Close.jl _ _ _ _ _ _ _ _ _ _ (by
  intro p hp
  simp only [ledger_Book_Close.fl, List.mem_cons, List.not_mem_nil, or_false] at hp
  rcases hp with rfl
  · exact ⟨ledger_Book_turn_c78.sound k, enter_of Try.func77 (by kernel_rfl) (by kernel_rfl)⟩) (by
  intro p hp
  simp [ledger_Book_Close.jl] at hp)
theorem ledger_Book_Close.eq (k : Nat) (x : (Sledger_Book × Int)) : runF (ledger_Book_Close.E k) (codeOf Try.f33) (ledger_Book_Close.mk x) ledger_Book_Close.re = (ledger_Book_Close.D k).f x := by kernel_rfl
theorem ledger_Book_Close.fit (s : St U) (x : (Sledger_Book × Int)) (h : ledger_Book_Close.un s = some x) : Fits s (ledger_Book_Close.mk x) := by
  unfold ledger_Book_Close.un at h
  split at h
  · obtain ⟨ex2, hex2, hh1⟩ := Option.bind_eq_some_iff.1 h
    obtain ⟨x4, hx4, hh2⟩ := Option.bind_eq_some_iff.1 hh1
    cases hh2
    refine fits_ren [(7000000000002, ex2.1)] ?_ ?_ ren_one rfl
    · exact List.forall_mem_cons.2 ⟨FV.one (FV.ptr (by assumption)), List.forall_mem_cons.2 ⟨FV.one (FV.same (by assumption) rfl), List.forall_mem_cons.2 ⟨FV.one (FV.ptr (by assumption)), fun _ hp => (List.not_mem_nil hp).elim⟩⟩⟩
    · exact List.forall_mem_cons.2 ⟨FO.cells (show lk (St.o _) 7000000000000 = some _ from by assumption) (FCs.cons (c0_same rfl rfl) (FCs.cons ((tip_Sapi_Entry_fit hex2 rfl).1) (FCs.tail (Cd.full_ok hx4) rfl))), List.forall_mem_cons.2 ⟨(tip_Sapi_Entry_fit hex2 rfl).2, fun _ hp => (List.not_mem_nil hp).elim⟩⟩
  · cases h
theorem ledger_Book_Close.fitR (s : St U) (y : (Int × Sledger_Book)) (h : ledger_Book_Close.re s = some y) : Fits s (ledger_Book_Close.fin y) := by
  unfold ledger_Book_Close.re at h
  split at h
  · obtain ⟨ex3, hex3, hh1⟩ := Option.bind_eq_some_iff.1 h
    obtain ⟨x5, hx5, hh2⟩ := Option.bind_eq_some_iff.1 hh1
    cases hh2
    refine fits_ren [(7000000000002, ex3.1)] ?_ ?_ ren_one rfl
    · exact List.forall_mem_cons.2 ⟨FV.one (FV.same (by assumption) rfl), List.forall_mem_cons.2 ⟨FV.one (FV.ptr (by assumption)), fun _ hp => (List.not_mem_nil hp).elim⟩⟩
    · exact List.forall_mem_cons.2 ⟨FO.cells (show lk (St.o _) 7000000000000 = some _ from by assumption) (FCs.cons (c0_same rfl rfl) (FCs.cons ((tip_Sapi_Entry_fit hex3 rfl).1) (FCs.tail (Cd.full_ok hx5) rfl))), List.forall_mem_cons.2 ⟨(tip_Sapi_Entry_fit hex3 rfl).2, fun _ hp => (List.not_mem_nil hp).elim⟩⟩
  · cases h
theorem ledger_Book_Close.sound (k : Nat) : Sound Try.prog DD 33 (ledger_Book_Close.D k) :=
  fun_sound (E := ledger_Book_Close.E k) (fn := Try.f33) (c := codeOf Try.f33) (ledger_Book_Close.ok k) mixed rfl Try.func33 (by kernel_rfl) (by kernel_rfl) (allL_of (l := []) (by kernel_rfl) allL_nil) (ledger_Book_Close.D k) ledger_Book_Close.mk ledger_Book_Close.re (by kernel_rfl) (by kernel_rfl) ledger_Book_Close.fit ledger_Book_Close.fitR (ledger_Book_Close.eq k)
/-! ### (*pyx/ledger.Book).Reverse$1: function 80 -/
noncomputable def ledger_Book_Reverse_1.f (k : Nat) (a0 : Sapi_Entry) (a1 : Int) : Option Bool := some (a0.f_Of == a1)
noncomputable def ledger_Book_Reverse_1.un (s : St U) : Option (Sapi_Entry × Int) := match s.get 0, s.get 1 with | .agg [.flat (.int .i64 x1), .row C.Sapi_Line x2, .flat (.int .i64 x3)], .rp [.flat (.int .i64 x4)] 0 => some ((⟨x1, x2, x3⟩ : Sapi_Entry), x4) | _, _ => none
noncomputable def ledger_Book_Reverse_1.mk (x : (Sapi_Entry × Int)) : St U := ⟨[(0, .agg [.flat (.int .i64 x.1.f_Period), .row C.Sapi_Line x.1.f_Lines, .flat (.int .i64 x.1.f_Of)]), (1, .rp [.flat (.int .i64 x.2)] 0)], []⟩
noncomputable def ledger_Book_Reverse_1.fin (y : Bool) : St U := ⟨[(0, .flat (.bool y))], []⟩
noncomputable def ledger_Book_Reverse_1.D (k : Nat) : FDen U := { X := (Sapi_Entry × Int), Y := Bool, nt := 8, gh := [], un := ledger_Book_Reverse_1.un, f := fun x => ledger_Book_Reverse_1.f k (x.1) (x.2), fin := ledger_Book_Reverse_1.fin, cl := true, clo := fun _ _ => rfl }
noncomputable def ledger_Book_Reverse_1.re (s : St U) : Option Bool := match s.get 0 with | .flat (.bool x1) => some x1 | _ => none
noncomputable def ledger_Book_Reverse_1.jl : List (Nat × JDen U) := []
noncomputable def ledger_Book_Reverse_1.fl (k : Nat) : List (Nat × FDen U) := []
noncomputable def ledger_Book_Reverse_1.ll (k : Nat) : List (Nat × LDen U) := []
noncomputable def ledger_Book_Reverse_1.E (k : Nat) : Env U := { P := Try.prog, D := DD, fd := lk (ledger_Book_Reverse_1.fl k), ld := lk (ledger_Book_Reverse_1.ll k), jd := lk ledger_Book_Reverse_1.jl, mode := lk [], elc := lk ec, mpc := lk mc, rts := Try.f80.resultTypes.toList, dyn := fun t => false, vecs := fun d => false, results := Try.f80.results.toList, gh := [], own := false, io := fun g i => false }
theorem ledger_Book_Reverse_1.ok (k : Nat) : EnvOk (ledger_Book_Reverse_1.E k) := envOk lawful (ledger_Book_Reverse_1.fl k) (ledger_Book_Reverse_1.ll k) ledger_Book_Reverse_1.jl _ _ _ _ _ _ _ _ _ _ (by
  intro p hp
  simp [ledger_Book_Reverse_1.fl] at hp) (by
  intro p hp
  simp [ledger_Book_Reverse_1.jl] at hp)
theorem ledger_Book_Reverse_1.eq (k : Nat) (x : (Sapi_Entry × Int)) : runF (ledger_Book_Reverse_1.E k) (codeOf Try.f80) (ledger_Book_Reverse_1.mk x) ledger_Book_Reverse_1.re = (ledger_Book_Reverse_1.D k).f x := by kernel_rfl
theorem ledger_Book_Reverse_1.fit (s : St U) (x : (Sapi_Entry × Int)) (h : ledger_Book_Reverse_1.un s = some x) : Fits s (ledger_Book_Reverse_1.mk x) := by
  unfold ledger_Book_Reverse_1.un at h
  split at h
  · cases h
    refine fits_ren [] ?_ ?_ ren_nil rfl
    · exact List.forall_mem_cons.2 ⟨FV.one (FV.same (by assumption) rfl), List.forall_mem_cons.2 ⟨FV.one (FV.same (by assumption) rfl), fun _ hp => (List.not_mem_nil hp).elim⟩⟩
    · exact fun _ hp => (List.not_mem_nil hp).elim
  · cases h
theorem ledger_Book_Reverse_1.fitR (s : St U) (y : Bool) (h : ledger_Book_Reverse_1.re s = some y) : Fits s (ledger_Book_Reverse_1.fin y) := by
  unfold ledger_Book_Reverse_1.re at h
  split at h
  · cases h
    refine fits_ren [] ?_ ?_ ren_nil rfl
    · exact List.forall_mem_cons.2 ⟨FV.one (FV.same (by assumption) rfl), fun _ hp => (List.not_mem_nil hp).elim⟩
    · exact fun _ hp => (List.not_mem_nil hp).elim
  · cases h
theorem ledger_Book_Reverse_1.sound (k : Nat) : Sound Try.prog DD 80 (ledger_Book_Reverse_1.D k) :=
  fun_sound (E := ledger_Book_Reverse_1.E k) (fn := Try.f80) (c := codeOf Try.f80) (ledger_Book_Reverse_1.ok k) mixed rfl Try.func80 (by kernel_rfl) (by kernel_rfl) (allL_of (l := []) (by kernel_rfl) allL_nil) (ledger_Book_Reverse_1.D k) ledger_Book_Reverse_1.mk ledger_Book_Reverse_1.re (by kernel_rfl) (by kernel_rfl) ledger_Book_Reverse_1.fit ledger_Book_Reverse_1.fitR (ledger_Book_Reverse_1.eq k)
/-! ### slices.IndexFunc[[]pyx/api.Entry,pyx/api.Entry]: function 122 -/
noncomputable def slices_IndexFunc_api_Entry_c80.l2.once (k : Nat) (x : (List Sapi_Entry × Int × Int × Int)) : Option ((List Sapi_Entry × Int × Int × Int) ⊕ (Unit ⊕ Int)) := match x with | (x1, x2, x3, x4) => cond (decide (x4 < x3)) (cond (inb x4 (List.length x1)) ((ledger_Book_Reverse_1.f k (⟨(List.getD x1 (Int.toNat x4) Sapi_Entry.zero).f_Period, (List.getD x1 (Int.toNat x4) Sapi_Entry.zero).f_Lines, (List.getD x1 (Int.toNat x4) Sapi_Entry.zero).f_Of⟩ : Sapi_Entry) x2).bind fun t5 => (cond (t5) (some (.inr (.inr x4))) (some (.inl (x1, x2, x3, IntKind.wrap .i64 (x4 + 1)))))) none) (some (.inr (.inl ())))
noncomputable def slices_IndexFunc_api_Entry_c80.f (k : Nat) (a0 : List Sapi_Entry) (a1 : Int) : Option Int := (iter (slices_IndexFunc_api_Entry_c80.l2.once k) k (a0, a1, (List.length a0 : Int), 0)).bind fun | .inl y7 => (some (-1)) | .inr y8 => (some y8)
noncomputable def slices_IndexFunc_api_Entry_c80.un (s : St U) : Option (List Sapi_Entry × Int) := match s.get 0, s.get 1 with | .row C.Sapi_Entry x1, .fn 80 [.rp [.flat (.int .i64 x2)] 0] => some (x1, x2) | _, _ => none
noncomputable def slices_IndexFunc_api_Entry_c80.mk (x : (List Sapi_Entry × Int)) : St U := ⟨[(0, .row C.Sapi_Entry x.1), (1, .fn 80 [.rp [.flat (.int .i64 x.2)] 0])], []⟩
noncomputable def slices_IndexFunc_api_Entry_c80.fin (y : Int) : St U := ⟨[(0, .flat (.int .i64 y))], []⟩
noncomputable def slices_IndexFunc_api_Entry_c80.D (k : Nat) : FDen U := { X := (List Sapi_Entry × Int), Y := Int, nt := 19, gh := [], un := slices_IndexFunc_api_Entry_c80.un, f := fun x => slices_IndexFunc_api_Entry_c80.f k (x.1) (x.2), fin := slices_IndexFunc_api_Entry_c80.fin, cl := true, clo := fun _ _ => rfl }
noncomputable def slices_IndexFunc_api_Entry_c80.re (s : St U) : Option Int := match s.get 0 with | .flat (.int .i64 x1) => some x1 | _ => none
noncomputable def slices_IndexFunc_api_Entry_c80.l2.mk (x : (List Sapi_Entry × Int × Int × Int)) : St U := match x with | (x1, x2, x3, x4) => ⟨[(0, .row C.Sapi_Entry x1), (1, .fn 80 [.rp [.flat (.int .i64 x2)] 0]), (7, .flat (.int .i64 x3)), (8, .flat (.int .i64 x4))], []⟩
noncomputable def slices_IndexFunc_api_Entry_c80.l2.un (s : St U) : Option (List Sapi_Entry × Int × Int × Int) := (row_Sapi_Entry (s.get 0)).bind fun q0 => (match s.get 1, s.get 7, s.get 8 with | .fn 80 [.rp [.flat (.int .i64 x2)] 0], .flat (.int .i64 x3), .flat (.int .i64 x4) => some (q0, x2, x3, x4) | _, _, _ => none)
noncomputable def slices_IndexFunc_api_Entry_c80.l2.fin (y : Unit ⊕ Int) : Out U := match y with | .inl () => .exit 0 ⟨[], []⟩ | .inr z => .ret (⟨[(0, .flat (.int .i64 z))], []⟩)
noncomputable def slices_IndexFunc_api_Entry_c80.l2.finK {ρ : Type} (y : Unit ⊕ Int) (K : Out U → Option ρ) : Option ρ := match y with | .inl () => K (.exit 0 ⟨[], []⟩) | .inr z => K (.ret (⟨[(0, .flat (.int .i64 z))], []⟩))
theorem slices_IndexFunc_api_Entry_c80.l2.finK_eq {ρ : Type} (y : Unit ⊕ Int) (K : Out U → Option ρ) : slices_IndexFunc_api_Entry_c80.l2.finK y K = K (slices_IndexFunc_api_Entry_c80.l2.fin y) := by
  unfold slices_IndexFunc_api_Entry_c80.l2.finK slices_IndexFunc_api_Entry_c80.l2.fin
  first | rfl | (split <;> rfl)
noncomputable def slices_IndexFunc_api_Entry_c80.l2.re : Out U → Option (Unit ⊕ Int) | .exit 0 s => (some (.inl ())) | .ret s => (match s.get 0 with | .flat (.int .i64 x1) => some (.inr x1) | _ => none) | _ => none
noncomputable def slices_IndexFunc_api_Entry_c80.l2.L (k : Nat) : LDen U := { X := (List Sapi_Entry × Int × Int × Int), Y := Unit ⊕ Int, un := slices_IndexFunc_api_Entry_c80.l2.un, f := iter (slices_IndexFunc_api_Entry_c80.l2.once k) k, fin := slices_IndexFunc_api_Entry_c80.l2.fin, finK := slices_IndexFunc_api_Entry_c80.l2.finK, finK_eq := slices_IndexFunc_api_Entry_c80.l2.finK_eq }
noncomputable def slices_IndexFunc_api_Entry_c80.jl : List (Nat × JDen U) := []
noncomputable def slices_IndexFunc_api_Entry_c80.fl (k : Nat) : List (Nat × FDen U) := [(80, ledger_Book_Reverse_1.D k)]
noncomputable def slices_IndexFunc_api_Entry_c80.ll (k : Nat) : List (Nat × LDen U) := [(2, slices_IndexFunc_api_Entry_c80.l2.L k)]
noncomputable def slices_IndexFunc_api_Entry_c80.E (k : Nat) : Env U := { P := Try.prog, D := DD, fd := lk (slices_IndexFunc_api_Entry_c80.fl k), ld := lk (slices_IndexFunc_api_Entry_c80.ll k), jd := lk slices_IndexFunc_api_Entry_c80.jl, mode := lk [], elc := lk ec, mpc := lk mc, rts := Try.f122.resultTypes.toList, dyn := fun t => false, vecs := fun d => false, results := Try.f122.results.toList, gh := [], own := false, io := fun g i => false }
theorem slices_IndexFunc_api_Entry_c80.ok (k : Nat) : EnvOk (slices_IndexFunc_api_Entry_c80.E k) := envOk lawful (slices_IndexFunc_api_Entry_c80.fl k) (slices_IndexFunc_api_Entry_c80.ll k) slices_IndexFunc_api_Entry_c80.jl _ _ _ _ _ _ _ _ _ _ (by
  intro p hp
  simp only [slices_IndexFunc_api_Entry_c80.fl, List.mem_cons, List.not_mem_nil, or_false] at hp
  rcases hp with rfl
  · exact ⟨ledger_Book_Reverse_1.sound k, enter_of Try.func80 (by kernel_rfl) (by kernel_rfl)⟩) (by
  intro p hp
  simp [slices_IndexFunc_api_Entry_c80.jl] at hp)
theorem slices_IndexFunc_api_Entry_c80.l2.eq (k : Nat) (x : (List Sapi_Entry × Int × Int × Int)) : evC (slices_IndexFunc_api_Entry_c80.E k) (loopAt Try.f122 2) (slices_IndexFunc_api_Entry_c80.l2.mk x) (headK slices_IndexFunc_api_Entry_c80.l2.un slices_IndexFunc_api_Entry_c80.l2.re) = slices_IndexFunc_api_Entry_c80.l2.once k x := by kernel_rfl
theorem slices_IndexFunc_api_Entry_c80.l2.fit (s : St U) (x : (List Sapi_Entry × Int × Int × Int)) (h : slices_IndexFunc_api_Entry_c80.l2.un s = some x) : Fits s (slices_IndexFunc_api_Entry_c80.l2.mk x) := by
  unfold slices_IndexFunc_api_Entry_c80.l2.un at h
  obtain ⟨q0, eq0, h1⟩ := Option.bind_eq_some_iff.1 h
  split at h1
  · cases h1
    refine fits_ren [] ?_ ?_ ren_nil rfl
    · exact List.forall_mem_cons.2 ⟨FV.one (row_Sapi_Entry_fit eq0), List.forall_mem_cons.2 ⟨FV.one (FV.same (by assumption) rfl), List.forall_mem_cons.2 ⟨FV.one (FV.same (by assumption) rfl), List.forall_mem_cons.2 ⟨FV.one (FV.same (by assumption) rfl), fun _ hp => (List.not_mem_nil hp).elim⟩⟩⟩⟩
    · exact fun _ hp => (List.not_mem_nil hp).elim
  · cases h1
theorem slices_IndexFunc_api_Entry_c80.l2.fitO (o : Out U) (y : Unit ⊕ Int) (h : slices_IndexFunc_api_Entry_c80.l2.re o = some y) : FitsO o (slices_IndexFunc_api_Entry_c80.l2.fin y) := by
  unfold slices_IndexFunc_api_Entry_c80.l2.re at h
  split at h
  · cases h
    refine fitsO_exit (fits_ren [] ?_ ?_ ren_nil rfl)
    · exact fun _ hp => (List.not_mem_nil hp).elim
    · exact fun _ hp => (List.not_mem_nil hp).elim
  · split at h
    · cases h
      refine fitsO_ret (fits_ren [] ?_ ?_ ren_nil rfl)
      · exact List.forall_mem_cons.2 ⟨FV.one (FV.same (by assumption) rfl), fun _ hp => (List.not_mem_nil hp).elim⟩
      · exact fun _ hp => (List.not_mem_nil hp).elim
    · cases h
  · cases h
theorem slices_IndexFunc_api_Entry_c80.l2.sound (k : Nat) : LSound (slices_IndexFunc_api_Entry_c80.E k) Try.f122.ntmps Try.f122 (loopAt Try.f122 2) (slices_IndexFunc_api_Entry_c80.l2.L k) :=
  loop_sound (slices_IndexFunc_api_Entry_c80.ok k) mixed rfl (by kernel_rfl) (allL_of (l := []) (by kernel_rfl) allL_nil) slices_IndexFunc_api_Entry_c80.l2.un slices_IndexFunc_api_Entry_c80.l2.mk slices_IndexFunc_api_Entry_c80.l2.fin slices_IndexFunc_api_Entry_c80.l2.re (slices_IndexFunc_api_Entry_c80.l2.once k) k slices_IndexFunc_api_Entry_c80.l2.fit slices_IndexFunc_api_Entry_c80.l2.fitO (slices_IndexFunc_api_Entry_c80.l2.eq k) slices_IndexFunc_api_Entry_c80.l2.finK slices_IndexFunc_api_Entry_c80.l2.finK_eq
theorem slices_IndexFunc_api_Entry_c80.eq (k : Nat) (x : (List Sapi_Entry × Int)) : runF (slices_IndexFunc_api_Entry_c80.E k) (codeOf Try.f122) (slices_IndexFunc_api_Entry_c80.mk x) slices_IndexFunc_api_Entry_c80.re = (slices_IndexFunc_api_Entry_c80.D k).f x := by kernel_rfl
theorem slices_IndexFunc_api_Entry_c80.fit (s : St U) (x : (List Sapi_Entry × Int)) (h : slices_IndexFunc_api_Entry_c80.un s = some x) : Fits s (slices_IndexFunc_api_Entry_c80.mk x) := by
  unfold slices_IndexFunc_api_Entry_c80.un at h
  split at h
  · cases h
    refine fits_ren [] ?_ ?_ ren_nil rfl
    · exact List.forall_mem_cons.2 ⟨FV.one (FV.same (by assumption) rfl), List.forall_mem_cons.2 ⟨FV.one (FV.same (by assumption) rfl), fun _ hp => (List.not_mem_nil hp).elim⟩⟩
    · exact fun _ hp => (List.not_mem_nil hp).elim
  · cases h
theorem slices_IndexFunc_api_Entry_c80.fitR (s : St U) (y : Int) (h : slices_IndexFunc_api_Entry_c80.re s = some y) : Fits s (slices_IndexFunc_api_Entry_c80.fin y) := by
  unfold slices_IndexFunc_api_Entry_c80.re at h
  split at h
  · cases h
    refine fits_ren [] ?_ ?_ ren_nil rfl
    · exact List.forall_mem_cons.2 ⟨FV.one (FV.same (by assumption) rfl), fun _ hp => (List.not_mem_nil hp).elim⟩
    · exact fun _ hp => (List.not_mem_nil hp).elim
  · cases h
theorem slices_IndexFunc_api_Entry_c80.sound (k : Nat) : Sound Try.prog DD 122 (slices_IndexFunc_api_Entry_c80.D k) :=
  fun_sound (E := slices_IndexFunc_api_Entry_c80.E k) (fn := Try.f122) (c := codeOf Try.f122) (slices_IndexFunc_api_Entry_c80.ok k) mixed rfl Try.func122 (by kernel_rfl) (by kernel_rfl) (allL_of (l := [loopAt Try.f122 2]) (by kernel_rfl) (allL_cons (key := 2) (by kernel_rfl) rfl (slices_IndexFunc_api_Entry_c80.l2.sound k) allL_nil)) (slices_IndexFunc_api_Entry_c80.D k) slices_IndexFunc_api_Entry_c80.mk slices_IndexFunc_api_Entry_c80.re (by kernel_rfl) (by kernel_rfl) slices_IndexFunc_api_Entry_c80.fit slices_IndexFunc_api_Entry_c80.fitR (slices_IndexFunc_api_Entry_c80.eq k)
/-! ### slices.ContainsFunc[[]pyx/api.Entry,pyx/api.Entry]: function 79 -/
noncomputable def slices_ContainsFunc_api_Entry_c80.f (k : Nat) (a0 : List Sapi_Entry) (a1 : Int) : Option Bool := (slices_IndexFunc_api_Entry_c80.f k a0 a1).bind fun t1 => (some (decide (t1 ≥ 0)))
noncomputable def slices_ContainsFunc_api_Entry_c80.un (s : St U) : Option (List Sapi_Entry × Int) := match s.get 0, s.get 1 with | .row C.Sapi_Entry x1, .fn 80 [.rp [.flat (.int .i64 x2)] 0] => some (x1, x2) | _, _ => none
noncomputable def slices_ContainsFunc_api_Entry_c80.mk (x : (List Sapi_Entry × Int)) : St U := ⟨[(0, .row C.Sapi_Entry x.1), (1, .fn 80 [.rp [.flat (.int .i64 x.2)] 0])], []⟩
noncomputable def slices_ContainsFunc_api_Entry_c80.fin (y : Bool) : St U := ⟨[(0, .flat (.bool y))], []⟩
noncomputable def slices_ContainsFunc_api_Entry_c80.D (k : Nat) : FDen U := { X := (List Sapi_Entry × Int), Y := Bool, nt := 9, gh := [], un := slices_ContainsFunc_api_Entry_c80.un, f := fun x => slices_ContainsFunc_api_Entry_c80.f k (x.1) (x.2), fin := slices_ContainsFunc_api_Entry_c80.fin, cl := true, clo := fun _ _ => rfl }
noncomputable def slices_ContainsFunc_api_Entry_c80.re (s : St U) : Option Bool := match s.get 0 with | .flat (.bool x1) => some x1 | _ => none
noncomputable def slices_ContainsFunc_api_Entry_c80.jl : List (Nat × JDen U) := []
noncomputable def slices_ContainsFunc_api_Entry_c80.fl (k : Nat) : List (Nat × FDen U) := [(122, slices_IndexFunc_api_Entry_c80.D k)]
noncomputable def slices_ContainsFunc_api_Entry_c80.ll (k : Nat) : List (Nat × LDen U) := []
noncomputable def slices_ContainsFunc_api_Entry_c80.E (k : Nat) : Env U := { P := Try.prog, D := DD, fd := lk (slices_ContainsFunc_api_Entry_c80.fl k), ld := lk (slices_ContainsFunc_api_Entry_c80.ll k), jd := lk slices_ContainsFunc_api_Entry_c80.jl, mode := lk [], elc := lk ec, mpc := lk mc, rts := Try.f79.resultTypes.toList, dyn := fun t => false, vecs := fun d => false, results := Try.f79.results.toList, gh := [], own := false, io := fun g i => false }
theorem slices_ContainsFunc_api_Entry_c80.ok (k : Nat) : EnvOk (slices_ContainsFunc_api_Entry_c80.E k) := envOk lawful (slices_ContainsFunc_api_Entry_c80.fl k) (slices_ContainsFunc_api_Entry_c80.ll k) slices_ContainsFunc_api_Entry_c80.jl _ _ _ _ _ _ _ _ _ _ (by
  intro p hp
  simp only [slices_ContainsFunc_api_Entry_c80.fl, List.mem_cons, List.not_mem_nil, or_false] at hp
  rcases hp with rfl
  · exact ⟨slices_IndexFunc_api_Entry_c80.sound k, enter_of Try.func122 (by kernel_rfl) (by kernel_rfl)⟩) (by
  intro p hp
  simp [slices_ContainsFunc_api_Entry_c80.jl] at hp)
theorem slices_ContainsFunc_api_Entry_c80.eq (k : Nat) (x : (List Sapi_Entry × Int)) : runF (slices_ContainsFunc_api_Entry_c80.E k) (codeOf Try.f79) (slices_ContainsFunc_api_Entry_c80.mk x) slices_ContainsFunc_api_Entry_c80.re = (slices_ContainsFunc_api_Entry_c80.D k).f x := by kernel_rfl
theorem slices_ContainsFunc_api_Entry_c80.fit (s : St U) (x : (List Sapi_Entry × Int)) (h : slices_ContainsFunc_api_Entry_c80.un s = some x) : Fits s (slices_ContainsFunc_api_Entry_c80.mk x) := by
  unfold slices_ContainsFunc_api_Entry_c80.un at h
  split at h
  · cases h
    refine fits_ren [] ?_ ?_ ren_nil rfl
    · exact List.forall_mem_cons.2 ⟨FV.one (FV.same (by assumption) rfl), List.forall_mem_cons.2 ⟨FV.one (FV.same (by assumption) rfl), fun _ hp => (List.not_mem_nil hp).elim⟩⟩
    · exact fun _ hp => (List.not_mem_nil hp).elim
  · cases h
theorem slices_ContainsFunc_api_Entry_c80.fitR (s : St U) (y : Bool) (h : slices_ContainsFunc_api_Entry_c80.re s = some y) : Fits s (slices_ContainsFunc_api_Entry_c80.fin y) := by
  unfold slices_ContainsFunc_api_Entry_c80.re at h
  split at h
  · cases h
    refine fits_ren [] ?_ ?_ ren_nil rfl
    · exact List.forall_mem_cons.2 ⟨FV.one (FV.same (by assumption) rfl), fun _ hp => (List.not_mem_nil hp).elim⟩
    · exact fun _ hp => (List.not_mem_nil hp).elim
  · cases h
theorem slices_ContainsFunc_api_Entry_c80.sound (k : Nat) : Sound Try.prog DD 79 (slices_ContainsFunc_api_Entry_c80.D k) :=
  fun_sound (E := slices_ContainsFunc_api_Entry_c80.E k) (fn := Try.f79) (c := codeOf Try.f79) (slices_ContainsFunc_api_Entry_c80.ok k) mixed rfl Try.func79 (by kernel_rfl) (by kernel_rfl) (allL_of (l := []) (by kernel_rfl) allL_nil) (slices_ContainsFunc_api_Entry_c80.D k) slices_ContainsFunc_api_Entry_c80.mk slices_ContainsFunc_api_Entry_c80.re (by kernel_rfl) (by kernel_rfl) slices_ContainsFunc_api_Entry_c80.fit slices_ContainsFunc_api_Entry_c80.fitR (slices_ContainsFunc_api_Entry_c80.eq k)
/-! ### pyx/dec.Neg: function 47 -/
noncomputable def dec_Neg.f (k : Nat) (a0 : Sapi_Dec) : Option Sapi_Dec := (dec_Right.f k (⟨a0.f_Neg, (a0.f_C.1, a0.f_C.2), a0.f_Scale⟩ : Sapi_Dec)).bind fun t1 => (cond (!t1) (some (⟨false, (0, 0), 0⟩ : Sapi_Dec)) (cond (!a0.f_Neg) ((dec_nought.f k (a0.f_C.1, a0.f_C.2)).bind fun t2 => (some (⟨!t2, (a0.f_C.1, a0.f_C.2), a0.f_Scale⟩ : Sapi_Dec))) (some (⟨false, (a0.f_C.1, a0.f_C.2), a0.f_Scale⟩ : Sapi_Dec))))
noncomputable def dec_Neg.un (s : St U) : Option Sapi_Dec := match s.get 0 with | .agg [.flat (.bool x1), .flat (.int .u64 x2), .flat (.int .u64 x3), .flat (.int .i64 x4)] => some (⟨x1, (x2, x3), x4⟩ : Sapi_Dec) | _ => none
noncomputable def dec_Neg.mk (x : Sapi_Dec) : St U := ⟨[(0, .agg [.flat (.bool x.f_Neg), .flat (.int .u64 x.f_C.1), .flat (.int .u64 x.f_C.2), .flat (.int .i64 x.f_Scale)])], []⟩
noncomputable def dec_Neg.fin (y : Sapi_Dec) : St U := ⟨[(0, .agg [.flat (.bool y.f_Neg), .flat (.int .u64 y.f_C.1), .flat (.int .u64 y.f_C.2), .flat (.int .i64 y.f_Scale)])], []⟩
noncomputable def dec_Neg.D (k : Nat) : FDen U := { X := Sapi_Dec, Y := Sapi_Dec, nt := 18, gh := [], un := dec_Neg.un, f := fun x => dec_Neg.f k (x), fin := dec_Neg.fin, cl := true, clo := fun _ _ => rfl }
noncomputable def dec_Neg.re (s : St U) : Option Sapi_Dec := match s.get 0 with | .agg [.flat (.bool x1), .flat (.int .u64 x2), .flat (.int .u64 x3), .flat (.int .i64 x4)] => some (⟨x1, (x2, x3), x4⟩ : Sapi_Dec) | _ => none
noncomputable def dec_Neg.jl : List (Nat × JDen U) := []
noncomputable def dec_Neg.fl (k : Nat) : List (Nat × FDen U) := [(82, dec_Right.D k), (88, dec_nought.D k)]
noncomputable def dec_Neg.ll (k : Nat) : List (Nat × LDen U) := []
noncomputable def dec_Neg.E (k : Nat) : Env U := { P := Try.prog, D := DD, fd := lk (dec_Neg.fl k), ld := lk (dec_Neg.ll k), jd := lk dec_Neg.jl, mode := lk [], elc := lk ec, mpc := lk mc, rts := Try.f47.resultTypes.toList, dyn := fun t => false, vecs := fun d => false, results := Try.f47.results.toList, gh := [], own := false, io := fun g i => false }
theorem dec_Neg.ok (k : Nat) : EnvOk (dec_Neg.E k) := envOk lawful (dec_Neg.fl k) (dec_Neg.ll k) dec_Neg.jl _ _ _ _ _ _ _ _ _ _ (by
  intro p hp
  simp only [dec_Neg.fl, List.mem_cons, List.not_mem_nil, or_false] at hp
  rcases hp with rfl | rfl
  · exact ⟨dec_Right.sound k, enter_of Try.func82 (by kernel_rfl) (by kernel_rfl)⟩
  · exact ⟨dec_nought.sound k, enter_of Try.func88 (by kernel_rfl) (by kernel_rfl)⟩) (by
  intro p hp
  simp [dec_Neg.jl] at hp)
theorem dec_Neg.eq (k : Nat) (x : Sapi_Dec) : runF (dec_Neg.E k) (codeOf Try.f47) (dec_Neg.mk x) dec_Neg.re = (dec_Neg.D k).f x := by kernel_rfl
theorem dec_Neg.fit (s : St U) (x : Sapi_Dec) (h : dec_Neg.un s = some x) : Fits s (dec_Neg.mk x) := by
  unfold dec_Neg.un at h
  split at h
  · cases h
    refine fits_ren [] ?_ ?_ ren_nil rfl
    · exact List.forall_mem_cons.2 ⟨FV.one (FV.same (by assumption) rfl), fun _ hp => (List.not_mem_nil hp).elim⟩
    · exact fun _ hp => (List.not_mem_nil hp).elim
  · cases h
theorem dec_Neg.fitR (s : St U) (y : Sapi_Dec) (h : dec_Neg.re s = some y) : Fits s (dec_Neg.fin y) := by
  unfold dec_Neg.re at h
  split at h
  · cases h
    refine fits_ren [] ?_ ?_ ren_nil rfl
    · exact List.forall_mem_cons.2 ⟨FV.one (FV.same (by assumption) rfl), fun _ hp => (List.not_mem_nil hp).elim⟩
    · exact fun _ hp => (List.not_mem_nil hp).elim
  · cases h
theorem dec_Neg.sound (k : Nat) : Sound Try.prog DD 47 (dec_Neg.D k) :=
  fun_sound (E := dec_Neg.E k) (fn := Try.f47) (c := codeOf Try.f47) (dec_Neg.ok k) mixed rfl Try.func47 (by kernel_rfl) (by kernel_rfl) (allL_of (l := []) (by kernel_rfl) allL_nil) (dec_Neg.D k) dec_Neg.mk dec_Neg.re (by kernel_rfl) (by kernel_rfl) dec_Neg.fit dec_Neg.fitR (dec_Neg.eq k)
/-! ### pyx/entry.Turned: function 81 -/
noncomputable def entry_Turned.l3.once (k : Nat) (x : (List Sapi_Line × List Sapi_Line × Int × Int)) : Option ((List Sapi_Line × List Sapi_Line × Int × Int) ⊕ (List Sapi_Line)) := match x with | (x1, x2, x3, x4) => cond (decide (x4 < x3)) (cond (inb x4 (List.length x2)) ((dec_Neg.f k (⟨((List.getD x2 (Int.toNat x4) Sapi_Line.zero).f_Amount).f_Neg, ((((List.getD x2 (Int.toNat x4) Sapi_Line.zero).f_Amount).f_C).1, (((List.getD x2 (Int.toNat x4) Sapi_Line.zero).f_Amount).f_C).2), ((List.getD x2 (Int.toNat x4) Sapi_Line.zero).f_Amount).f_Scale⟩ : Sapi_Dec)).bind fun t5 => (cond (okLen (List.length x1 + List.length [(⟨(List.getD x2 (Int.toNat x4) Sapi_Line.zero).f_Acct, (⟨t5.f_Neg, (t5.f_C.1, t5.f_C.2), t5.f_Scale⟩ : Sapi_Dec), (List.getD x2 (Int.toNat x4) Sapi_Line.zero).f_With⟩ : Sapi_Line)]) 48) (some (.inl (x1 ++ [(⟨(List.getD x2 (Int.toNat x4) Sapi_Line.zero).f_Acct, (⟨t5.f_Neg, (t5.f_C.1, t5.f_C.2), t5.f_Scale⟩ : Sapi_Dec), (List.getD x2 (Int.toNat x4) Sapi_Line.zero).f_With⟩ : Sapi_Line)], x2, x3, IntKind.wrap .i64 (x4 + 1)))) none)) none) (some (.inr x1))
noncomputable def entry_Turned.f (k : Nat) (a0 : List Sapi_Line) : Option (List Sapi_Line) := (iter (entry_Turned.l3.once k) k (([] : List Sapi_Line), a0, (List.length a0 : Int), 0)).bind fun y7 => (some y7)
noncomputable def entry_Turned.un (s : St U) : Option (List Sapi_Line) := match s.get 0 with | .row C.Sapi_Line x1 => some x1 | _ => none
noncomputable def entry_Turned.mk (x : List Sapi_Line) : St U := ⟨[(0, .row C.Sapi_Line x)], []⟩
noncomputable def entry_Turned.fin (y : List Sapi_Line) : St U := ⟨[(0, .row C.Sapi_Line y)], []⟩
noncomputable def entry_Turned.D (k : Nat) : FDen U := { X := List Sapi_Line, Y := List Sapi_Line, nt := 22, gh := [], un := entry_Turned.un, f := fun x => entry_Turned.f k (x), fin := entry_Turned.fin, cl := true, clo := fun _ _ => rfl }
noncomputable def entry_Turned.re (s : St U) : Option (List Sapi_Line) := match s.get 0 with | .row C.Sapi_Line x1 => some x1 | _ => none
noncomputable def entry_Turned.l3.mk (x : (List Sapi_Line × List Sapi_Line × Int × Int)) : St U := match x with | (x1, x2, x3, x4) => ⟨[(3, .tip 1003003 C.Sapi_Line x1), (6, .row C.Sapi_Line x2), (7, .flat (.int .i64 x3)), (8, .flat (.int .i64 x4))], [(1003003, .tip 6)]⟩
noncomputable def entry_Turned.l3.un (s : St U) : Option (List Sapi_Line × List Sapi_Line × Int × Int) := (tip_Sapi_Line s.o 6 (s.get 3)).bind fun q0 => ((row_Sapi_Line (s.get 6)).bind fun q1 => (match s.get 7, s.get 8 with | .flat (.int .i64 x3), .flat (.int .i64 x4) => some (q0.2, q1, x3, x4) | _, _ => none))
noncomputable def entry_Turned.l3.fin (y : List Sapi_Line) : Out U := match y with | x6 => .exit 0 ⟨[(3, .tip 1003003 C.Sapi_Line x6)], [(1003003, .tip 6)]⟩
noncomputable def entry_Turned.l3.finK {ρ : Type} (y : List Sapi_Line) (K : Out U → Option ρ) : Option ρ := match y with | x6 => K (.exit 0 ⟨[(3, .tip 1003003 C.Sapi_Line x6)], [(1003003, .tip 6)]⟩)
theorem entry_Turned.l3.finK_eq {ρ : Type} (y : List Sapi_Line) (K : Out U → Option ρ) : entry_Turned.l3.finK y K = K (entry_Turned.l3.fin y) := by
  unfold entry_Turned.l3.finK entry_Turned.l3.fin
  first | rfl | (split <;> rfl)
noncomputable def entry_Turned.l3.re : Out U → Option (List Sapi_Line) | .exit 0 s => ((tip_Sapi_Line s.o 6 (s.get 3)).bind fun q0 => (some q0.2)) | _ => none
noncomputable def entry_Turned.l3.L (k : Nat) : LDen U := { X := (List Sapi_Line × List Sapi_Line × Int × Int), Y := List Sapi_Line, un := entry_Turned.l3.un, f := iter (entry_Turned.l3.once k) k, fin := entry_Turned.l3.fin, finK := entry_Turned.l3.finK, finK_eq := entry_Turned.l3.finK_eq }
noncomputable def entry_Turned.jl : List (Nat × JDen U) := []
noncomputable def entry_Turned.fl (k : Nat) : List (Nat × FDen U) := [(47, dec_Neg.D k)]
noncomputable def entry_Turned.ll (k : Nat) : List (Nat × LDen U) := [(3, entry_Turned.l3.L k)]
noncomputable def entry_Turned.E (k : Nat) : Env U := { P := Try.prog, D := DD, fd := lk (entry_Turned.fl k), ld := lk (entry_Turned.ll k), jd := lk entry_Turned.jl, mode := lk [], elc := lk ec, mpc := lk mc, rts := Try.f81.resultTypes.toList, dyn := fun t => false, vecs := fun d => false, results := Try.f81.results.toList, gh := [], own := false, io := fun g i => false }
theorem entry_Turned.ok (k : Nat) : EnvOk (entry_Turned.E k) := envOk lawful (entry_Turned.fl k) (entry_Turned.ll k) entry_Turned.jl _ _ _ _ _ _ _ _ _ _ (by
  intro p hp
  simp only [entry_Turned.fl, List.mem_cons, List.not_mem_nil, or_false] at hp
  rcases hp with rfl
  · exact ⟨dec_Neg.sound k, enter_of Try.func47 (by kernel_rfl) (by kernel_rfl)⟩) (by
  intro p hp
  simp [entry_Turned.jl] at hp)
theorem entry_Turned.l3.eq (k : Nat) (x : (List Sapi_Line × List Sapi_Line × Int × Int)) : evC (entry_Turned.E k) (loopAt Try.f81 3) (entry_Turned.l3.mk x) (headK entry_Turned.l3.un entry_Turned.l3.re) = entry_Turned.l3.once k x := by kernel_rfl
theorem entry_Turned.l3.fit (s : St U) (x : (List Sapi_Line × List Sapi_Line × Int × Int)) (h : entry_Turned.l3.un s = some x) : Fits s (entry_Turned.l3.mk x) := by
  unfold entry_Turned.l3.un at h
  obtain ⟨q0, eq0, h1⟩ := Option.bind_eq_some_iff.1 h
  obtain ⟨q1, eq1, h2⟩ := Option.bind_eq_some_iff.1 h1
  split at h2
  · cases h2
    refine fits_ren [(1003003, q0.1)] ?_ ?_ ren_one rfl
    · exact List.forall_mem_cons.2 ⟨FV.one (tip_Sapi_Line_fit eq0 rfl).1, List.forall_mem_cons.2 ⟨FV.one (row_Sapi_Line_fit eq1), List.forall_mem_cons.2 ⟨FV.one (FV.same (by assumption) rfl), List.forall_mem_cons.2 ⟨FV.one (FV.same (by assumption) rfl), fun _ hp => (List.not_mem_nil hp).elim⟩⟩⟩⟩
    · exact List.forall_mem_cons.2 ⟨(tip_Sapi_Line_fit eq0 rfl).2, fun _ hp => (List.not_mem_nil hp).elim⟩
  · cases h2
theorem entry_Turned.l3.fitO (o : Out U) (y : List Sapi_Line) (h : entry_Turned.l3.re o = some y) : FitsO o (entry_Turned.l3.fin y) := by
  unfold entry_Turned.l3.re at h
  split at h
  · obtain ⟨q0, eq0, h1⟩ := Option.bind_eq_some_iff.1 h
    cases h1
    refine fitsO_exit (fits_ren [(1003003, q0.1)] ?_ ?_ ren_one rfl)
    · exact List.forall_mem_cons.2 ⟨FV.one (tip_Sapi_Line_fit eq0 rfl).1, fun _ hp => (List.not_mem_nil hp).elim⟩
    · exact List.forall_mem_cons.2 ⟨(tip_Sapi_Line_fit eq0 rfl).2, fun _ hp => (List.not_mem_nil hp).elim⟩
  · cases h
theorem entry_Turned.l3.sound (k : Nat) : LSound (entry_Turned.E k) Try.f81.ntmps Try.f81 (loopAt Try.f81 3) (entry_Turned.l3.L k) :=
  loop_sound (entry_Turned.ok k) mixed rfl (by kernel_rfl) (allL_of (l := []) (by kernel_rfl) allL_nil) entry_Turned.l3.un entry_Turned.l3.mk entry_Turned.l3.fin entry_Turned.l3.re (entry_Turned.l3.once k) k entry_Turned.l3.fit entry_Turned.l3.fitO (entry_Turned.l3.eq k) entry_Turned.l3.finK entry_Turned.l3.finK_eq
theorem entry_Turned.eq (k : Nat) (x : List Sapi_Line) : runF (entry_Turned.E k) (codeOf Try.f81) (entry_Turned.mk x) entry_Turned.re = (entry_Turned.D k).f x := by kernel_rfl
theorem entry_Turned.fit (s : St U) (x : List Sapi_Line) (h : entry_Turned.un s = some x) : Fits s (entry_Turned.mk x) := by
  unfold entry_Turned.un at h
  split at h
  · cases h
    refine fits_ren [] ?_ ?_ ren_nil rfl
    · exact List.forall_mem_cons.2 ⟨FV.one (FV.same (by assumption) rfl), fun _ hp => (List.not_mem_nil hp).elim⟩
    · exact fun _ hp => (List.not_mem_nil hp).elim
  · cases h
theorem entry_Turned.fitR (s : St U) (y : List Sapi_Line) (h : entry_Turned.re s = some y) : Fits s (entry_Turned.fin y) := by
  unfold entry_Turned.re at h
  split at h
  · cases h
    refine fits_ren [] ?_ ?_ ren_nil rfl
    · exact List.forall_mem_cons.2 ⟨FV.one (FV.same (by assumption) rfl), fun _ hp => (List.not_mem_nil hp).elim⟩
    · exact fun _ hp => (List.not_mem_nil hp).elim
  · cases h
theorem entry_Turned.sound (k : Nat) : Sound Try.prog DD 81 (entry_Turned.D k) :=
  fun_sound (E := entry_Turned.E k) (fn := Try.f81) (c := codeOf Try.f81) (entry_Turned.ok k) mixed rfl Try.func81 (by kernel_rfl) (by kernel_rfl) (allL_of (l := [loopAt Try.f81 3]) (by kernel_rfl) (allL_cons (key := 3) (by kernel_rfl) rfl (entry_Turned.l3.sound k) allL_nil)) (entry_Turned.D k) entry_Turned.mk entry_Turned.re (by kernel_rfl) (by kernel_rfl) entry_Turned.fit entry_Turned.fitR (entry_Turned.eq k)
/-! ### (*pyx/ledger.Book).Reverse: function 34 -/
noncomputable def ledger_Book_Reverse.f (k : Nat) (a0 : Sledger_Book) (a1 : Int) (a2 : Int) : Option (Int × Int × Sledger_Book) := ((cond (decide (a1 < 0)) (some (a2, true, a0.f_scale, a0.f_l, (⟨pack 12 false a0.f_t.f_Closed, pack 12 0 a0.f_t.f_Version⟩ : Speriod_Table), a1)) (some (a2, decide (a1 ≥ (List.length a0.f_l : Int)), a0.f_scale, a0.f_l, (⟨pack 12 false a0.f_t.f_Closed, pack 12 0 a0.f_t.f_Version⟩ : Speriod_Table), a1))) : Option (Int × Bool × Int × List Sapi_Entry × Speriod_Table × Int)).bind fun y31 => (cond (y31.2.1) (some (0, 10, (⟨y31.2.2.1, y31.2.2.2.1, (⟨pack 12 false y31.2.2.2.2.1.f_Closed, pack 12 0 y31.2.2.2.2.1.f_Version⟩ : Speriod_Table)⟩ : Sledger_Book))) (((cond (inb y31.2.2.2.2.2 (List.length y31.2.2.2.1)) (cond (decide (((List.getD y31.2.2.2.1 (Int.toNat y31.2.2.2.2.2) Sapi_Entry.zero).f_Of) ≥ 0)) (some (y31.1, y31.2.2.2.2.2, true, y31.2.2.1, y31.2.2.2.1, (⟨pack 12 false y31.2.2.2.2.1.f_Closed, pack 12 0 y31.2.2.2.2.1.f_Version⟩ : Speriod_Table))) ((slices_ContainsFunc_api_Entry_c80.f k y31.2.2.2.1 y31.2.2.2.2.2).bind fun t62 => (some (y31.1, y31.2.2.2.2.2, t62, y31.2.2.1, y31.2.2.2.1, (⟨pack 12 false y31.2.2.2.2.1.f_Closed, pack 12 0 y31.2.2.2.2.1.f_Version⟩ : Speriod_Table))))) none) : Option (Int × Int × Bool × Int × List Sapi_Entry × Speriod_Table)).bind fun y63 => (cond (y63.2.2.1) (some (0, 13, (⟨y63.2.2.2.1, y63.2.2.2.2.1, (⟨pack 12 false y63.2.2.2.2.2.f_Closed, pack 12 0 y63.2.2.2.2.2.f_Version⟩ : Speriod_Table)⟩ : Sledger_Book))) (cond (inb y63.2.1 (List.length y63.2.2.2.2.1)) ((entry_Turned.f k ((List.getD y63.2.2.2.2.1 (Int.toNat y63.2.1) Sapi_Entry.zero).f_Lines)).bind fun t64 => ((ledger_Book_add.f k (⟨y63.2.2.2.1, y63.2.2.2.2.1, (⟨pack 12 false y63.2.2.2.2.2.f_Closed, pack 12 0 y63.2.2.2.2.2.f_Version⟩ : Speriod_Table)⟩ : Sledger_Book) (⟨y63.1, t64, y63.2.1⟩ : Sapi_Entry)).bind fun t65 => (some (t65.1, t65.2.1, (⟨t65.2.2.f_scale, t65.2.2.f_l, (⟨pack 12 false t65.2.2.f_t.f_Closed, pack 12 0 t65.2.2.f_t.f_Version⟩ : Speriod_Table)⟩ : Sledger_Book))))) none))))
noncomputable def ledger_Book_Reverse.un (s : St U) : Option (Sledger_Book × Int × Int) := match s.get 0, lk s.o 7000000000000, s.get 1, s.get 2, s.get 1000000000000000 with | .ptr 7000000000000 0, some (.lit (.flat (.int .i64 x1) :: x5 :: x3)), .flat (.int .i64 x6), .flat (.int .i64 x7), .ptr 7000000000000 0 => (tip_Sapi_Entry s.o 3 x5).bind fun ex2 => ((cd_Speriod_Table.full x3).bind fun x4 => (some ((⟨x1, ex2.2, x4⟩ : Sledger_Book), x6, x7))) | _, _, _, _, _ => none
noncomputable def ledger_Book_Reverse.mk (x : (Sledger_Book × Int × Int)) : St U := ⟨[(0, .ptr 7000000000000 0), (1, .flat (.int .i64 x.2.1)), (2, .flat (.int .i64 x.2.2)), (1000000000000000, .ptr 7000000000000 0)], [(7000000000000, .lit ((.flat (.int .i64 x.1.f_scale)) :: (.tip 7000000000002 C.Sapi_Entry x.1.f_l) :: cd_Speriod_Table.enc x.1.f_t)), (7000000000002, .tip 3)]⟩
noncomputable def ledger_Book_Reverse.fin (y : (Int × Int × Sledger_Book)) : St U := ⟨[(0, .tup [.flat (.int .i64 y.1), .flat (.int .i64 y.2.1)]), (1000000000000000, .ptr 7000000000000 0)], [(7000000000000, .lit ((.flat (.int .i64 y.2.2.f_scale)) :: (.tip 7000000000002 C.Sapi_Entry y.2.2.f_l) :: cd_Speriod_Table.enc y.2.2.f_t)), (7000000000002, .tip 3)]⟩
noncomputable def ledger_Book_Reverse.D (k : Nat) : FDen U := { X := (Sledger_Book × Int × Int), Y := (Int × Int × Sledger_Book), nt := 57, gh := [0], un := ledger_Book_Reverse.un, f := fun x => ledger_Book_Reverse.f k (x.1) (x.2.1) (x.2.2), fin := ledger_Book_Reverse.fin, cl := false, clo := fun h => by cases h }
noncomputable def ledger_Book_Reverse.re (s : St U) : Option (Int × Int × Sledger_Book) := match s.get 0, s.get 1000000000000000, lk s.o 7000000000000 with | .tup [.flat (.int .i64 x1), .flat (.int .i64 x2)], .ptr 7000000000000 0, some (.lit (.flat (.int .i64 x3) :: x7 :: x5)) => (tip_Sapi_Entry s.o 3 x7).bind fun ex4 => ((cd_Speriod_Table.full x5).bind fun x6 => (some (x1, x2, (⟨x3, ex4.2, x6⟩ : Sledger_Book)))) | _, _, _ => none
noncomputable def ledger_Book_Reverse.j3000.fin (y : (Int × Bool × Int × List Sapi_Entry × Speriod_Table × Int)) : Out U := match y with | (x28, x30, x1, x2, x27, x29) => .norm ⟨[(0, .ptr 7000000000000 0), (4, .ptr 4 0), (1000000000000000, .ptr 7000000000000 0), (2, .flat (.int .i64 x28)), (11, .flat (.bool x30))], [(7000000000000, .lit ((.flat (.int .i64 x1)) :: (.tip 700102300000001 C.Sapi_Entry x2) :: cd_Speriod_Table.enc x27)), (700102300000001, .tip 3), (4, .lit [.flat (.int .i64 x29)])]⟩
noncomputable def ledger_Book_Reverse.j3000.finK {ρ : Type} (y : (Int × Bool × Int × List Sapi_Entry × Speriod_Table × Int)) (K : Out U → Option ρ) : Option ρ := match y with | (x28, x30, x1, x2, x27, x29) => K (.norm ⟨[(0, .ptr 7000000000000 0), (4, .ptr 4 0), (1000000000000000, .ptr 7000000000000 0), (2, .flat (.int .i64 x28)), (11, .flat (.bool x30))], [(7000000000000, .lit ((.flat (.int .i64 x1)) :: (.tip 700102300000001 C.Sapi_Entry x2) :: cd_Speriod_Table.enc x27)), (700102300000001, .tip 3), (4, .lit [.flat (.int .i64 x29)])]⟩)
theorem ledger_Book_Reverse.j3000.finK_eq {ρ : Type} (y : (Int × Bool × Int × List Sapi_Entry × Speriod_Table × Int)) (K : Out U → Option ρ) : ledger_Book_Reverse.j3000.finK y K = K (ledger_Book_Reverse.j3000.fin y) := by
  unfold ledger_Book_Reverse.j3000.finK ledger_Book_Reverse.j3000.fin
  first | rfl | (split <;> rfl)
noncomputable def ledger_Book_Reverse.j3000.re : Out U → Option ((Int × Bool × Int × List Sapi_Entry × Speriod_Table × Int)) | .norm s => (match s.get 0, s.get 4, s.get 1000000000000000, s.get 2, s.get 11, lk s.o 7000000000000, lk s.o 4 with | .ptr 7000000000000 0, .ptr 4 0, .ptr 7000000000000 0, .flat (.int .i64 x28), .flat (.bool x30), some (.lit (.flat (.int .i64 x1) :: u7000000000000_1 :: u7000000000000_t)), some (.lit [.flat (.int .i64 x29)]) => (tip_Sapi_Entry s.o 3 u7000000000000_1).bind fun w7000000000000_1 => ((cd_Speriod_Table.full u7000000000000_t).bind fun w7000000000000_t => (some (x28, x30, x1, w7000000000000_1.2, w7000000000000_t, x29))) | _, _, _, _, _, _, _ => none) | _ => none
noncomputable def ledger_Book_Reverse.j3000.J : JDen U := { Y := (Int × Bool × Int × List Sapi_Entry × Speriod_Table × Int), re := ledger_Book_Reverse.j3000.re, fin := ledger_Book_Reverse.j3000.fin, finK := ledger_Book_Reverse.j3000.finK, finK_eq := ledger_Book_Reverse.j3000.finK_eq }
theorem ledger_Book_Reverse.j3000.fit (o : Out U) (y : (Int × Bool × Int × List Sapi_Entry × Speriod_Table × Int)) (h : ledger_Book_Reverse.j3000.re o = some y) : FitsO o (ledger_Book_Reverse.j3000.fin y) := by
  unfold ledger_Book_Reverse.j3000.re at h
  split at h
  · split at h
    · obtain ⟨w7000000000000_1, ew7000000000000_1, h1⟩ := Option.bind_eq_some_iff.1 h
      obtain ⟨w7000000000000_t, ew7000000000000_t, h2⟩ := Option.bind_eq_some_iff.1 h1
      cases h2
      refine fitsO_norm (fits_ren [(700102300000001, w7000000000000_1.1)] ?_ ?_ ren_one rfl)
      · exact List.forall_mem_cons.2 ⟨FV.one (FV.ptr (by assumption)), List.forall_mem_cons.2 ⟨FV.one (FV.ptr (by assumption)), List.forall_mem_cons.2 ⟨FV.one (FV.ptr (by assumption)), List.forall_mem_cons.2 ⟨FV.one (FV.same (by assumption) rfl), List.forall_mem_cons.2 ⟨FV.one (FV.same (by assumption) rfl), fun _ hp => (List.not_mem_nil hp).elim⟩⟩⟩⟩⟩
      · exact List.forall_mem_cons.2 ⟨(FO.cells (show lk (St.o _) 7000000000000 = some _ from by assumption) (FCs.cons (c0_same rfl rfl) (FCs.cons ((tip_Sapi_Entry_fit ew7000000000000_1 rfl).1) (FCs.tail (Cd.full_ok ew7000000000000_t) rfl)))), List.forall_mem_cons.2 ⟨(tip_Sapi_Entry_fit ew7000000000000_1 rfl).2, List.forall_mem_cons.2 ⟨(FO.same (show lk (St.o _) 4 = some _ from by assumption) rfl), fun _ hp => (List.not_mem_nil hp).elim⟩⟩⟩
    · cases h
  · cases h
noncomputable def ledger_Book_Reverse.j5000.fin (y : (Int × Int × Bool × Int × List Sapi_Entry × Speriod_Table)) : Out U := match y with | (x59, x60, x61, x32, x33, x58) => .norm ⟨[(0, .ptr 7000000000000 0), (1000000000000000, .ptr 7000000000000 0), (2, .flat (.int .i64 x59)), (4, .rp [.flat (.int .i64 x60)] 0), (23, .flat (.bool x61))], [(7000000000000, .lit ((.flat (.int .i64 x32)) :: (.tip 700102500000001 C.Sapi_Entry x33) :: cd_Speriod_Table.enc x58)), (700102500000001, .tip 3)]⟩
noncomputable def ledger_Book_Reverse.j5000.finK {ρ : Type} (y : (Int × Int × Bool × Int × List Sapi_Entry × Speriod_Table)) (K : Out U → Option ρ) : Option ρ := match y with | (x59, x60, x61, x32, x33, x58) => K (.norm ⟨[(0, .ptr 7000000000000 0), (1000000000000000, .ptr 7000000000000 0), (2, .flat (.int .i64 x59)), (4, .rp [.flat (.int .i64 x60)] 0), (23, .flat (.bool x61))], [(7000000000000, .lit ((.flat (.int .i64 x32)) :: (.tip 700102500000001 C.Sapi_Entry x33) :: cd_Speriod_Table.enc x58)), (700102500000001, .tip 3)]⟩)
theorem ledger_Book_Reverse.j5000.finK_eq {ρ : Type} (y : (Int × Int × Bool × Int × List Sapi_Entry × Speriod_Table)) (K : Out U → Option ρ) : ledger_Book_Reverse.j5000.finK y K = K (ledger_Book_Reverse.j5000.fin y) := by
  unfold ledger_Book_Reverse.j5000.finK ledger_Book_Reverse.j5000.fin
  first | rfl | (split <;> rfl)
noncomputable def ledger_Book_Reverse.j5000.re : Out U → Option ((Int × Int × Bool × Int × List Sapi_Entry × Speriod_Table)) | .norm s => (match s.get 0, s.get 1000000000000000, s.get 2, s.get 4, s.get 23, lk s.o 7000000000000 with | .ptr 7000000000000 0, .ptr 7000000000000 0, .flat (.int .i64 x59), .rp [.flat (.int .i64 x60)] 0, .flat (.bool x61), some (.lit (.flat (.int .i64 x32) :: u7000000000000_1 :: u7000000000000_t)) => (tip_Sapi_Entry s.o 3 u7000000000000_1).bind fun w7000000000000_1 => ((cd_Speriod_Table.full u7000000000000_t).bind fun w7000000000000_t => (some (x59, x60, x61, x32, w7000000000000_1.2, w7000000000000_t))) | _, _, _, _, _, _ => none) | _ => none
noncomputable def ledger_Book_Reverse.j5000.J : JDen U := { Y := (Int × Int × Bool × Int × List Sapi_Entry × Speriod_Table), re := ledger_Book_Reverse.j5000.re, fin := ledger_Book_Reverse.j5000.fin, finK := ledger_Book_Reverse.j5000.finK, finK_eq := ledger_Book_Reverse.j5000.finK_eq }
theorem ledger_Book_Reverse.j5000.fit (o : Out U) (y : (Int × Int × Bool × Int × List Sapi_Entry × Speriod_Table)) (h : ledger_Book_Reverse.j5000.re o = some y) : FitsO o (ledger_Book_Reverse.j5000.fin y) := by
  unfold ledger_Book_Reverse.j5000.re at h
  split at h
  · split at h
    · obtain ⟨w7000000000000_1, ew7000000000000_1, h1⟩ := Option.bind_eq_some_iff.1 h
      obtain ⟨w7000000000000_t, ew7000000000000_t, h2⟩ := Option.bind_eq_some_iff.1 h1
      cases h2
      refine fitsO_norm (fits_ren [(700102500000001, w7000000000000_1.1)] ?_ ?_ ren_one rfl)
      · exact List.forall_mem_cons.2 ⟨FV.one (FV.ptr (by assumption)), List.forall_mem_cons.2 ⟨FV.one (FV.ptr (by assumption)), List.forall_mem_cons.2 ⟨FV.one (FV.same (by assumption) rfl), List.forall_mem_cons.2 ⟨FV.one (FV.same (by assumption) rfl), List.forall_mem_cons.2 ⟨FV.one (FV.same (by assumption) rfl), fun _ hp => (List.not_mem_nil hp).elim⟩⟩⟩⟩⟩
      · exact List.forall_mem_cons.2 ⟨(FO.cells (show lk (St.o _) 7000000000000 = some _ from by assumption) (FCs.cons (c0_same rfl rfl) (FCs.cons ((tip_Sapi_Entry_fit ew7000000000000_1 rfl).1) (FCs.tail (Cd.full_ok ew7000000000000_t) rfl)))), List.forall_mem_cons.2 ⟨(tip_Sapi_Entry_fit ew7000000000000_1 rfl).2, fun _ hp => (List.not_mem_nil hp).elim⟩⟩
    · cases h
  · cases h
noncomputable def ledger_Book_Reverse.jl : List (Nat × JDen U) := [(3000, ledger_Book_Reverse.j3000.J), (5000, ledger_Book_Reverse.j5000.J)]
noncomputable def ledger_Book_Reverse.fl (k : Nat) : List (Nat × FDen U) := [(79, slices_ContainsFunc_api_Entry_c80.D k), (81, entry_Turned.D k), (72, ledger_Book_add.D k)]
noncomputable def ledger_Book_Reverse.ll (k : Nat) : List (Nat × LDen U) := []
noncomputable def ledger_Book_Reverse.E (k : Nat) : Env U := { P := Try.prog, D := DD, fd := lk (ledger_Book_Reverse.fl k), ld := lk (ledger_Book_Reverse.ll k), jd := lk ledger_Book_Reverse.jl, mode := lk [], elc := lk ec, mpc := lk mc, rts := Try.f34.resultTypes.toList, dyn := fun t => false, vecs := fun d => false, results := Try.f34.results.toList, gh := [0], own := false, io := fun g i => false }
theorem ledger_Book_Reverse.ok (k : Nat) : EnvOk (ledger_Book_Reverse.E k) := envOk lawful (ledger_Book_Reverse.fl k) (ledger_Book_Reverse.ll k) ledger_Book_Reverse.jl _ _ _ _ _ _ _ _ _ _ (by
  intro p hp
  simp only [ledger_Book_Reverse.fl, List.mem_cons, List.not_mem_nil, or_false] at hp
  rcases hp with rfl | rfl | rfl
  · exact ⟨slices_ContainsFunc_api_Entry_c80.sound k, enter_of Try.func79 (by kernel_rfl) (by kernel_rfl)⟩
  · exact ⟨entry_Turned.sound k, enter_of Try.func81 (by kernel_rfl) (by kernel_rfl)⟩
  · exact ⟨ledger_Book_add.sound k, enter_of Try.func72 (by kernel_rfl) (by kernel_rfl)⟩) (by
  intro p hp
  simp only [ledger_Book_Reverse.jl, List.mem_cons, List.not_mem_nil, or_false] at hp
  rcases hp with rfl | rfl
  · exact ledger_Book_Reverse.j3000.fit
  · exact ledger_Book_Reverse.j5000.fit)
theorem ledger_Book_Reverse.eq (k : Nat) (x : (Sledger_Book × Int × Int)) : runF (ledger_Book_Reverse.E k) (codeOf Try.f34) (ledger_Book_Reverse.mk x) ledger_Book_Reverse.re = (ledger_Book_Reverse.D k).f x := by kernel_rfl
theorem ledger_Book_Reverse.fit (s : St U) (x : (Sledger_Book × Int × Int)) (h : ledger_Book_Reverse.un s = some x) : Fits s (ledger_Book_Reverse.mk x) := by
  unfold ledger_Book_Reverse.un at h
  split at h
  · obtain ⟨ex2, hex2, hh1⟩ := Option.bind_eq_some_iff.1 h
    obtain ⟨x4, hx4, hh2⟩ := Option.bind_eq_some_iff.1 hh1
    cases hh2
    refine fits_ren [(7000000000002, ex2.1)] ?_ ?_ ren_one rfl
    · exact List.forall_mem_cons.2 ⟨FV.one (FV.ptr (by assumption)), List.forall_mem_cons.2 ⟨FV.one (FV.same (by assumption) rfl), List.forall_mem_cons.2 ⟨FV.one (FV.same (by assumption) rfl), List.forall_mem_cons.2 ⟨FV.one (FV.ptr (by assumption)), fun _ hp => (List.not_mem_nil hp).elim⟩⟩⟩⟩
    · exact List.forall_mem_cons.2 ⟨FO.cells (show lk (St.o _) 7000000000000 = some _ from by assumption) (FCs.cons (c0_same rfl rfl) (FCs.cons ((tip_Sapi_Entry_fit hex2 rfl).1) (FCs.tail (Cd.full_ok hx4) rfl))), List.forall_mem_cons.2 ⟨(tip_Sapi_Entry_fit hex2 rfl).2, fun _ hp => (List.not_mem_nil hp).elim⟩⟩
  · cases h
theorem ledger_Book_Reverse.fitR (s : St U) (y : (Int × Int × Sledger_Book)) (h : ledger_Book_Reverse.re s = some y) : Fits s (ledger_Book_Reverse.fin y) := by
  unfold ledger_Book_Reverse.re at h
  split at h
  · obtain ⟨ex4, hex4, hh1⟩ := Option.bind_eq_some_iff.1 h
    obtain ⟨x6, hx6, hh2⟩ := Option.bind_eq_some_iff.1 hh1
    cases hh2
    refine fits_ren [(7000000000002, ex4.1)] ?_ ?_ ren_one rfl
    · exact List.forall_mem_cons.2 ⟨FV.tup (by assumption) (FTs.cons (FVA.one (FV.same rfl rfl)) (FTs.cons (FVA.one (FV.same rfl rfl)) (FTs.nil))), List.forall_mem_cons.2 ⟨FV.one (FV.ptr (by assumption)), fun _ hp => (List.not_mem_nil hp).elim⟩⟩
    · exact List.forall_mem_cons.2 ⟨FO.cells (show lk (St.o _) 7000000000000 = some _ from by assumption) (FCs.cons (c0_same rfl rfl) (FCs.cons ((tip_Sapi_Entry_fit hex4 rfl).1) (FCs.tail (Cd.full_ok hx6) rfl))), List.forall_mem_cons.2 ⟨(tip_Sapi_Entry_fit hex4 rfl).2, fun _ hp => (List.not_mem_nil hp).elim⟩⟩
  · cases h
theorem ledger_Book_Reverse.sound (k : Nat) : Sound Try.prog DD 34 (ledger_Book_Reverse.D k) :=
  fun_sound (E := ledger_Book_Reverse.E k) (fn := Try.f34) (c := codeOf Try.f34) (ledger_Book_Reverse.ok k) mixed rfl Try.func34 (by kernel_rfl) (by kernel_rfl) (allL_of (l := []) (by kernel_rfl) allL_nil) (ledger_Book_Reverse.D k) ledger_Book_Reverse.mk ledger_Book_Reverse.re (by kernel_rfl) (by kernel_rfl) ledger_Book_Reverse.fit ledger_Book_Reverse.fitR (ledger_Book_Reverse.eq k)
/-! ### pyx/pyxlaw14.LedgerEven: function 6 -/
noncomputable def pyxlaw14_LedgerEven.l5.once (k : Nat) (x : (List Spyxhand_Act × Int × Int × Int × List Sapi_Entry × Speriod_Table)) : Option ((List Spyxhand_Act × Int × Int × Int × List Sapi_Entry × Speriod_Table) ⊕ ((Int × List Sapi_Entry × Speriod_Table) ⊕ Bool)) := match x with | (x60, x61, x62, x33, x34, x59) => cond (decide (x62 < x61)) (cond (inb x62 (List.length x60)) ((pyxhand_Pick.f k ((List.getD x60 (Int.toNat x62) Spyxhand_Act.zero).f_B) 3).bind fun t63 => ((ledger_Book_Entries.f k (⟨x33, x34, (⟨pack 12 false x59.f_Closed, pack 12 0 x59.f_Version⟩ : Speriod_Table)⟩ : Sledger_Book)).bind fun t64 => ((pyxhand_Pick.f k ((List.getD x60 (Int.toNat x62) Spyxhand_Act.zero).f_What) 8).bind fun t65 => (((cond (t65 == 0) ((ledger_Book_Close.f k (⟨t64.2.f_scale, t64.2.f_l, (⟨pack 12 false t64.2.f_t.f_Closed, pack 12 0 t64.2.f_t.f_Version⟩ : Speriod_Table)⟩ : Sledger_Book) t63).bind fun t66 => (some ((List.length t64.1 : Int), (List.length t64.1 : Int), t66.1, x60, x61, x62, t66.2.f_scale, t66.2.f_l, (⟨pack 12 false t66.2.f_t.f_Closed, pack 12 0 t66.2.f_t.f_Version⟩ : Speriod_Table)))) (cond (t65 == 1) ((pyxhand_Pick.f k ((List.getD x60 (Int.toNat x62) Spyxhand_Act.zero).f_N) 6).bind fun t100 => ((ledger_Book_Reverse.f k (⟨t64.2.f_scale, t64.2.f_l, (⟨pack 12 false t64.2.f_t.f_Closed, pack 12 0 t64.2.f_t.f_Version⟩ : Speriod_Table)⟩ : Sledger_Book) t100 t63).bind fun t101 => (some ((List.length t64.1 : Int), t101.1, t101.2.1, x60, x61, x62, t101.2.2.f_scale, t101.2.2.f_l, (⟨pack 12 false t101.2.2.f_t.f_Closed, pack 12 0 t101.2.2.f_t.f_Version⟩ : Speriod_Table))))) ((pyxhand_Lines.f k ((List.getD x60 (Int.toNat x62) Spyxhand_Act.zero).f_L) 2 ((List.getD x60 (Int.toNat x62) Spyxhand_Act.zero).f_Bend) 4).bind fun t102 => ((ledger_Book_Post.f k (⟨t64.2.f_scale, t64.2.f_l, (⟨pack 12 false t64.2.f_t.f_Closed, pack 12 0 t64.2.f_t.f_Version⟩ : Speriod_Table)⟩ : Sledger_Book) t63 t102).bind fun t103 => (some ((List.length t64.1 : Int), t103.1, t103.2.1, x60, x61, x62, t103.2.2.f_scale, t103.2.2.f_l, (⟨pack 12 false t103.2.2.f_t.f_Closed, pack 12 0 t103.2.2.f_t.f_Version⟩ : Speriod_Table))))))) : Option (Int × Int × Int × List Spyxhand_Act × Int × Int × Int × List Sapi_Entry × Speriod_Table)).bind fun y104 => (((cond (y104.2.2.1 == 0) (some (y104.2.2.2.1, y104.2.2.2.2.1, y104.2.2.2.2.2.1, y104.2.1 != y104.1, y104.2.2.2.2.2.2.1, y104.2.2.2.2.2.2.2.1, (⟨pack 12 false y104.2.2.2.2.2.2.2.2.f_Closed, pack 12 0 y104.2.2.2.2.2.2.2.2.f_Version⟩ : Speriod_Table))) (some (y104.2.2.2.1, y104.2.2.2.2.1, y104.2.2.2.2.2.1, false, y104.2.2.2.2.2.2.1, y104.2.2.2.2.2.2.2.1, (⟨pack 12 false y104.2.2.2.2.2.2.2.2.f_Closed, pack 12 0 y104.2.2.2.2.2.2.2.2.f_Version⟩ : Speriod_Table)))) : Option (List Spyxhand_Act × Int × Int × Bool × Int × List Sapi_Entry × Speriod_Table)).bind fun y136 => (cond (y136.2.2.2.1) (some (.inr (.inr false))) (some (.inl (y136.1, y136.2.1, IntKind.wrap .i64 (y136.2.2.1 + 1), y136.2.2.2.2.1, y136.2.2.2.2.2.1, (⟨pack 12 false y136.2.2.2.2.2.2.f_Closed, pack 12 0 y136.2.2.2.2.2.2.f_Version⟩ : Speriod_Table)))))))))) none) (some (.inr (.inl (x33, x34, (⟨pack 12 false x59.f_Closed, pack 12 0 x59.f_Version⟩ : Speriod_Table)))))
noncomputable def pyxlaw14_LedgerEven.l28.once (k : Nat) (x : (List Sapi_Entry × Int × List Sapi_Entry × Int × Int × List Sapi_Line × Int × Int × List Bool × Int × List Sapi_Line × Int × Bool × Int × Int × Int)) : Option ((List Sapi_Entry × Int × List Sapi_Entry × Int × Int × List Sapi_Line × Int × Int × List Bool × Int × List Sapi_Line × Int × Bool × Int × Int × Int) ⊕ ((List Sapi_Entry × Int × List Sapi_Entry × Int × Int × List Bool × Int × List Sapi_Line × Int × Bool × Int × Int × Int))) := match x with | (x173, x175, x183, x184, x185, x186, x187, x188, x174, x176, x177, x178, x179, x180, x181, x182) => cond (decide (x188 < x187)) (cond (inb x188 (List.length x186)) ((dec_Add.f k (⟨x179, (x180, x181), x182⟩ : Sapi_Dec) (⟨((List.getD x186 (Int.toNat x188) Sapi_Line.zero).f_Amount).f_Neg, ((((List.getD x186 (Int.toNat x188) Sapi_Line.zero).f_Amount).f_C).1, (((List.getD x186 (Int.toNat x188) Sapi_Line.zero).f_Amount).f_C).2), ((List.getD x186 (Int.toNat x188) Sapi_Line.zero).f_Amount).f_Scale⟩ : Sapi_Dec)).bind fun t189 => (some (.inl (x173, x175, x183, x184, x185, x186, x187, IntKind.wrap .i64 (x188 + 1), x174, x176, x177, x178, t189.1.f_Neg, t189.1.f_C.1, t189.1.f_C.2, t189.1.f_Scale)))) none) (some (.inr (x173, x175, x183, x184, x185, x174, x176, x177, x178, x179, x180, x181, x182)))
noncomputable def pyxlaw14_LedgerEven.l39.once (k : Nat) (x : (List Sapi_Entry × List Sapi_Entry × Int × Int × List Sapi_Line × Int × Int × List Bool × Int × List Sapi_Line × Int)) : Option ((List Sapi_Entry × List Sapi_Entry × Int × Int × List Sapi_Line × Int × Int × List Bool × Int × List Sapi_Line × Int) ⊕ ((List Sapi_Entry × List Sapi_Entry × Int × Int × List Bool) ⊕ Bool)) := match x with | (x215, x220, x221, x222, x223, x224, x225, x216, x217, x218, x219) => cond (decide (x225 < x224)) (cond (inb x225 (List.length x223)) (cond (inb x219 (List.length x215)) (cond (inb x225 (List.length ((List.getD x215 (Int.toNat x219) Sapi_Entry.zero).f_Lines))) ((dec_Add.f k (⟨((List.getD x223 (Int.toNat x225) Sapi_Line.zero).f_Amount).f_Neg, ((((List.getD x223 (Int.toNat x225) Sapi_Line.zero).f_Amount).f_C).1, (((List.getD x223 (Int.toNat x225) Sapi_Line.zero).f_Amount).f_C).2), ((List.getD x223 (Int.toNat x225) Sapi_Line.zero).f_Amount).f_Scale⟩ : Sapi_Dec) (⟨((List.getD ((List.getD x215 (Int.toNat x219) Sapi_Entry.zero).f_Lines) (Int.toNat x225) Sapi_Line.zero).f_Amount).f_Neg, ((((List.getD ((List.getD x215 (Int.toNat x219) Sapi_Entry.zero).f_Lines) (Int.toNat x225) Sapi_Line.zero).f_Amount).f_C).1, (((List.getD ((List.getD x215 (Int.toNat x219) Sapi_Entry.zero).f_Lines) (Int.toNat x225) Sapi_Line.zero).f_Amount).f_C).2), ((List.getD ((List.getD x215 (Int.toNat x219) Sapi_Entry.zero).f_Lines) (Int.toNat x225) Sapi_Line.zero).f_Amount).f_Scale⟩ : Sapi_Dec)).bind fun t226 => (((cond (((List.getD x223 (Int.toNat x225) Sapi_Line.zero).f_Acct) != ((List.getD ((List.getD x215 (Int.toNat x219) Sapi_Entry.zero).f_Lines) (Int.toNat x225) Sapi_Line.zero).f_Acct)) (some (x215, x220, x221, x222, x223, x224, x225, true, x216, x217, x218, x219)) (cond (((List.getD x223 (Int.toNat x225) Sapi_Line.zero).f_With) != ((List.getD ((List.getD x215 (Int.toNat x219) Sapi_Entry.zero).f_Lines) (Int.toNat x225) Sapi_Line.zero).f_With)) (some (x215, x220, x221, x222, x223, x224, x225, true, x216, x217, x218, x219)) ((dec_Sign.f k (⟨t226.1.f_Neg, (t226.1.f_C.1, t226.1.f_C.2), t226.1.f_Scale⟩ : Sapi_Dec)).bind fun t239 => (some (x215, x220, x221, x222, x223, x224, x225, t239 != 0, x216, x217, x218, x219))))) : Option (List Sapi_Entry × List Sapi_Entry × Int × Int × List Sapi_Line × Int × Int × Bool × List Bool × Int × List Sapi_Line × Int)).bind fun y240 => (cond (y240.2.2.2.2.2.2.2.1) (some (.inr (.inr false))) (some (.inl (y240.1, y240.2.1, y240.2.2.1, y240.2.2.2.1, y240.2.2.2.2.1, y240.2.2.2.2.2.1, IntKind.wrap .i64 (y240.2.2.2.2.2.2.1 + 1), y240.2.2.2.2.2.2.2.2.1, y240.2.2.2.2.2.2.2.2.2.1, y240.2.2.2.2.2.2.2.2.2.2.1, y240.2.2.2.2.2.2.2.2.2.2.2)))))) none) none) none) (some (.inr (.inl (x215, x220, x221, x222, x216))))
noncomputable def pyxlaw14_LedgerEven.l24.once (k : Nat) (x : (List Sapi_Entry × List Sapi_Entry × Int × Int × List Bool)) : Option ((List Sapi_Entry × List Sapi_Entry × Int × Int × List Bool) ⊕ (Unit ⊕ Bool)) := match x with | (x167, x169, x170, x171, x168) => cond (decide (x171 < x170)) (cond (inb x171 (List.length x169)) ((pyxref11_Zero.f k 2).bind fun t172 => ((iter (pyxlaw14_LedgerEven.l28.once k) k (x167, x171, x169, x170, x171, (List.getD x169 (Int.toNat x171) Sapi_Entry.zero).f_Lines, (List.length ((List.getD x169 (Int.toNat x171) Sapi_Entry.zero).f_Lines) : Int), 0, x168, (List.getD x169 (Int.toNat x171) Sapi_Entry.zero).f_Period, (List.getD x169 (Int.toNat x171) Sapi_Entry.zero).f_Lines, (List.getD x169 (Int.toNat x171) Sapi_Entry.zero).f_Of, t172.f_Neg, t172.f_C.1, t172.f_C.2, t172.f_Scale)).bind fun y203 => ((dec_Sign.f k (⟨y203.2.2.2.2.2.2.2.2.2.1, (y203.2.2.2.2.2.2.2.2.2.2.1, y203.2.2.2.2.2.2.2.2.2.2.2.1), y203.2.2.2.2.2.2.2.2.2.2.2.2⟩ : Sapi_Dec)).bind fun t204 => (cond (t204 != 0) (some (.inr (.inr false))) (cond (decide (y203.2.2.2.2.2.2.2.2.1 < 0)) (some (.inl (y203.1, y203.2.2.1, y203.2.2.2.1, IntKind.wrap .i64 (y203.2.2.2.2.1 + 1), y203.2.2.2.2.2.1))) (((cond (decide (y203.2.2.2.2.2.2.2.2.1 ≥ y203.2.1)) (some (y203.1, y203.2.2.1, y203.2.2.2.1, y203.2.2.2.2.1, true, y203.2.2.2.2.2.1, y203.2.2.2.2.2.2.1, y203.2.2.2.2.2.2.2.1, y203.2.2.2.2.2.2.2.2.1)) (cond (inb y203.2.2.2.2.2.2.2.2.1 (List.length y203.2.2.2.2.2.1)) (cond (Nat.blt (Int.toNat y203.2.2.2.2.2.2.2.2.1) (List.length y203.2.2.2.2.2.1)) (cond (List.getD y203.2.2.2.2.2.1 (Int.toNat y203.2.2.2.2.2.2.2.2.1) false) (some (y203.1, y203.2.2.1, y203.2.2.2.1, y203.2.2.2.2.1, true, y203.2.2.2.2.2.1, y203.2.2.2.2.2.2.1, y203.2.2.2.2.2.2.2.1, y203.2.2.2.2.2.2.2.2.1)) (cond (inb y203.2.2.2.2.2.2.2.2.1 (List.length y203.1)) (cond (decide (((List.getD y203.1 (Int.toNat y203.2.2.2.2.2.2.2.2.1) Sapi_Entry.zero).f_Of) ≥ 0)) (some (y203.1, y203.2.2.1, y203.2.2.2.1, y203.2.2.2.2.1, true, y203.2.2.2.2.2.1, y203.2.2.2.2.2.2.1, y203.2.2.2.2.2.2.2.1, y203.2.2.2.2.2.2.2.2.1)) (cond (inb y203.2.2.2.2.2.2.2.2.1 (List.length y203.1)) (some (y203.1, y203.2.2.1, y203.2.2.2.1, y203.2.2.2.2.1, (List.length y203.2.2.2.2.2.2.2.1 : Int) != (List.length ((List.getD y203.1 (Int.toNat y203.2.2.2.2.2.2.2.2.1) Sapi_Entry.zero).f_Lines) : Int), y203.2.2.2.2.2.1, y203.2.2.2.2.2.2.1, y203.2.2.2.2.2.2.2.1, y203.2.2.2.2.2.2.2.2.1)) none)) none)) none) none)) : Option (List Sapi_Entry × List Sapi_Entry × Int × Int × Bool × List Bool × Int × List Sapi_Line × Int)).bind fun y214 => (cond (y214.2.2.2.2.1) (some (.inr (.inr false))) (cond (inb y214.2.2.2.2.2.2.2.2 (List.length y214.2.2.2.2.2.1)) (cond (Nat.blt (Int.toNat y214.2.2.2.2.2.2.2.2) (List.length y214.2.2.2.2.2.1)) ((iter (pyxlaw14_LedgerEven.l39.once k) k (y214.1, y214.2.1, y214.2.2.1, y214.2.2.2.1, y214.2.2.2.2.2.2.2.1, (List.length y214.2.2.2.2.2.2.2.1 : Int), 0, List.set y214.2.2.2.2.2.1 (Int.toNat y214.2.2.2.2.2.2.2.2) true, y214.2.2.2.2.2.2.1, y214.2.2.2.2.2.2.2.1, y214.2.2.2.2.2.2.2.2)).bind fun | .inl y247 => (some (.inl (y247.1, y247.2.1, y247.2.2.1, IntKind.wrap .i64 (y247.2.2.2.1 + 1), y247.2.2.2.2))) | .inr y248 => (some (.inr (.inr y248)))) none) none)))))))) none) (some (.inr (.inl ())))
noncomputable def pyxlaw14_LedgerEven.f (k : Nat) (a0 : List Spyxhand_Act) : Option Bool := (ledger_New.f k 2).bind fun t1 => ((((pyxlaw14_known.f k).bind fun t2 => (cond (!t2) (some (a0, true, t1.f_scale, t1.f_l, (⟨pack 12 false t1.f_t.f_Closed, pack 12 0 t1.f_t.f_Version⟩ : Speriod_Table))) (some (a0, false, t1.f_scale, t1.f_l, (⟨pack 12 false t1.f_t.f_Closed, pack 12 0 t1.f_t.f_Version⟩ : Speriod_Table))))) : Option (List Spyxhand_Act × Bool × Int × List Sapi_Entry × Speriod_Table)).bind fun y32 => (cond (y32.2.1) (some false) ((iter (pyxlaw14_LedgerEven.l5.once k) k (y32.1, (List.length y32.1 : Int), 0, y32.2.2.1, y32.2.2.2.1, (⟨pack 12 false y32.2.2.2.2.f_Closed, pack 12 0 y32.2.2.2.2.f_Version⟩ : Speriod_Table))).bind fun | .inl y165 => ((ledger_Book_Entries.f k (⟨y165.1, y165.2.1, (⟨pack 12 false y165.2.2.f_Closed, pack 12 0 y165.2.2.f_Version⟩ : Speriod_Table)⟩ : Sledger_Book)).bind fun t166 => (cond ((decide (0 ≤ (List.length t166.1 : Int)) && decide ((List.length t166.1 : Int) = (List.length t166.1 : Int))) && decide ((List.length t166.1 : Int) * 1 ≤ 140737488355328)) ((iter (pyxlaw14_LedgerEven.l24.once k) k (t166.1, t166.1, (List.length t166.1 : Int), 0, List.replicate (Int.toNat (List.length t166.1 : Int)) (false : Bool))).bind fun | .inl y250 => (some true) | .inr y251 => (some y251)) none)) | .inr y252 => (some y252))))
noncomputable def pyxlaw14_LedgerEven.un (s : St U) : Option (List Spyxhand_Act) := match s.get 0 with | .row C.Spyxhand_Act x1 => some x1 | _ => none
noncomputable def pyxlaw14_LedgerEven.mk (x : List Spyxhand_Act) : St U := ⟨[(0, .row C.Spyxhand_Act x)], []⟩
noncomputable def pyxlaw14_LedgerEven.fin (y : Bool) : St U := ⟨[(0, .flat (.bool y))], []⟩
noncomputable def pyxlaw14_LedgerEven.D (k : Nat) : FDen U := { X := List Spyxhand_Act, Y := Bool, nt := 195, gh := [], un := pyxlaw14_LedgerEven.un, f := fun x => pyxlaw14_LedgerEven.f k (x), fin := pyxlaw14_LedgerEven.fin, cl := true, clo := fun _ _ => rfl }
noncomputable def pyxlaw14_LedgerEven.re (s : St U) : Option Bool := match s.get 0 with | .flat (.bool x1) => some x1 | _ => none
noncomputable def pyxlaw14_LedgerEven.l5.mk (x : (List Spyxhand_Act × Int × Int × Int × List Sapi_Entry × Speriod_Table)) : St U := match x with | (x60, x61, x62, x33, x34, x59) => ⟨[(3, .ptr 230000000000007 0), (29, .row C.Spyxhand_Act x60), (30, .flat (.int .i64 x61)), (31, .flat (.int .i64 x62))], [(230000000000007, .lit ((.flat (.int .i64 x33)) :: (.tip 23000002000500701 C.Sapi_Entry x34) :: cd_Speriod_Table.enc x59)), (23000002000500701, .tip 3)]⟩
noncomputable def pyxlaw14_LedgerEven.l5.un (s : St U) : Option (List Spyxhand_Act × Int × Int × Int × List Sapi_Entry × Speriod_Table) := (row_Spyxhand_Act (s.get 29)).bind fun q0 => (match s.get 3, s.get 30, s.get 31, lk s.o 230000000000007 with | .ptr 230000000000007 0, .flat (.int .i64 x61), .flat (.int .i64 x62), some (.lit (.flat (.int .i64 x33) :: u230000000000007_1 :: u230000000000007_t)) => (tip_Sapi_Entry s.o 3 u230000000000007_1).bind fun w230000000000007_1 => ((cd_Speriod_Table.full u230000000000007_t).bind fun w230000000000007_t => (some (q0, x61, x62, x33, w230000000000007_1.2, w230000000000007_t))) | _, _, _, _ => none)
noncomputable def pyxlaw14_LedgerEven.l5.fin (y : (Int × List Sapi_Entry × Speriod_Table) ⊕ Bool) : Out U := match y with | .inl (x137, x138, x163) => .exit 0 ⟨[(3, .ptr 230000000000007 0)], [(230000000000007, .lit ((.flat (.int .i64 x137)) :: (.tip 23000002000500701 C.Sapi_Entry x138) :: cd_Speriod_Table.enc x163)), (23000002000500701, .tip 3)]⟩ | .inr z => .ret (⟨[(0, .flat (.bool z))], []⟩)
noncomputable def pyxlaw14_LedgerEven.l5.finK {ρ : Type} (y : (Int × List Sapi_Entry × Speriod_Table) ⊕ Bool) (K : Out U → Option ρ) : Option ρ := match y with | .inl (x137, x138, x163) => K (.exit 0 ⟨[(3, .ptr 230000000000007 0)], [(230000000000007, .lit ((.flat (.int .i64 x137)) :: (.tip 23000002000500701 C.Sapi_Entry x138) :: cd_Speriod_Table.enc x163)), (23000002000500701, .tip 3)]⟩) | .inr z => K (.ret (⟨[(0, .flat (.bool z))], []⟩))
theorem pyxlaw14_LedgerEven.l5.finK_eq {ρ : Type} (y : (Int × List Sapi_Entry × Speriod_Table) ⊕ Bool) (K : Out U → Option ρ) : pyxlaw14_LedgerEven.l5.finK y K = K (pyxlaw14_LedgerEven.l5.fin y) := by
  unfold pyxlaw14_LedgerEven.l5.finK pyxlaw14_LedgerEven.l5.fin
  first | rfl | (split <;> rfl)
noncomputable def pyxlaw14_LedgerEven.l5.re : Out U → Option ((Int × List Sapi_Entry × Speriod_Table) ⊕ Bool) | .exit 0 s => (match s.get 3, lk s.o 230000000000007 with | .ptr 230000000000007 0, some (.lit (.flat (.int .i64 x137) :: u230000000000007_1 :: u230000000000007_t)) => (tip_Sapi_Entry s.o 3 u230000000000007_1).bind fun w230000000000007_1 => ((cd_Speriod_Table.full u230000000000007_t).bind fun w230000000000007_t => (some (.inl (x137, w230000000000007_1.2, w230000000000007_t)))) | _, _ => none) | .ret s => (match s.get 0 with | .flat (.bool x1) => some (.inr x1) | _ => none) | _ => none
noncomputable def pyxlaw14_LedgerEven.l5.L (k : Nat) : LDen U := { X := (List Spyxhand_Act × Int × Int × Int × List Sapi_Entry × Speriod_Table), Y := (Int × List Sapi_Entry × Speriod_Table) ⊕ Bool, un := pyxlaw14_LedgerEven.l5.un, f := iter (pyxlaw14_LedgerEven.l5.once k) k, fin := pyxlaw14_LedgerEven.l5.fin, finK := pyxlaw14_LedgerEven.l5.finK, finK_eq := pyxlaw14_LedgerEven.l5.finK_eq }
noncomputable def pyxlaw14_LedgerEven.l28.mk (x : (List Sapi_Entry × Int × List Sapi_Entry × Int × Int × List Sapi_Line × Int × Int × List Bool × Int × List Sapi_Line × Int × Bool × Int × Int × Int)) : St U := match x with | (x173, x175, x183, x184, x185, x186, x187, x188, x174, x176, x177, x178, x179, x180, x181, x182) => ⟨[(13, .ptr 13 0), (14, .ptr 14 0), (10, .row C.Sapi_Entry x173), (11, .vs 1028011), (12, .flat (.int .i64 x175)), (85, .row C.Sapi_Entry x183), (86, .flat (.int .i64 x184)), (87, .flat (.int .i64 x185)), (94, .row C.Sapi_Line x186), (95, .flat (.int .i64 x187)), (96, .flat (.int .i64 x188))], [(1028011, .vec C.bool x174), (13, .lit [.flat (.int .i64 x176), .row C.Sapi_Line x177, .flat (.int .i64 x178)]), (14, .lit [.flat (.bool x179), .flat (.int .u64 x180), .flat (.int .u64 x181), .flat (.int .i64 x182)])]⟩
noncomputable def pyxlaw14_LedgerEven.l28.un (s : St U) : Option (List Sapi_Entry × Int × List Sapi_Entry × Int × Int × List Sapi_Line × Int × Int × List Bool × Int × List Sapi_Line × Int × Bool × Int × Int × Int) := (row_Sapi_Entry (s.get 10)).bind fun q0 => ((vec_bool s.o (s.get 11)).bind fun q1 => ((row_Sapi_Entry (s.get 85)).bind fun q2 => ((row_Sapi_Line (s.get 94)).bind fun q3 => (match s.get 13, s.get 14, s.get 12, s.get 86, s.get 87, s.get 95, s.get 96, lk s.o 13, lk s.o 14 with | .ptr 13 0, .ptr 14 0, .flat (.int .i64 x175), .flat (.int .i64 x184), .flat (.int .i64 x185), .flat (.int .i64 x187), .flat (.int .i64 x188), some (.lit [.flat (.int .i64 x176), u13_1, .flat (.int .i64 x178)]), some (.lit [.flat (.bool x179), .flat (.int .u64 x180), .flat (.int .u64 x181), .flat (.int .i64 x182)]) => (row_Sapi_Line u13_1).bind fun w13_1 => (some (q0, x175, q2, x184, x185, q3, x187, x188, q1.2, x176, w13_1, x178, x179, x180, x181, x182)) | _, _, _, _, _, _, _, _, _ => none))))
noncomputable def pyxlaw14_LedgerEven.l28.fin (y : (List Sapi_Entry × Int × List Sapi_Entry × Int × Int × List Bool × Int × List Sapi_Line × Int × Bool × Int × Int × Int)) : Out U := match y with | (x190, x192, x200, x201, x202, x191, x193, x194, x195, x196, x197, x198, x199) => .exit 5 ⟨[(13, .ptr 13 0), (14, .ptr 14 0), (10, .row C.Sapi_Entry x190), (11, .vs 1028011), (12, .flat (.int .i64 x192)), (85, .row C.Sapi_Entry x200), (86, .flat (.int .i64 x201)), (87, .flat (.int .i64 x202))], [(1028011, .vec C.bool x191), (13, .lit [.flat (.int .i64 x193), .row C.Sapi_Line x194, .flat (.int .i64 x195)]), (14, .lit [.flat (.bool x196), .flat (.int .u64 x197), .flat (.int .u64 x198), .flat (.int .i64 x199)])]⟩
noncomputable def pyxlaw14_LedgerEven.l28.finK {ρ : Type} (y : (List Sapi_Entry × Int × List Sapi_Entry × Int × Int × List Bool × Int × List Sapi_Line × Int × Bool × Int × Int × Int)) (K : Out U → Option ρ) : Option ρ := match y with | (x190, x192, x200, x201, x202, x191, x193, x194, x195, x196, x197, x198, x199) => K (.exit 5 ⟨[(13, .ptr 13 0), (14, .ptr 14 0), (10, .row C.Sapi_Entry x190), (11, .vs 1028011), (12, .flat (.int .i64 x192)), (85, .row C.Sapi_Entry x200), (86, .flat (.int .i64 x201)), (87, .flat (.int .i64 x202))], [(1028011, .vec C.bool x191), (13, .lit [.flat (.int .i64 x193), .row C.Sapi_Line x194, .flat (.int .i64 x195)]), (14, .lit [.flat (.bool x196), .flat (.int .u64 x197), .flat (.int .u64 x198), .flat (.int .i64 x199)])]⟩)
theorem pyxlaw14_LedgerEven.l28.finK_eq {ρ : Type} (y : (List Sapi_Entry × Int × List Sapi_Entry × Int × Int × List Bool × Int × List Sapi_Line × Int × Bool × Int × Int × Int)) (K : Out U → Option ρ) : pyxlaw14_LedgerEven.l28.finK y K = K (pyxlaw14_LedgerEven.l28.fin y) := by
  unfold pyxlaw14_LedgerEven.l28.finK pyxlaw14_LedgerEven.l28.fin
  first | rfl | (split <;> rfl)
noncomputable def pyxlaw14_LedgerEven.l28.re : Out U → Option ((List Sapi_Entry × Int × List Sapi_Entry × Int × Int × List Bool × Int × List Sapi_Line × Int × Bool × Int × Int × Int)) | .exit 5 s => ((row_Sapi_Entry (s.get 10)).bind fun q0 => ((vec_bool s.o (s.get 11)).bind fun q1 => ((row_Sapi_Entry (s.get 85)).bind fun q2 => (match s.get 13, s.get 14, s.get 12, s.get 86, s.get 87, lk s.o 13, lk s.o 14 with | .ptr 13 0, .ptr 14 0, .flat (.int .i64 x192), .flat (.int .i64 x201), .flat (.int .i64 x202), some (.lit [.flat (.int .i64 x193), u13_1, .flat (.int .i64 x195)]), some (.lit [.flat (.bool x196), .flat (.int .u64 x197), .flat (.int .u64 x198), .flat (.int .i64 x199)]) => (row_Sapi_Line u13_1).bind fun w13_1 => (some (q0, x192, q2, x201, x202, q1.2, x193, w13_1, x195, x196, x197, x198, x199)) | _, _, _, _, _, _, _ => none)))) | _ => none
noncomputable def pyxlaw14_LedgerEven.l28.L (k : Nat) : LDen U := { X := (List Sapi_Entry × Int × List Sapi_Entry × Int × Int × List Sapi_Line × Int × Int × List Bool × Int × List Sapi_Line × Int × Bool × Int × Int × Int), Y := (List Sapi_Entry × Int × List Sapi_Entry × Int × Int × List Bool × Int × List Sapi_Line × Int × Bool × Int × Int × Int), un := pyxlaw14_LedgerEven.l28.un, f := iter (pyxlaw14_LedgerEven.l28.once k) k, fin := pyxlaw14_LedgerEven.l28.fin, finK := pyxlaw14_LedgerEven.l28.finK, finK_eq := pyxlaw14_LedgerEven.l28.finK_eq }
noncomputable def pyxlaw14_LedgerEven.l39.mk (x : (List Sapi_Entry × List Sapi_Entry × Int × Int × List Sapi_Line × Int × Int × List Bool × Int × List Sapi_Line × Int)) : St U := match x with | (x215, x220, x221, x222, x223, x224, x225, x216, x217, x218, x219) => ⟨[(13, .ptr 13 0), (10, .row C.Sapi_Entry x215), (11, .vs 1039011), (85, .row C.Sapi_Entry x220), (86, .flat (.int .i64 x221)), (87, .flat (.int .i64 x222)), (152, .row C.Sapi_Line x223), (153, .flat (.int .i64 x224)), (154, .flat (.int .i64 x225))], [(1039011, .vec C.bool x216), (13, .lit [.flat (.int .i64 x217), .row C.Sapi_Line x218, .flat (.int .i64 x219)])]⟩
noncomputable def pyxlaw14_LedgerEven.l39.un (s : St U) : Option (List Sapi_Entry × List Sapi_Entry × Int × Int × List Sapi_Line × Int × Int × List Bool × Int × List Sapi_Line × Int) := (row_Sapi_Entry (s.get 10)).bind fun q0 => ((vec_bool s.o (s.get 11)).bind fun q1 => ((row_Sapi_Entry (s.get 85)).bind fun q2 => ((row_Sapi_Line (s.get 152)).bind fun q3 => (match s.get 13, s.get 86, s.get 87, s.get 153, s.get 154, lk s.o 13 with | .ptr 13 0, .flat (.int .i64 x221), .flat (.int .i64 x222), .flat (.int .i64 x224), .flat (.int .i64 x225), some (.lit [.flat (.int .i64 x217), u13_1, .flat (.int .i64 x219)]) => (row_Sapi_Line u13_1).bind fun w13_1 => (some (q0, q2, x221, x222, q3, x224, x225, q1.2, x217, w13_1, x219)) | _, _, _, _, _, _ => none))))
noncomputable def pyxlaw14_LedgerEven.l39.fin (y : (List Sapi_Entry × List Sapi_Entry × Int × Int × List Bool) ⊕ Bool) : Out U := match y with | .inl (x241, x243, x244, x245, x242) => .exit 7 ⟨[(10, .row C.Sapi_Entry x241), (11, .vs 1039011), (85, .row C.Sapi_Entry x243), (86, .flat (.int .i64 x244)), (87, .flat (.int .i64 x245))], [(1039011, .vec C.bool x242)]⟩ | .inr z => .ret (⟨[(0, .flat (.bool z))], []⟩)
noncomputable def pyxlaw14_LedgerEven.l39.finK {ρ : Type} (y : (List Sapi_Entry × List Sapi_Entry × Int × Int × List Bool) ⊕ Bool) (K : Out U → Option ρ) : Option ρ := match y with | .inl (x241, x243, x244, x245, x242) => K (.exit 7 ⟨[(10, .row C.Sapi_Entry x241), (11, .vs 1039011), (85, .row C.Sapi_Entry x243), (86, .flat (.int .i64 x244)), (87, .flat (.int .i64 x245))], [(1039011, .vec C.bool x242)]⟩) | .inr z => K (.ret (⟨[(0, .flat (.bool z))], []⟩))
theorem pyxlaw14_LedgerEven.l39.finK_eq {ρ : Type} (y : (List Sapi_Entry × List Sapi_Entry × Int × Int × List Bool) ⊕ Bool) (K : Out U → Option ρ) : pyxlaw14_LedgerEven.l39.finK y K = K (pyxlaw14_LedgerEven.l39.fin y) := by
  unfold pyxlaw14_LedgerEven.l39.finK pyxlaw14_LedgerEven.l39.fin
  first | rfl | (split <;> rfl)
noncomputable def pyxlaw14_LedgerEven.l39.re : Out U → Option ((List Sapi_Entry × List Sapi_Entry × Int × Int × List Bool) ⊕ Bool) | .exit 7 s => ((row_Sapi_Entry (s.get 10)).bind fun q0 => ((vec_bool s.o (s.get 11)).bind fun q1 => ((row_Sapi_Entry (s.get 85)).bind fun q2 => (match s.get 86, s.get 87 with | .flat (.int .i64 x244), .flat (.int .i64 x245) => some (.inl (q0, q2, x244, x245, q1.2)) | _, _ => none)))) | .ret s => (match s.get 0 with | .flat (.bool x1) => some (.inr x1) | _ => none) | _ => none
noncomputable def pyxlaw14_LedgerEven.l39.L (k : Nat) : LDen U := { X := (List Sapi_Entry × List Sapi_Entry × Int × Int × List Sapi_Line × Int × Int × List Bool × Int × List Sapi_Line × Int), Y := (List Sapi_Entry × List Sapi_Entry × Int × Int × List Bool) ⊕ Bool, un := pyxlaw14_LedgerEven.l39.un, f := iter (pyxlaw14_LedgerEven.l39.once k) k, fin := pyxlaw14_LedgerEven.l39.fin, finK := pyxlaw14_LedgerEven.l39.finK, finK_eq := pyxlaw14_LedgerEven.l39.finK_eq }
noncomputable def pyxlaw14_LedgerEven.l24.mk (x : (List Sapi_Entry × List Sapi_Entry × Int × Int × List Bool)) : St U := match x with | (x167, x169, x170, x171, x168) => ⟨[(10, .row C.Sapi_Entry x167), (11, .vs 1024011), (85, .row C.Sapi_Entry x169), (86, .flat (.int .i64 x170)), (87, .flat (.int .i64 x171))], [(1024011, .vec C.bool x168)]⟩
noncomputable def pyxlaw14_LedgerEven.l24.un (s : St U) : Option (List Sapi_Entry × List Sapi_Entry × Int × Int × List Bool) := (row_Sapi_Entry (s.get 10)).bind fun q0 => ((vec_bool s.o (s.get 11)).bind fun q1 => ((row_Sapi_Entry (s.get 85)).bind fun q2 => (match s.get 86, s.get 87 with | .flat (.int .i64 x170), .flat (.int .i64 x171) => some (q0, q2, x170, x171, q1.2) | _, _ => none)))
noncomputable def pyxlaw14_LedgerEven.l24.fin (y : Unit ⊕ Bool) : Out U := match y with | .inl () => .exit 3 ⟨[], []⟩ | .inr z => .ret (⟨[(0, .flat (.bool z))], []⟩)
noncomputable def pyxlaw14_LedgerEven.l24.finK {ρ : Type} (y : Unit ⊕ Bool) (K : Out U → Option ρ) : Option ρ := match y with | .inl () => K (.exit 3 ⟨[], []⟩) | .inr z => K (.ret (⟨[(0, .flat (.bool z))], []⟩))
theorem pyxlaw14_LedgerEven.l24.finK_eq {ρ : Type} (y : Unit ⊕ Bool) (K : Out U → Option ρ) : pyxlaw14_LedgerEven.l24.finK y K = K (pyxlaw14_LedgerEven.l24.fin y) := by
  unfold pyxlaw14_LedgerEven.l24.finK pyxlaw14_LedgerEven.l24.fin
  first | rfl | (split <;> rfl)
noncomputable def pyxlaw14_LedgerEven.l24.re : Out U → Option (Unit ⊕ Bool) | .exit 3 s => (some (.inl ())) | .ret s => (match s.get 0 with | .flat (.bool x1) => some (.inr x1) | _ => none) | _ => none
noncomputable def pyxlaw14_LedgerEven.l24.L (k : Nat) : LDen U := { X := (List Sapi_Entry × List Sapi_Entry × Int × Int × List Bool), Y := Unit ⊕ Bool, un := pyxlaw14_LedgerEven.l24.un, f := iter (pyxlaw14_LedgerEven.l24.once k) k, fin := pyxlaw14_LedgerEven.l24.fin, finK := pyxlaw14_LedgerEven.l24.finK, finK_eq := pyxlaw14_LedgerEven.l24.finK_eq }
noncomputable def pyxlaw14_LedgerEven.j2000.fin (y : (List Spyxhand_Act × Bool × Int × List Sapi_Entry × Speriod_Table)) : Out U := match y with | (x3, x31, x4, x5, x30) => .norm ⟨[(3, .ptr 230000000000007 0), (0, .row C.Spyxhand_Act x3), (28, .flat (.bool x31))], [(230000000000007, .lit ((.flat (.int .i64 x4)) :: (.tip 23000102200000701 C.Sapi_Entry x5) :: cd_Speriod_Table.enc x30)), (23000102200000701, .tip 3)]⟩
noncomputable def pyxlaw14_LedgerEven.j2000.finK {ρ : Type} (y : (List Spyxhand_Act × Bool × Int × List Sapi_Entry × Speriod_Table)) (K : Out U → Option ρ) : Option ρ := match y with | (x3, x31, x4, x5, x30) => K (.norm ⟨[(3, .ptr 230000000000007 0), (0, .row C.Spyxhand_Act x3), (28, .flat (.bool x31))], [(230000000000007, .lit ((.flat (.int .i64 x4)) :: (.tip 23000102200000701 C.Sapi_Entry x5) :: cd_Speriod_Table.enc x30)), (23000102200000701, .tip 3)]⟩)
theorem pyxlaw14_LedgerEven.j2000.finK_eq {ρ : Type} (y : (List Spyxhand_Act × Bool × Int × List Sapi_Entry × Speriod_Table)) (K : Out U → Option ρ) : pyxlaw14_LedgerEven.j2000.finK y K = K (pyxlaw14_LedgerEven.j2000.fin y) := by
  unfold pyxlaw14_LedgerEven.j2000.finK pyxlaw14_LedgerEven.j2000.fin
  first | rfl | (split <;> rfl)
noncomputable def pyxlaw14_LedgerEven.j2000.re : Out U → Option ((List Spyxhand_Act × Bool × Int × List Sapi_Entry × Speriod_Table)) | .norm s => ((row_Spyxhand_Act (s.get 0)).bind fun q0 => (match s.get 3, s.get 28, lk s.o 230000000000007 with | .ptr 230000000000007 0, .flat (.bool x31), some (.lit (.flat (.int .i64 x4) :: u230000000000007_1 :: u230000000000007_t)) => (tip_Sapi_Entry s.o 3 u230000000000007_1).bind fun w230000000000007_1 => ((cd_Speriod_Table.full u230000000000007_t).bind fun w230000000000007_t => (some (q0, x31, x4, w230000000000007_1.2, w230000000000007_t))) | _, _, _ => none)) | _ => none
noncomputable def pyxlaw14_LedgerEven.j2000.J : JDen U := { Y := (List Spyxhand_Act × Bool × Int × List Sapi_Entry × Speriod_Table), re := pyxlaw14_LedgerEven.j2000.re, fin := pyxlaw14_LedgerEven.j2000.fin, finK := pyxlaw14_LedgerEven.j2000.finK, finK_eq := pyxlaw14_LedgerEven.j2000.finK_eq }
theorem pyxlaw14_LedgerEven.j2000.fit (o : Out U) (y : (List Spyxhand_Act × Bool × Int × List Sapi_Entry × Speriod_Table)) (h : pyxlaw14_LedgerEven.j2000.re o = some y) : FitsO o (pyxlaw14_LedgerEven.j2000.fin y) := by
  unfold pyxlaw14_LedgerEven.j2000.re at h
  split at h
  · obtain ⟨q0, eq0, h1⟩ := Option.bind_eq_some_iff.1 h
    split at h1
    · obtain ⟨w230000000000007_1, ew230000000000007_1, h2⟩ := Option.bind_eq_some_iff.1 h1
      obtain ⟨w230000000000007_t, ew230000000000007_t, h3⟩ := Option.bind_eq_some_iff.1 h2
      cases h3
      refine fitsO_norm (fits_ren [(23000102200000701, w230000000000007_1.1)] ?_ ?_ ren_one rfl)
      · exact List.forall_mem_cons.2 ⟨FV.one (FV.ptr (by assumption)), List.forall_mem_cons.2 ⟨FV.one (row_Spyxhand_Act_fit eq0), List.forall_mem_cons.2 ⟨FV.one (FV.same (by assumption) rfl), fun _ hp => (List.not_mem_nil hp).elim⟩⟩⟩
      · exact List.forall_mem_cons.2 ⟨(FO.cells (show lk (St.o _) 230000000000007 = some _ from by assumption) (FCs.cons (c0_same rfl rfl) (FCs.cons ((tip_Sapi_Entry_fit ew230000000000007_1 rfl).1) (FCs.tail (Cd.full_ok ew230000000000007_t) rfl)))), List.forall_mem_cons.2 ⟨(tip_Sapi_Entry_fit ew230000000000007_1 rfl).2, fun _ hp => (List.not_mem_nil hp).elim⟩⟩
    · cases h1
  · cases h
noncomputable def pyxlaw14_LedgerEven.j13001.fin (y : (Int × Int × Int × List Spyxhand_Act × Int × Int × Int × List Sapi_Entry × Speriod_Table)) : Out U := match y with | (x94, x95, x96, x97, x98, x99, x67, x68, x93) => .norm ⟨[(3, .ptr 230000000000007 0), (7, .flat (.int .i64 x94)), (8, .flat (.int .i64 x95)), (9, .flat (.int .i64 x96)), (29, .row C.Spyxhand_Act x97), (30, .flat (.int .i64 x98)), (31, .flat (.int .i64 x99))], [(230000000000007, .lit ((.flat (.int .i64 x67)) :: (.tip 23000103300100701 C.Sapi_Entry x68) :: cd_Speriod_Table.enc x93)), (23000103300100701, .tip 3)]⟩
noncomputable def pyxlaw14_LedgerEven.j13001.finK {ρ : Type} (y : (Int × Int × Int × List Spyxhand_Act × Int × Int × Int × List Sapi_Entry × Speriod_Table)) (K : Out U → Option ρ) : Option ρ := match y with | (x94, x95, x96, x97, x98, x99, x67, x68, x93) => K (.norm ⟨[(3, .ptr 230000000000007 0), (7, .flat (.int .i64 x94)), (8, .flat (.int .i64 x95)), (9, .flat (.int .i64 x96)), (29, .row C.Spyxhand_Act x97), (30, .flat (.int .i64 x98)), (31, .flat (.int .i64 x99))], [(230000000000007, .lit ((.flat (.int .i64 x67)) :: (.tip 23000103300100701 C.Sapi_Entry x68) :: cd_Speriod_Table.enc x93)), (23000103300100701, .tip 3)]⟩)
theorem pyxlaw14_LedgerEven.j13001.finK_eq {ρ : Type} (y : (Int × Int × Int × List Spyxhand_Act × Int × Int × Int × List Sapi_Entry × Speriod_Table)) (K : Out U → Option ρ) : pyxlaw14_LedgerEven.j13001.finK y K = K (pyxlaw14_LedgerEven.j13001.fin y) := by
  unfold pyxlaw14_LedgerEven.j13001.finK pyxlaw14_LedgerEven.j13001.fin
  first | rfl | (split <;> rfl)
noncomputable def pyxlaw14_LedgerEven.j13001.re : Out U → Option ((Int × Int × Int × List Spyxhand_Act × Int × Int × Int × List Sapi_Entry × Speriod_Table)) | .norm s => ((row_Spyxhand_Act (s.get 29)).bind fun q0 => (match s.get 3, s.get 7, s.get 8, s.get 9, s.get 30, s.get 31, lk s.o 230000000000007 with | .ptr 230000000000007 0, .flat (.int .i64 x94), .flat (.int .i64 x95), .flat (.int .i64 x96), .flat (.int .i64 x98), .flat (.int .i64 x99), some (.lit (.flat (.int .i64 x67) :: u230000000000007_1 :: u230000000000007_t)) => (tip_Sapi_Entry s.o 3 u230000000000007_1).bind fun w230000000000007_1 => ((cd_Speriod_Table.full u230000000000007_t).bind fun w230000000000007_t => (some (x94, x95, x96, q0, x98, x99, x67, w230000000000007_1.2, w230000000000007_t))) | _, _, _, _, _, _, _ => none)) | _ => none
noncomputable def pyxlaw14_LedgerEven.j13001.J : JDen U := { Y := (Int × Int × Int × List Spyxhand_Act × Int × Int × Int × List Sapi_Entry × Speriod_Table), re := pyxlaw14_LedgerEven.j13001.re, fin := pyxlaw14_LedgerEven.j13001.fin, finK := pyxlaw14_LedgerEven.j13001.finK, finK_eq := pyxlaw14_LedgerEven.j13001.finK_eq }
theorem pyxlaw14_LedgerEven.j13001.fit (o : Out U) (y : (Int × Int × Int × List Spyxhand_Act × Int × Int × Int × List Sapi_Entry × Speriod_Table)) (h : pyxlaw14_LedgerEven.j13001.re o = some y) : FitsO o (pyxlaw14_LedgerEven.j13001.fin y) := by
  unfold pyxlaw14_LedgerEven.j13001.re at h
  split at h
  · obtain ⟨q0, eq0, h1⟩ := Option.bind_eq_some_iff.1 h
    split at h1
    · obtain ⟨w230000000000007_1, ew230000000000007_1, h2⟩ := Option.bind_eq_some_iff.1 h1
      obtain ⟨w230000000000007_t, ew230000000000007_t, h3⟩ := Option.bind_eq_some_iff.1 h2
      cases h3
      refine fitsO_norm (fits_ren [(23000103300100701, w230000000000007_1.1)] ?_ ?_ ren_one rfl)
      · exact List.forall_mem_cons.2 ⟨FV.one (FV.ptr (by assumption)), List.forall_mem_cons.2 ⟨FV.one (FV.same (by assumption) rfl), List.forall_mem_cons.2 ⟨FV.one (FV.same (by assumption) rfl), List.forall_mem_cons.2 ⟨FV.one (FV.same (by assumption) rfl), List.forall_mem_cons.2 ⟨FV.one (row_Spyxhand_Act_fit eq0), List.forall_mem_cons.2 ⟨FV.one (FV.same (by assumption) rfl), List.forall_mem_cons.2 ⟨FV.one (FV.same (by assumption) rfl), fun _ hp => (List.not_mem_nil hp).elim⟩⟩⟩⟩⟩⟩⟩
      · exact List.forall_mem_cons.2 ⟨(FO.cells (show lk (St.o _) 230000000000007 = some _ from by assumption) (FCs.cons (c0_same rfl rfl) (FCs.cons ((tip_Sapi_Entry_fit ew230000000000007_1 rfl).1) (FCs.tail (Cd.full_ok ew230000000000007_t) rfl)))), List.forall_mem_cons.2 ⟨(tip_Sapi_Entry_fit ew230000000000007_1 rfl).2, fun _ hp => (List.not_mem_nil hp).elim⟩⟩
    · cases h1
  · cases h
noncomputable def pyxlaw14_LedgerEven.j18000.fin (y : (List Spyxhand_Act × Int × Int × Bool × Int × List Sapi_Entry × Speriod_Table)) : Out U := match y with | (x132, x133, x134, x135, x105, x106, x131) => .norm ⟨[(3, .ptr 230000000000007 0), (29, .row C.Spyxhand_Act x132), (30, .flat (.int .i64 x133)), (31, .flat (.int .i64 x134)), (78, .flat (.bool x135))], [(230000000000007, .lit ((.flat (.int .i64 x105)) :: (.tip 23000103800000701 C.Sapi_Entry x106) :: cd_Speriod_Table.enc x131)), (23000103800000701, .tip 3)]⟩
noncomputable def pyxlaw14_LedgerEven.j18000.finK {ρ : Type} (y : (List Spyxhand_Act × Int × Int × Bool × Int × List Sapi_Entry × Speriod_Table)) (K : Out U → Option ρ) : Option ρ := match y with | (x132, x133, x134, x135, x105, x106, x131) => K (.norm ⟨[(3, .ptr 230000000000007 0), (29, .row C.Spyxhand_Act x132), (30, .flat (.int .i64 x133)), (31, .flat (.int .i64 x134)), (78, .flat (.bool x135))], [(230000000000007, .lit ((.flat (.int .i64 x105)) :: (.tip 23000103800000701 C.Sapi_Entry x106) :: cd_Speriod_Table.enc x131)), (23000103800000701, .tip 3)]⟩)
theorem pyxlaw14_LedgerEven.j18000.finK_eq {ρ : Type} (y : (List Spyxhand_Act × Int × Int × Bool × Int × List Sapi_Entry × Speriod_Table)) (K : Out U → Option ρ) : pyxlaw14_LedgerEven.j18000.finK y K = K (pyxlaw14_LedgerEven.j18000.fin y) := by
  unfold pyxlaw14_LedgerEven.j18000.finK pyxlaw14_LedgerEven.j18000.fin
  first | rfl | (split <;> rfl)
noncomputable def pyxlaw14_LedgerEven.j18000.re : Out U → Option ((List Spyxhand_Act × Int × Int × Bool × Int × List Sapi_Entry × Speriod_Table)) | .norm s => ((row_Spyxhand_Act (s.get 29)).bind fun q0 => (match s.get 3, s.get 30, s.get 31, s.get 78, lk s.o 230000000000007 with | .ptr 230000000000007 0, .flat (.int .i64 x133), .flat (.int .i64 x134), .flat (.bool x135), some (.lit (.flat (.int .i64 x105) :: u230000000000007_1 :: u230000000000007_t)) => (tip_Sapi_Entry s.o 3 u230000000000007_1).bind fun w230000000000007_1 => ((cd_Speriod_Table.full u230000000000007_t).bind fun w230000000000007_t => (some (q0, x133, x134, x135, x105, w230000000000007_1.2, w230000000000007_t))) | _, _, _, _, _ => none)) | _ => none
noncomputable def pyxlaw14_LedgerEven.j18000.J : JDen U := { Y := (List Spyxhand_Act × Int × Int × Bool × Int × List Sapi_Entry × Speriod_Table), re := pyxlaw14_LedgerEven.j18000.re, fin := pyxlaw14_LedgerEven.j18000.fin, finK := pyxlaw14_LedgerEven.j18000.finK, finK_eq := pyxlaw14_LedgerEven.j18000.finK_eq }
theorem pyxlaw14_LedgerEven.j18000.fit (o : Out U) (y : (List Spyxhand_Act × Int × Int × Bool × Int × List Sapi_Entry × Speriod_Table)) (h : pyxlaw14_LedgerEven.j18000.re o = some y) : FitsO o (pyxlaw14_LedgerEven.j18000.fin y) := by
  unfold pyxlaw14_LedgerEven.j18000.re at h
  split at h
  · obtain ⟨q0, eq0, h1⟩ := Option.bind_eq_some_iff.1 h
    split at h1
    · obtain ⟨w230000000000007_1, ew230000000000007_1, h2⟩ := Option.bind_eq_some_iff.1 h1
      obtain ⟨w230000000000007_t, ew230000000000007_t, h3⟩ := Option.bind_eq_some_iff.1 h2
      cases h3
      refine fitsO_norm (fits_ren [(23000103800000701, w230000000000007_1.1)] ?_ ?_ ren_one rfl)
      · exact List.forall_mem_cons.2 ⟨FV.one (FV.ptr (by assumption)), List.forall_mem_cons.2 ⟨FV.one (row_Spyxhand_Act_fit eq0), List.forall_mem_cons.2 ⟨FV.one (FV.same (by assumption) rfl), List.forall_mem_cons.2 ⟨FV.one (FV.same (by assumption) rfl), List.forall_mem_cons.2 ⟨FV.one (FV.same (by assumption) rfl), fun _ hp => (List.not_mem_nil hp).elim⟩⟩⟩⟩⟩
      · exact List.forall_mem_cons.2 ⟨(FO.cells (show lk (St.o _) 230000000000007 = some _ from by assumption) (FCs.cons (c0_same rfl rfl) (FCs.cons ((tip_Sapi_Entry_fit ew230000000000007_1 rfl).1) (FCs.tail (Cd.full_ok ew230000000000007_t) rfl)))), List.forall_mem_cons.2 ⟨(tip_Sapi_Entry_fit ew230000000000007_1 rfl).2, fun _ hp => (List.not_mem_nil hp).elim⟩⟩
    · cases h1
  · cases h
noncomputable def pyxlaw14_LedgerEven.j35000.fin (y : (List Sapi_Entry × List Sapi_Entry × Int × Int × Bool × List Bool × Int × List Sapi_Line × Int)) : Out U := match y with | (x205, x210, x211, x212, x213, x206, x207, x208, x209) => .norm ⟨[(13, .ptr 13 0), (10, .row C.Sapi_Entry x205), (11, .vs 1036000011), (85, .row C.Sapi_Entry x210), (86, .flat (.int .i64 x211)), (87, .flat (.int .i64 x212)), (146, .flat (.bool x213))], [(1036000011, .vec C.bool x206), (13, .lit [.flat (.int .i64 x207), .row C.Sapi_Line x208, .flat (.int .i64 x209)])]⟩
noncomputable def pyxlaw14_LedgerEven.j35000.finK {ρ : Type} (y : (List Sapi_Entry × List Sapi_Entry × Int × Int × Bool × List Bool × Int × List Sapi_Line × Int)) (K : Out U → Option ρ) : Option ρ := match y with | (x205, x210, x211, x212, x213, x206, x207, x208, x209) => K (.norm ⟨[(13, .ptr 13 0), (10, .row C.Sapi_Entry x205), (11, .vs 1036000011), (85, .row C.Sapi_Entry x210), (86, .flat (.int .i64 x211)), (87, .flat (.int .i64 x212)), (146, .flat (.bool x213))], [(1036000011, .vec C.bool x206), (13, .lit [.flat (.int .i64 x207), .row C.Sapi_Line x208, .flat (.int .i64 x209)])]⟩)
theorem pyxlaw14_LedgerEven.j35000.finK_eq {ρ : Type} (y : (List Sapi_Entry × List Sapi_Entry × Int × Int × Bool × List Bool × Int × List Sapi_Line × Int)) (K : Out U → Option ρ) : pyxlaw14_LedgerEven.j35000.finK y K = K (pyxlaw14_LedgerEven.j35000.fin y) := by
  unfold pyxlaw14_LedgerEven.j35000.finK pyxlaw14_LedgerEven.j35000.fin
  first | rfl | (split <;> rfl)
noncomputable def pyxlaw14_LedgerEven.j35000.re : Out U → Option ((List Sapi_Entry × List Sapi_Entry × Int × Int × Bool × List Bool × Int × List Sapi_Line × Int)) | .norm s => ((row_Sapi_Entry (s.get 10)).bind fun q0 => ((vec_bool s.o (s.get 11)).bind fun q1 => ((row_Sapi_Entry (s.get 85)).bind fun q2 => (match s.get 13, s.get 86, s.get 87, s.get 146, lk s.o 13 with | .ptr 13 0, .flat (.int .i64 x211), .flat (.int .i64 x212), .flat (.bool x213), some (.lit [.flat (.int .i64 x207), u13_1, .flat (.int .i64 x209)]) => (row_Sapi_Line u13_1).bind fun w13_1 => (some (q0, q2, x211, x212, x213, q1.2, x207, w13_1, x209)) | _, _, _, _, _ => none)))) | _ => none
noncomputable def pyxlaw14_LedgerEven.j35000.J : JDen U := { Y := (List Sapi_Entry × List Sapi_Entry × Int × Int × Bool × List Bool × Int × List Sapi_Line × Int), re := pyxlaw14_LedgerEven.j35000.re, fin := pyxlaw14_LedgerEven.j35000.fin, finK := pyxlaw14_LedgerEven.j35000.finK, finK_eq := pyxlaw14_LedgerEven.j35000.finK_eq }
theorem pyxlaw14_LedgerEven.j35000.fit (o : Out U) (y : (List Sapi_Entry × List Sapi_Entry × Int × Int × Bool × List Bool × Int × List Sapi_Line × Int)) (h : pyxlaw14_LedgerEven.j35000.re o = some y) : FitsO o (pyxlaw14_LedgerEven.j35000.fin y) := by
  unfold pyxlaw14_LedgerEven.j35000.re at h
  split at h
  · obtain ⟨q0, eq0, h1⟩ := Option.bind_eq_some_iff.1 h
    obtain ⟨q1, eq1, h2⟩ := Option.bind_eq_some_iff.1 h1
    obtain ⟨q2, eq2, h3⟩ := Option.bind_eq_some_iff.1 h2
    split at h3
    · obtain ⟨w13_1, ew13_1, h4⟩ := Option.bind_eq_some_iff.1 h3
      cases h4
      refine fitsO_norm (fits_ren [(1036000011, q1.1)] ?_ ?_ ren_one rfl)
      · exact List.forall_mem_cons.2 ⟨FV.one (FV.ptr (by assumption)), List.forall_mem_cons.2 ⟨FV.one (row_Sapi_Entry_fit eq0), List.forall_mem_cons.2 ⟨FV.one (vec_bool_fit eq1 rfl).1, List.forall_mem_cons.2 ⟨FV.one (row_Sapi_Entry_fit eq2), List.forall_mem_cons.2 ⟨FV.one (FV.same (by assumption) rfl), List.forall_mem_cons.2 ⟨FV.one (FV.same (by assumption) rfl), List.forall_mem_cons.2 ⟨FV.one (FV.same (by assumption) rfl), fun _ hp => (List.not_mem_nil hp).elim⟩⟩⟩⟩⟩⟩⟩
      · exact List.forall_mem_cons.2 ⟨(vec_bool_fit eq1 rfl).2, List.forall_mem_cons.2 ⟨(FO.cells (show lk (St.o _) 13 = some _ from by assumption) (FCs.cons (c0_same rfl rfl) (FCs.cons (row_Sapi_Line_fit ew13_1) (FCs.cons (c0_same rfl rfl) (FCs.nil))))), fun _ hp => (List.not_mem_nil hp).elim⟩⟩
    · cases h3
  · cases h
noncomputable def pyxlaw14_LedgerEven.j43000.fin (y : (List Sapi_Entry × List Sapi_Entry × Int × Int × List Sapi_Line × Int × Int × Bool × List Bool × Int × List Sapi_Line × Int)) : Out U := match y with | (x227, x232, x233, x234, x235, x236, x237, x238, x228, x229, x230, x231) => .norm ⟨[(13, .ptr 13 0), (10, .row C.Sapi_Entry x227), (11, .vs 1044000011), (85, .row C.Sapi_Entry x232), (86, .flat (.int .i64 x233)), (87, .flat (.int .i64 x234)), (152, .row C.Sapi_Line x235), (153, .flat (.int .i64 x236)), (154, .flat (.int .i64 x237)), (192, .flat (.bool x238))], [(1044000011, .vec C.bool x228), (13, .lit [.flat (.int .i64 x229), .row C.Sapi_Line x230, .flat (.int .i64 x231)])]⟩
noncomputable def pyxlaw14_LedgerEven.j43000.finK {ρ : Type} (y : (List Sapi_Entry × List Sapi_Entry × Int × Int × List Sapi_Line × Int × Int × Bool × List Bool × Int × List Sapi_Line × Int)) (K : Out U → Option ρ) : Option ρ := match y with | (x227, x232, x233, x234, x235, x236, x237, x238, x228, x229, x230, x231) => K (.norm ⟨[(13, .ptr 13 0), (10, .row C.Sapi_Entry x227), (11, .vs 1044000011), (85, .row C.Sapi_Entry x232), (86, .flat (.int .i64 x233)), (87, .flat (.int .i64 x234)), (152, .row C.Sapi_Line x235), (153, .flat (.int .i64 x236)), (154, .flat (.int .i64 x237)), (192, .flat (.bool x238))], [(1044000011, .vec C.bool x228), (13, .lit [.flat (.int .i64 x229), .row C.Sapi_Line x230, .flat (.int .i64 x231)])]⟩)
theorem pyxlaw14_LedgerEven.j43000.finK_eq {ρ : Type} (y : (List Sapi_Entry × List Sapi_Entry × Int × Int × List Sapi_Line × Int × Int × Bool × List Bool × Int × List Sapi_Line × Int)) (K : Out U → Option ρ) : pyxlaw14_LedgerEven.j43000.finK y K = K (pyxlaw14_LedgerEven.j43000.fin y) := by
  unfold pyxlaw14_LedgerEven.j43000.finK pyxlaw14_LedgerEven.j43000.fin
  first | rfl | (split <;> rfl)
noncomputable def pyxlaw14_LedgerEven.j43000.re : Out U → Option ((List Sapi_Entry × List Sapi_Entry × Int × Int × List Sapi_Line × Int × Int × Bool × List Bool × Int × List Sapi_Line × Int)) | .norm s => ((row_Sapi_Entry (s.get 10)).bind fun q0 => ((vec_bool s.o (s.get 11)).bind fun q1 => ((row_Sapi_Entry (s.get 85)).bind fun q2 => ((row_Sapi_Line (s.get 152)).bind fun q3 => (match s.get 13, s.get 86, s.get 87, s.get 153, s.get 154, s.get 192, lk s.o 13 with | .ptr 13 0, .flat (.int .i64 x233), .flat (.int .i64 x234), .flat (.int .i64 x236), .flat (.int .i64 x237), .flat (.bool x238), some (.lit [.flat (.int .i64 x229), u13_1, .flat (.int .i64 x231)]) => (row_Sapi_Line u13_1).bind fun w13_1 => (some (q0, q2, x233, x234, q3, x236, x237, x238, q1.2, x229, w13_1, x231)) | _, _, _, _, _, _, _ => none))))) | _ => none
noncomputable def pyxlaw14_LedgerEven.j43000.J : JDen U := { Y := (List Sapi_Entry × List Sapi_Entry × Int × Int × List Sapi_Line × Int × Int × Bool × List Bool × Int × List Sapi_Line × Int), re := pyxlaw14_LedgerEven.j43000.re, fin := pyxlaw14_LedgerEven.j43000.fin, finK := pyxlaw14_LedgerEven.j43000.finK, finK_eq := pyxlaw14_LedgerEven.j43000.finK_eq }
theorem pyxlaw14_LedgerEven.j43000.fit (o : Out U) (y : (List Sapi_Entry × List Sapi_Entry × Int × Int × List Sapi_Line × Int × Int × Bool × List Bool × Int × List Sapi_Line × Int)) (h : pyxlaw14_LedgerEven.j43000.re o = some y) : FitsO o (pyxlaw14_LedgerEven.j43000.fin y) := by
  unfold pyxlaw14_LedgerEven.j43000.re at h
  split at h
  · obtain ⟨q0, eq0, h1⟩ := Option.bind_eq_some_iff.1 h
    obtain ⟨q1, eq1, h2⟩ := Option.bind_eq_some_iff.1 h1
    obtain ⟨q2, eq2, h3⟩ := Option.bind_eq_some_iff.1 h2
    obtain ⟨q3, eq3, h4⟩ := Option.bind_eq_some_iff.1 h3
    split at h4
    · obtain ⟨w13_1, ew13_1, h5⟩ := Option.bind_eq_some_iff.1 h4
      cases h5
      refine fitsO_norm (fits_ren [(1044000011, q1.1)] ?_ ?_ ren_one rfl)
      · exact List.forall_mem_cons.2 ⟨FV.one (FV.ptr (by assumption)), List.forall_mem_cons.2 ⟨FV.one (row_Sapi_Entry_fit eq0), List.forall_mem_cons.2 ⟨FV.one (vec_bool_fit eq1 rfl).1, List.forall_mem_cons.2 ⟨FV.one (row_Sapi_Entry_fit eq2), List.forall_mem_cons.2 ⟨FV.one (FV.same (by assumption) rfl), List.forall_mem_cons.2 ⟨FV.one (FV.same (by assumption) rfl), List.forall_mem_cons.2 ⟨FV.one (row_Sapi_Line_fit eq3), List.forall_mem_cons.2 ⟨FV.one (FV.same (by assumption) rfl), List.forall_mem_cons.2 ⟨FV.one (FV.same (by assumption) rfl), List.forall_mem_cons.2 ⟨FV.one (FV.same (by assumption) rfl), fun _ hp => (List.not_mem_nil hp).elim⟩⟩⟩⟩⟩⟩⟩⟩⟩⟩
      · exact List.forall_mem_cons.2 ⟨(vec_bool_fit eq1 rfl).2, List.forall_mem_cons.2 ⟨(FO.cells (show lk (St.o _) 13 = some _ from by assumption) (FCs.cons (c0_same rfl rfl) (FCs.cons (row_Sapi_Line_fit ew13_1) (FCs.cons (c0_same rfl rfl) (FCs.nil))))), fun _ hp => (List.not_mem_nil hp).elim⟩⟩
    · cases h4
  · cases h
noncomputable def pyxlaw14_LedgerEven.jl : List (Nat × JDen U) := [(2000, pyxlaw14_LedgerEven.j2000.J), (13001, pyxlaw14_LedgerEven.j13001.J), (18000, pyxlaw14_LedgerEven.j18000.J), (35000, pyxlaw14_LedgerEven.j35000.J), (43000, pyxlaw14_LedgerEven.j43000.J)]
noncomputable def pyxlaw14_LedgerEven.fl (k : Nat) : List (Nat × FDen U) := [(27, ledger_New.D k), (28, pyxlaw14_known.D k), (25, pyxhand_Pick.D k), (31, ledger_Book_Entries.D k), (33, ledger_Book_Close.D k), (34, ledger_Book_Reverse.D k), (29, pyxhand_Lines.D k), (30, ledger_Book_Post.D k), (35, pyxref11_Zero.D k), (36, dec_Add.D k), (37, dec_Sign.D k)]
noncomputable def pyxlaw14_LedgerEven.ll (k : Nat) : List (Nat × LDen U) := [(5, pyxlaw14_LedgerEven.l5.L k), (28, pyxlaw14_LedgerEven.l28.L k), (39, pyxlaw14_LedgerEven.l39.L k), (24, pyxlaw14_LedgerEven.l24.L k)]
noncomputable def pyxlaw14_LedgerEven.E (k : Nat) : Env U := { P := Try.prog, D := DD, fd := lk (pyxlaw14_LedgerEven.fl k), ld := lk (pyxlaw14_LedgerEven.ll k), jd := lk pyxlaw14_LedgerEven.jl, mode := lk [], elc := lk ec, mpc := lk mc, rts := Try.f6.resultTypes.toList, dyn := fun t => false, vecs := fun d => Nat.beq d 84, results := Try.f6.results.toList, gh := [], own := false, io := fun g i => false }
theorem pyxlaw14_LedgerEven.ok (k : Nat) : EnvOk (pyxlaw14_LedgerEven.E k) := envOk lawful (pyxlaw14_LedgerEven.fl k) (pyxlaw14_LedgerEven.ll k) pyxlaw14_LedgerEven.jl _ _ _ _ _ _ _ _ _ _ (by
  intro p hp
  simp only [pyxlaw14_LedgerEven.fl, List.mem_cons, List.not_mem_nil, or_false] at hp
  rcases hp with rfl | rfl | rfl | rfl | rfl | rfl | rfl | rfl | rfl | rfl | rfl
  · exact ⟨ledger_New.sound k, enter_of Try.func27 (by kernel_rfl) (by kernel_rfl)⟩
  · exact ⟨pyxlaw14_known.sound k, enter_of Try.func28 (by kernel_rfl) (by kernel_rfl)⟩
  · exact ⟨pyxhand_Pick.sound k, enter_of Try.func25 (by kernel_rfl) (by kernel_rfl)⟩
  · exact ⟨ledger_Book_Entries.sound k, enter_of Try.func31 (by kernel_rfl) (by kernel_rfl)⟩
  · exact ⟨ledger_Book_Close.sound k, enter_of Try.func33 (by kernel_rfl) (by kernel_rfl)⟩
  · exact ⟨ledger_Book_Reverse.sound k, enter_of Try.func34 (by kernel_rfl) (by kernel_rfl)⟩
  · exact ⟨pyxhand_Lines.sound k, enter_of Try.func29 (by kernel_rfl) (by kernel_rfl)⟩
  · exact ⟨ledger_Book_Post.sound k, enter_of Try.func30 (by kernel_rfl) (by kernel_rfl)⟩
  · exact ⟨pyxref11_Zero.sound k, enter_of Try.func35 (by kernel_rfl) (by kernel_rfl)⟩
  · exact ⟨dec_Add.sound k, enter_of Try.func36 (by kernel_rfl) (by kernel_rfl)⟩
  · exact ⟨dec_Sign.sound k, enter_of Try.func37 (by kernel_rfl) (by kernel_rfl)⟩) (by
  intro p hp
  simp only [pyxlaw14_LedgerEven.jl, List.mem_cons, List.not_mem_nil, or_false] at hp
  rcases hp with rfl | rfl | rfl | rfl | rfl
  · exact pyxlaw14_LedgerEven.j2000.fit
  · exact pyxlaw14_LedgerEven.j13001.fit
  · exact pyxlaw14_LedgerEven.j18000.fit
  · exact pyxlaw14_LedgerEven.j35000.fit
  · exact pyxlaw14_LedgerEven.j43000.fit)
theorem pyxlaw14_LedgerEven.l5.eq (k : Nat) (x : (List Spyxhand_Act × Int × Int × Int × List Sapi_Entry × Speriod_Table)) : evC (pyxlaw14_LedgerEven.E k) (loopAt Try.f6 5) (pyxlaw14_LedgerEven.l5.mk x) (headK pyxlaw14_LedgerEven.l5.un pyxlaw14_LedgerEven.l5.re) = pyxlaw14_LedgerEven.l5.once k x := by kernel_rfl
theorem pyxlaw14_LedgerEven.l5.fit (s : St U) (x : (List Spyxhand_Act × Int × Int × Int × List Sapi_Entry × Speriod_Table)) (h : pyxlaw14_LedgerEven.l5.un s = some x) : Fits s (pyxlaw14_LedgerEven.l5.mk x) := by
  unfold pyxlaw14_LedgerEven.l5.un at h
  obtain ⟨q0, eq0, h1⟩ := Option.bind_eq_some_iff.1 h
  split at h1
  · obtain ⟨w230000000000007_1, ew230000000000007_1, h2⟩ := Option.bind_eq_some_iff.1 h1
    obtain ⟨w230000000000007_t, ew230000000000007_t, h3⟩ := Option.bind_eq_some_iff.1 h2
    cases h3
    refine fits_ren [(23000002000500701, w230000000000007_1.1)] ?_ ?_ ren_one rfl
    · exact List.forall_mem_cons.2 ⟨FV.one (FV.ptr (by assumption)), List.forall_mem_cons.2 ⟨FV.one (row_Spyxhand_Act_fit eq0), List.forall_mem_cons.2 ⟨FV.one (FV.same (by assumption) rfl), List.forall_mem_cons.2 ⟨FV.one (FV.same (by assumption) rfl), fun _ hp => (List.not_mem_nil hp).elim⟩⟩⟩⟩
    · exact List.forall_mem_cons.2 ⟨(FO.cells (show lk (St.o _) 230000000000007 = some _ from by assumption) (FCs.cons (c0_same rfl rfl) (FCs.cons ((tip_Sapi_Entry_fit ew230000000000007_1 rfl).1) (FCs.tail (Cd.full_ok ew230000000000007_t) rfl)))), List.forall_mem_cons.2 ⟨(tip_Sapi_Entry_fit ew230000000000007_1 rfl).2, fun _ hp => (List.not_mem_nil hp).elim⟩⟩
  · cases h1
theorem pyxlaw14_LedgerEven.l5.fitO (o : Out U) (y : (Int × List Sapi_Entry × Speriod_Table) ⊕ Bool) (h : pyxlaw14_LedgerEven.l5.re o = some y) : FitsO o (pyxlaw14_LedgerEven.l5.fin y) := by
  unfold pyxlaw14_LedgerEven.l5.re at h
  split at h
  · split at h
    · obtain ⟨w230000000000007_1, ew230000000000007_1, h1⟩ := Option.bind_eq_some_iff.1 h
      obtain ⟨w230000000000007_t, ew230000000000007_t, h2⟩ := Option.bind_eq_some_iff.1 h1
      cases h2
      refine fitsO_exit (fits_ren [(23000002000500701, w230000000000007_1.1)] ?_ ?_ ren_one rfl)
      · exact List.forall_mem_cons.2 ⟨FV.one (FV.ptr (by assumption)), fun _ hp => (List.not_mem_nil hp).elim⟩
      · exact List.forall_mem_cons.2 ⟨(FO.cells (show lk (St.o _) 230000000000007 = some _ from by assumption) (FCs.cons (c0_same rfl rfl) (FCs.cons ((tip_Sapi_Entry_fit ew230000000000007_1 rfl).1) (FCs.tail (Cd.full_ok ew230000000000007_t) rfl)))), List.forall_mem_cons.2 ⟨(tip_Sapi_Entry_fit ew230000000000007_1 rfl).2, fun _ hp => (List.not_mem_nil hp).elim⟩⟩
    · cases h
  · split at h
    · cases h
      refine fitsO_ret (fits_ren [] ?_ ?_ ren_nil rfl)
      · exact List.forall_mem_cons.2 ⟨FV.one (FV.same (by assumption) rfl), fun _ hp => (List.not_mem_nil hp).elim⟩
      · exact fun _ hp => (List.not_mem_nil hp).elim
    · cases h
  · cases h
theorem pyxlaw14_LedgerEven.l5.sound (k : Nat) : LSound (pyxlaw14_LedgerEven.E k) Try.f6.ntmps Try.f6 (loopAt Try.f6 5) (pyxlaw14_LedgerEven.l5.L k) :=
  loop_sound (pyxlaw14_LedgerEven.ok k) mixed rfl (by kernel_rfl) (allL_of (l := []) (by kernel_rfl) allL_nil) pyxlaw14_LedgerEven.l5.un pyxlaw14_LedgerEven.l5.mk pyxlaw14_LedgerEven.l5.fin pyxlaw14_LedgerEven.l5.re (pyxlaw14_LedgerEven.l5.once k) k pyxlaw14_LedgerEven.l5.fit pyxlaw14_LedgerEven.l5.fitO (pyxlaw14_LedgerEven.l5.eq k) pyxlaw14_LedgerEven.l5.finK pyxlaw14_LedgerEven.l5.finK_eq
theorem pyxlaw14_LedgerEven.l28.eq (k : Nat) (x : (List Sapi_Entry × Int × List Sapi_Entry × Int × Int × List Sapi_Line × Int × Int × List Bool × Int × List Sapi_Line × Int × Bool × Int × Int × Int)) : evC (pyxlaw14_LedgerEven.E k) (loopAt Try.f6 28) (pyxlaw14_LedgerEven.l28.mk x) (headK pyxlaw14_LedgerEven.l28.un pyxlaw14_LedgerEven.l28.re) = pyxlaw14_LedgerEven.l28.once k x := by kernel_rfl
theorem pyxlaw14_LedgerEven.l28.fit (s : St U) (x : (List Sapi_Entry × Int × List Sapi_Entry × Int × Int × List Sapi_Line × Int × Int × List Bool × Int × List Sapi_Line × Int × Bool × Int × Int × Int)) (h : pyxlaw14_LedgerEven.l28.un s = some x) : Fits s (pyxlaw14_LedgerEven.l28.mk x) := by
  unfold pyxlaw14_LedgerEven.l28.un at h
  obtain ⟨q0, eq0, h1⟩ := Option.bind_eq_some_iff.1 h
  obtain ⟨q1, eq1, h2⟩ := Option.bind_eq_some_iff.1 h1
  obtain ⟨q2, eq2, h3⟩ := Option.bind_eq_some_iff.1 h2
  obtain ⟨q3, eq3, h4⟩ := Option.bind_eq_some_iff.1 h3
  split at h4
  · obtain ⟨w13_1, ew13_1, h5⟩ := Option.bind_eq_some_iff.1 h4
    cases h5
    refine fits_ren [(1028011, q1.1)] ?_ ?_ ren_one rfl
    · exact List.forall_mem_cons.2 ⟨FV.one (FV.ptr (by assumption)), List.forall_mem_cons.2 ⟨FV.one (FV.ptr (by assumption)), List.forall_mem_cons.2 ⟨FV.one (row_Sapi_Entry_fit eq0), List.forall_mem_cons.2 ⟨FV.one (vec_bool_fit eq1 rfl).1, List.forall_mem_cons.2 ⟨FV.one (FV.same (by assumption) rfl), List.forall_mem_cons.2 ⟨FV.one (row_Sapi_Entry_fit eq2), List.forall_mem_cons.2 ⟨FV.one (FV.same (by assumption) rfl), List.forall_mem_cons.2 ⟨FV.one (FV.same (by assumption) rfl), List.forall_mem_cons.2 ⟨FV.one (row_Sapi_Line_fit eq3), List.forall_mem_cons.2 ⟨FV.one (FV.same (by assumption) rfl), List.forall_mem_cons.2 ⟨FV.one (FV.same (by assumption) rfl), fun _ hp => (List.not_mem_nil hp).elim⟩⟩⟩⟩⟩⟩⟩⟩⟩⟩⟩
    · exact List.forall_mem_cons.2 ⟨(vec_bool_fit eq1 rfl).2, List.forall_mem_cons.2 ⟨(FO.cells (show lk (St.o _) 13 = some _ from by assumption) (FCs.cons (c0_same rfl rfl) (FCs.cons (row_Sapi_Line_fit ew13_1) (FCs.cons (c0_same rfl rfl) (FCs.nil))))), List.forall_mem_cons.2 ⟨(FO.same (show lk (St.o _) 14 = some _ from by assumption) rfl), fun _ hp => (List.not_mem_nil hp).elim⟩⟩⟩
  · cases h4
theorem pyxlaw14_LedgerEven.l28.fitO (o : Out U) (y : (List Sapi_Entry × Int × List Sapi_Entry × Int × Int × List Bool × Int × List Sapi_Line × Int × Bool × Int × Int × Int)) (h : pyxlaw14_LedgerEven.l28.re o = some y) : FitsO o (pyxlaw14_LedgerEven.l28.fin y) := by
  unfold pyxlaw14_LedgerEven.l28.re at h
  split at h
  · obtain ⟨q0, eq0, h1⟩ := Option.bind_eq_some_iff.1 h
    obtain ⟨q1, eq1, h2⟩ := Option.bind_eq_some_iff.1 h1
    obtain ⟨q2, eq2, h3⟩ := Option.bind_eq_some_iff.1 h2
    split at h3
    · obtain ⟨w13_1, ew13_1, h4⟩ := Option.bind_eq_some_iff.1 h3
      cases h4
      refine fitsO_exit (fits_ren [(1028011, q1.1)] ?_ ?_ ren_one rfl)
      · exact List.forall_mem_cons.2 ⟨FV.one (FV.ptr (by assumption)), List.forall_mem_cons.2 ⟨FV.one (FV.ptr (by assumption)), List.forall_mem_cons.2 ⟨FV.one (row_Sapi_Entry_fit eq0), List.forall_mem_cons.2 ⟨FV.one (vec_bool_fit eq1 rfl).1, List.forall_mem_cons.2 ⟨FV.one (FV.same (by assumption) rfl), List.forall_mem_cons.2 ⟨FV.one (row_Sapi_Entry_fit eq2), List.forall_mem_cons.2 ⟨FV.one (FV.same (by assumption) rfl), List.forall_mem_cons.2 ⟨FV.one (FV.same (by assumption) rfl), fun _ hp => (List.not_mem_nil hp).elim⟩⟩⟩⟩⟩⟩⟩⟩
      · exact List.forall_mem_cons.2 ⟨(vec_bool_fit eq1 rfl).2, List.forall_mem_cons.2 ⟨(FO.cells (show lk (St.o _) 13 = some _ from by assumption) (FCs.cons (c0_same rfl rfl) (FCs.cons (row_Sapi_Line_fit ew13_1) (FCs.cons (c0_same rfl rfl) (FCs.nil))))), List.forall_mem_cons.2 ⟨(FO.same (show lk (St.o _) 14 = some _ from by assumption) rfl), fun _ hp => (List.not_mem_nil hp).elim⟩⟩⟩
    · cases h3
  · cases h
theorem pyxlaw14_LedgerEven.l28.sound (k : Nat) : LSound (pyxlaw14_LedgerEven.E k) Try.f6.ntmps Try.f6 (loopAt Try.f6 28) (pyxlaw14_LedgerEven.l28.L k) :=
  loop_sound (pyxlaw14_LedgerEven.ok k) mixed rfl (by kernel_rfl) (allL_of (l := []) (by kernel_rfl) allL_nil) pyxlaw14_LedgerEven.l28.un pyxlaw14_LedgerEven.l28.mk pyxlaw14_LedgerEven.l28.fin pyxlaw14_LedgerEven.l28.re (pyxlaw14_LedgerEven.l28.once k) k pyxlaw14_LedgerEven.l28.fit pyxlaw14_LedgerEven.l28.fitO (pyxlaw14_LedgerEven.l28.eq k) pyxlaw14_LedgerEven.l28.finK pyxlaw14_LedgerEven.l28.finK_eq
theorem pyxlaw14_LedgerEven.l39.eq (k : Nat) (x : (List Sapi_Entry × List Sapi_Entry × Int × Int × List Sapi_Line × Int × Int × List Bool × Int × List Sapi_Line × Int)) : evC (pyxlaw14_LedgerEven.E k) (loopAt Try.f6 39) (pyxlaw14_LedgerEven.l39.mk x) (headK pyxlaw14_LedgerEven.l39.un pyxlaw14_LedgerEven.l39.re) = pyxlaw14_LedgerEven.l39.once k x := by kernel_rfl
theorem pyxlaw14_LedgerEven.l39.fit (s : St U) (x : (List Sapi_Entry × List Sapi_Entry × Int × Int × List Sapi_Line × Int × Int × List Bool × Int × List Sapi_Line × Int)) (h : pyxlaw14_LedgerEven.l39.un s = some x) : Fits s (pyxlaw14_LedgerEven.l39.mk x) := by
  unfold pyxlaw14_LedgerEven.l39.un at h
  obtain ⟨q0, eq0, h1⟩ := Option.bind_eq_some_iff.1 h
  obtain ⟨q1, eq1, h2⟩ := Option.bind_eq_some_iff.1 h1
  obtain ⟨q2, eq2, h3⟩ := Option.bind_eq_some_iff.1 h2
  obtain ⟨q3, eq3, h4⟩ := Option.bind_eq_some_iff.1 h3
  split at h4
  · obtain ⟨w13_1, ew13_1, h5⟩ := Option.bind_eq_some_iff.1 h4
    cases h5
    refine fits_ren [(1039011, q1.1)] ?_ ?_ ren_one rfl
    · exact List.forall_mem_cons.2 ⟨FV.one (FV.ptr (by assumption)), List.forall_mem_cons.2 ⟨FV.one (row_Sapi_Entry_fit eq0), List.forall_mem_cons.2 ⟨FV.one (vec_bool_fit eq1 rfl).1, List.forall_mem_cons.2 ⟨FV.one (row_Sapi_Entry_fit eq2), List.forall_mem_cons.2 ⟨FV.one (FV.same (by assumption) rfl), List.forall_mem_cons.2 ⟨FV.one (FV.same (by assumption) rfl), List.forall_mem_cons.2 ⟨FV.one (row_Sapi_Line_fit eq3), List.forall_mem_cons.2 ⟨FV.one (FV.same (by assumption) rfl), List.forall_mem_cons.2 ⟨FV.one (FV.same (by assumption) rfl), fun _ hp => (List.not_mem_nil hp).elim⟩⟩⟩⟩⟩⟩⟩⟩⟩
    · exact List.forall_mem_cons.2 ⟨(vec_bool_fit eq1 rfl).2, List.forall_mem_cons.2 ⟨(FO.cells (show lk (St.o _) 13 = some _ from by assumption) (FCs.cons (c0_same rfl rfl) (FCs.cons (row_Sapi_Line_fit ew13_1) (FCs.cons (c0_same rfl rfl) (FCs.nil))))), fun _ hp => (List.not_mem_nil hp).elim⟩⟩
  · cases h4
theorem pyxlaw14_LedgerEven.l39.fitO (o : Out U) (y : (List Sapi_Entry × List Sapi_Entry × Int × Int × List Bool) ⊕ Bool) (h : pyxlaw14_LedgerEven.l39.re o = some y) : FitsO o (pyxlaw14_LedgerEven.l39.fin y) := by
  unfold pyxlaw14_LedgerEven.l39.re at h
  split at h
  · obtain ⟨q0, eq0, h1⟩ := Option.bind_eq_some_iff.1 h
    obtain ⟨q1, eq1, h2⟩ := Option.bind_eq_some_iff.1 h1
    obtain ⟨q2, eq2, h3⟩ := Option.bind_eq_some_iff.1 h2
    split at h3
    · cases h3
      refine fitsO_exit (fits_ren [(1039011, q1.1)] ?_ ?_ ren_one rfl)
      · exact List.forall_mem_cons.2 ⟨FV.one (row_Sapi_Entry_fit eq0), List.forall_mem_cons.2 ⟨FV.one (vec_bool_fit eq1 rfl).1, List.forall_mem_cons.2 ⟨FV.one (row_Sapi_Entry_fit eq2), List.forall_mem_cons.2 ⟨FV.one (FV.same (by assumption) rfl), List.forall_mem_cons.2 ⟨FV.one (FV.same (by assumption) rfl), fun _ hp => (List.not_mem_nil hp).elim⟩⟩⟩⟩⟩
      · exact List.forall_mem_cons.2 ⟨(vec_bool_fit eq1 rfl).2, fun _ hp => (List.not_mem_nil hp).elim⟩
    · cases h3
  · split at h
    · cases h
      refine fitsO_ret (fits_ren [] ?_ ?_ ren_nil rfl)
      · exact List.forall_mem_cons.2 ⟨FV.one (FV.same (by assumption) rfl), fun _ hp => (List.not_mem_nil hp).elim⟩
      · exact fun _ hp => (List.not_mem_nil hp).elim
    · cases h
  · cases h
theorem pyxlaw14_LedgerEven.l39.sound (k : Nat) : LSound (pyxlaw14_LedgerEven.E k) Try.f6.ntmps Try.f6 (loopAt Try.f6 39) (pyxlaw14_LedgerEven.l39.L k) :=
  loop_sound (pyxlaw14_LedgerEven.ok k) mixed rfl (by kernel_rfl) (allL_of (l := []) (by kernel_rfl) allL_nil) pyxlaw14_LedgerEven.l39.un pyxlaw14_LedgerEven.l39.mk pyxlaw14_LedgerEven.l39.fin pyxlaw14_LedgerEven.l39.re (pyxlaw14_LedgerEven.l39.once k) k pyxlaw14_LedgerEven.l39.fit pyxlaw14_LedgerEven.l39.fitO (pyxlaw14_LedgerEven.l39.eq k) pyxlaw14_LedgerEven.l39.finK pyxlaw14_LedgerEven.l39.finK_eq
theorem pyxlaw14_LedgerEven.l24.eq (k : Nat) (x : (List Sapi_Entry × List Sapi_Entry × Int × Int × List Bool)) : evC (pyxlaw14_LedgerEven.E k) (loopAt Try.f6 24) (pyxlaw14_LedgerEven.l24.mk x) (headK pyxlaw14_LedgerEven.l24.un pyxlaw14_LedgerEven.l24.re) = pyxlaw14_LedgerEven.l24.once k x := by kernel_rfl
theorem pyxlaw14_LedgerEven.l24.fit (s : St U) (x : (List Sapi_Entry × List Sapi_Entry × Int × Int × List Bool)) (h : pyxlaw14_LedgerEven.l24.un s = some x) : Fits s (pyxlaw14_LedgerEven.l24.mk x) := by
  unfold pyxlaw14_LedgerEven.l24.un at h
  obtain ⟨q0, eq0, h1⟩ := Option.bind_eq_some_iff.1 h
  obtain ⟨q1, eq1, h2⟩ := Option.bind_eq_some_iff.1 h1
  obtain ⟨q2, eq2, h3⟩ := Option.bind_eq_some_iff.1 h2
  split at h3
  · cases h3
    refine fits_ren [(1024011, q1.1)] ?_ ?_ ren_one rfl
    · exact List.forall_mem_cons.2 ⟨FV.one (row_Sapi_Entry_fit eq0), List.forall_mem_cons.2 ⟨FV.one (vec_bool_fit eq1 rfl).1, List.forall_mem_cons.2 ⟨FV.one (row_Sapi_Entry_fit eq2), List.forall_mem_cons.2 ⟨FV.one (FV.same (by assumption) rfl), List.forall_mem_cons.2 ⟨FV.one (FV.same (by assumption) rfl), fun _ hp => (List.not_mem_nil hp).elim⟩⟩⟩⟩⟩
    · exact List.forall_mem_cons.2 ⟨(vec_bool_fit eq1 rfl).2, fun _ hp => (List.not_mem_nil hp).elim⟩
  · cases h3
theorem pyxlaw14_LedgerEven.l24.fitO (o : Out U) (y : Unit ⊕ Bool) (h : pyxlaw14_LedgerEven.l24.re o = some y) : FitsO o (pyxlaw14_LedgerEven.l24.fin y) := by
  unfold pyxlaw14_LedgerEven.l24.re at h
  split at h
  · cases h
    refine fitsO_exit (fits_ren [] ?_ ?_ ren_nil rfl)
    · exact fun _ hp => (List.not_mem_nil hp).elim
    · exact fun _ hp => (List.not_mem_nil hp).elim
  · split at h
    · cases h
      refine fitsO_ret (fits_ren [] ?_ ?_ ren_nil rfl)
      · exact List.forall_mem_cons.2 ⟨FV.one (FV.same (by assumption) rfl), fun _ hp => (List.not_mem_nil hp).elim⟩
      · exact fun _ hp => (List.not_mem_nil hp).elim
    · cases h
  · cases h
theorem pyxlaw14_LedgerEven.l24.sound (k : Nat) : LSound (pyxlaw14_LedgerEven.E k) Try.f6.ntmps Try.f6 (loopAt Try.f6 24) (pyxlaw14_LedgerEven.l24.L k) :=
  loop_sound (pyxlaw14_LedgerEven.ok k) mixed rfl (by kernel_rfl) (allL_of (l := [loopAt Try.f6 28, loopAt Try.f6 39]) (by kernel_rfl) (allL_cons (key := 28) (by kernel_rfl) rfl (pyxlaw14_LedgerEven.l28.sound k) (allL_cons (key := 39) (by kernel_rfl) rfl (pyxlaw14_LedgerEven.l39.sound k) allL_nil))) pyxlaw14_LedgerEven.l24.un pyxlaw14_LedgerEven.l24.mk pyxlaw14_LedgerEven.l24.fin pyxlaw14_LedgerEven.l24.re (pyxlaw14_LedgerEven.l24.once k) k pyxlaw14_LedgerEven.l24.fit pyxlaw14_LedgerEven.l24.fitO (pyxlaw14_LedgerEven.l24.eq k) pyxlaw14_LedgerEven.l24.finK pyxlaw14_LedgerEven.l24.finK_eq
theorem pyxlaw14_LedgerEven.eq (k : Nat) (x : List Spyxhand_Act) : runF (pyxlaw14_LedgerEven.E k) (codeOf Try.f6) (pyxlaw14_LedgerEven.mk x) pyxlaw14_LedgerEven.re = (pyxlaw14_LedgerEven.D k).f x := by kernel_rfl
theorem pyxlaw14_LedgerEven.fit (s : St U) (x : List Spyxhand_Act) (h : pyxlaw14_LedgerEven.un s = some x) : Fits s (pyxlaw14_LedgerEven.mk x) := by
  unfold pyxlaw14_LedgerEven.un at h
  split at h
  · cases h
    refine fits_ren [] ?_ ?_ ren_nil rfl
    · exact List.forall_mem_cons.2 ⟨FV.one (FV.same (by assumption) rfl), fun _ hp => (List.not_mem_nil hp).elim⟩
    · exact fun _ hp => (List.not_mem_nil hp).elim
  · cases h
theorem pyxlaw14_LedgerEven.fitR (s : St U) (y : Bool) (h : pyxlaw14_LedgerEven.re s = some y) : Fits s (pyxlaw14_LedgerEven.fin y) := by
  unfold pyxlaw14_LedgerEven.re at h
  split at h
  · cases h
    refine fits_ren [] ?_ ?_ ren_nil rfl
    · exact List.forall_mem_cons.2 ⟨FV.one (FV.same (by assumption) rfl), fun _ hp => (List.not_mem_nil hp).elim⟩
    · exact fun _ hp => (List.not_mem_nil hp).elim
  · cases h
theorem pyxlaw14_LedgerEven.sound (k : Nat) : Sound Try.prog DD 6 (pyxlaw14_LedgerEven.D k) :=
  fun_sound (E := pyxlaw14_LedgerEven.E k) (fn := Try.f6) (c := codeOf Try.f6) (pyxlaw14_LedgerEven.ok k) mixed rfl Try.func6 (by kernel_rfl) (by kernel_rfl) (allL_of (l := [loopAt Try.f6 5, loopAt Try.f6 24]) (by kernel_rfl) (allL_cons (key := 5) (by kernel_rfl) rfl (pyxlaw14_LedgerEven.l5.sound k) (allL_cons (key := 24) (by kernel_rfl) rfl (pyxlaw14_LedgerEven.l24.sound k) allL_nil))) (pyxlaw14_LedgerEven.D k) pyxlaw14_LedgerEven.mk pyxlaw14_LedgerEven.re (by kernel_rfl) (by kernel_rfl) pyxlaw14_LedgerEven.fit pyxlaw14_LedgerEven.fitR (pyxlaw14_LedgerEven.eq k)
end
end Go.Proofs.Ytlaogfkgkpgofaa
