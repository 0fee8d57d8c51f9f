import Derived.Test.YtlaogfkgkpgofaaF3
/-! Functions, told; their equations with the evaluator; that they are sound. Written by gen.py. -/
namespace Go.Proofs.Ytlaogfkgkpgofaa
open Go Go.Ev
noncomputable section
set_option linter.unusedVariables false
set_option linter.unusedSimpArgs false
set_option maxRecDepth 100000
/-! ### pyx/period.is: function 130 -/
noncomputable def period_is.f (k : Nat) (a0 : Int) : Option Bool := cond (decide (a0 ≥ 0)) (some (decide (a0 < 12))) (some false)
noncomputable def period_is.i : Lay U Int := (pcOne 0 (tAt (vInt .i64))).lay (fun _ => by kernel_rfl)
noncomputable def period_is.r : Lay U Bool := (pcOne 0 (tAt vBool)).lay (fun _ => by kernel_rfl)
noncomputable def period_is.D (k : Nat) : FDen U := fdn period_is.i period_is.r Try.f130.ntmps [] true (fun x => period_is.f k (x)) (fun _ _ => rfl)
noncomputable def period_is.E (k : Nat) : Env U := mkE Try.f130 [] [] [] [] n0 n0 [] false n00
theorem period_is.eq (k : Nat) (x : Int) : runF (period_is.E k) (codeOf Try.f130) (period_is.i.put x) period_is.r.un = period_is.f k (x) := by kernel_rfl
theorem period_is.sound (k : Nat) : Sound Try.prog DD 130 (period_is.D k) :=
  funP (E := period_is.E k) (fn := Try.f130) (c := codeOf Try.f130) (mkE_ok _ _ _ _ _ _ _ _ _ _) mixed rfl Try.func130 (by kernel_rfl) (by kernel_rfl) (allL_of (l := []) (by kernel_rfl) allL_nil) period_is.i period_is.r [] true (fun x => period_is.f k (x)) (fun _ _ => rfl) (by kernel_rfl) (period_is.eq k)
noncomputable def period_is.pk (k : Nat) : Pk Try.prog DD := ⟨130, period_is.D k, period_is.sound k, enter_of Try.func130 (by kernel_rfl) (by kernel_rfl)⟩
/-! ### pyx/period.IsOpen: function 121 -/
noncomputable def period_IsOpen.f (k : Nat) (a0 : Speriod_Table) (a1 : Int) : Option Bool := (period_is.f k a1).bind fun t1 => (cond (t1) (cond (inb a1 12) (cond (Nat.blt (Int.toNat a1) 12) (some (!(List.getD (pack 12 false a0.f_Closed) (Int.toNat a1) false))) none) none) (some false))
noncomputable def period_IsOpen.i : Lay U (Speriod_Table × Int) := (pcAnd (pcOne 0 (tAt (vCd cd_Speriod_Table))) (pcOne 1 (tAt (vInt .i64)))).lay (fun _ => by kernel_rfl)
noncomputable def period_IsOpen.r : Lay U Bool := (pcOne 0 (tAt vBool)).lay (fun _ => by kernel_rfl)
noncomputable def period_IsOpen.D (k : Nat) : FDen U := fdn period_IsOpen.i period_IsOpen.r Try.f121.ntmps [] true (fun x => period_IsOpen.f k (x.1) (x.2)) (fun _ _ => rfl)
noncomputable def period_IsOpen.E (k : Nat) : Env U := mkE Try.f121 [period_is.pk k] [] [] [] (fun t => Nat.beq t 90) n0 [] false n00
theorem period_IsOpen.eq (k : Nat) (x : (Speriod_Table × Int)) : runF (period_IsOpen.E k) (codeOf Try.f121) (period_IsOpen.i.put x) period_IsOpen.r.un = period_IsOpen.f k (x.1) (x.2) := by kernel_rfl
theorem period_IsOpen.sound (k : Nat) : Sound Try.prog DD 121 (period_IsOpen.D k) :=
  funP (E := period_IsOpen.E k) (fn := Try.f121) (c := codeOf Try.f121) (mkE_ok _ _ _ _ _ _ _ _ _ _) mixed rfl Try.func121 (by kernel_rfl) (by kernel_rfl) (allL_of (l := []) (by kernel_rfl) allL_nil) period_IsOpen.i period_IsOpen.r [] true (fun x => period_IsOpen.f k (x.1) (x.2)) (fun _ _ => rfl) (by kernel_rfl) (period_IsOpen.eq k)
noncomputable def period_IsOpen.pk (k : Nat) : Pk Try.prog DD := ⟨121, period_IsOpen.D k, period_IsOpen.sound k, enter_of Try.func121 (by kernel_rfl) (by kernel_rfl)⟩
/-! ### slices.Clone[[]pyx/api.Line,pyx/api.Line]: function 76 -/
noncomputable def slices_Clone_api_Line.f (k : Nat) (a0 : List Sapi_Line) : Option (List Sapi_Line) := cond (okLen (List.length ([] : List Sapi_Line) + List.length a0) 48) (some (([] : List Sapi_Line) ++ a0)) none
noncomputable def slices_Clone_api_Line.un (s : St U) : Option (List Sapi_Line) := match s.get 0 with | .row C.Sapi_Line x1 => some x1 | _ => none
noncomputable def slices_Clone_api_Line.mk (x : List Sapi_Line) : St U := ⟨[(0, .row C.Sapi_Line x)], []⟩
noncomputable def slices_Clone_api_Line.fin (y : List Sapi_Line) : St U := ⟨[(0, .row C.Sapi_Line y)], []⟩
noncomputable def slices_Clone_api_Line.D (k : Nat) : FDen U := { X := List Sapi_Line, Y := List Sapi_Line, nt := 8, gh := [], un := slices_Clone_api_Line.un, f := fun x => slices_Clone_api_Line.f k (x), fin := slices_Clone_api_Line.fin, cl := true, clo := fun _ _ => rfl }
noncomputable def slices_Clone_api_Line.re (s : St U) : Option (List Sapi_Line) := match s.get 0 with | .row C.Sapi_Line x1 => some x1 | _ => none
noncomputable def slices_Clone_api_Line.jl : List (Nat × JDen U) := []
noncomputable def slices_Clone_api_Line.fl (k : Nat) : List (Nat × FDen U) := []
noncomputable def slices_Clone_api_Line.ll (k : Nat) : List (Nat × LDen U) := []
noncomputable def slices_Clone_api_Line.E (k : Nat) : Env U := { P := Try.prog, D := DD, fd := lk (slices_Clone_api_Line.fl k), sf := lk sl0, ld := lk (slices_Clone_api_Line.ll k), jd := lk slices_Clone_api_Line.jl, mode := lk [], elc := lk ec, mpc := lk mc, rts := Try.f76.resultTypes.toList, dyn := fun t => false, vecs := fun d => false, results := Try.f76.results.toList, gh := [], own := false, io := fun g i => false }
theorem slices_Clone_api_Line.ok (k : Nat) : EnvOk (slices_Clone_api_Line.E k) := envOk lawful (slices_Clone_api_Line.fl k) sl0 (slices_Clone_api_Line.ll k) slices_Clone_api_Line.jl _ _ _ _ _ _ _ _ _ _ (by
  intro p hp
  simp [slices_Clone_api_Line.fl] at hp) sl0_ok (by
  intro p hp
  simp [slices_Clone_api_Line.jl] at hp)
theorem slices_Clone_api_Line.fitR (s : St U) (y : List Sapi_Line) (h : slices_Clone_api_Line.re s = some y) : Fits s (slices_Clone_api_Line.fin y) := by
  unfold slices_Clone_api_Line.re at h
  split at h
  · cases h
    refine fits_ren [] ?_ ?_ ren_nil rfl
    · exact List.forall_mem_cons.2 ⟨FV.one (FV.same (by assumption) rfl), fun _ hp => (List.not_mem_nil hp).elim⟩
    · exact fun _ hp => (List.not_mem_nil hp).elim
  · cases h
noncomputable def slices_Clone_api_Line.mkn (g : Bool) (x : List Sapi_Line) : St U := ⟨[(0, .nrow g C.Sapi_Line x)], []⟩
theorem slices_Clone_api_Line.eq (k : Nat) (x : List Sapi_Line) : runF (slices_Clone_api_Line.E k) (codeOf Try.f76) (slices_Clone_api_Line.mkn true x) slices_Clone_api_Line.re = (slices_Clone_api_Line.D k).f x := by kernel_rfl
theorem slices_Clone_api_Line.eqN (k : Nat) : runF (slices_Clone_api_Line.E k) (codeOf Try.f76) (slices_Clone_api_Line.mkn false []) slices_Clone_api_Line.re = (slices_Clone_api_Line.D k).f [] := by kernel_rfl
theorem slices_Clone_api_Line.sound (k : Nat) : Sound Try.prog DD 76 (slices_Clone_api_Line.D k) :=
  fun_sound_nil (E := slices_Clone_api_Line.E k) (fn := Try.f76) (c := codeOf Try.f76) (slices_Clone_api_Line.ok k) mixed rfl Try.func76 (by kernel_rfl) (by kernel_rfl) (allL_of (l := []) (by kernel_rfl) allL_nil) C.Sapi_Line (slices_Clone_api_Line.D k) slices_Clone_api_Line.mkn (fun x => x) slices_Clone_api_Line.re (by kernel_rfl) (by kernel_rfl)
    (by intro m x h; replace h : slices_Clone_api_Line.un m = some x := h; unfold slices_Clone_api_Line.un at h; split at h; · cases h; assumption
        · cases h)
    (fun _ _ => rfl) slices_Clone_api_Line.fitR (slices_Clone_api_Line.eq k) (by intro x h; replace h : x = [] := h; subst h; exact slices_Clone_api_Line.eqN k)
noncomputable def slices_Clone_api_Line.pk (k : Nat) : Pk Try.prog DD := ⟨76, slices_Clone_api_Line.D k, slices_Clone_api_Line.sound k, enter_of Try.func76 (by kernel_rfl) (by kernel_rfl)⟩
/-! ### (*pyx/ledger.Book).add: function 72 -/
noncomputable def ledger_Book_add.f (k : Nat) (a0 : Sledger_Book) (a1 : Sapi_Entry) : Option (Int × Int × Sledger_Book) := (period_IsOpen.f k (⟨pack 12 false a0.f_t.f_Closed, pack 12 0 a0.f_t.f_Version⟩ : Speriod_Table) a1.f_Period).bind fun t1 => (cond (!t1) (some (0, 8, (⟨a0.f_scale, a0.f_l, (⟨pack 12 false a0.f_t.f_Closed, pack 12 0 a0.f_t.f_Version⟩ : Speriod_Table)⟩ : Sledger_Book))) (cond ((List.length a0.f_l : Int) == 40) (some (0, 5, (⟨a0.f_scale, a0.f_l, (⟨pack 12 false a0.f_t.f_Closed, pack 12 0 a0.f_t.f_Version⟩ : Speriod_Table)⟩ : Sledger_Book))) ((slices_Clone_api_Line.f k a1.f_Lines).bind fun t2 => (cond (okLen (List.length a0.f_l + List.length [(⟨a1.f_Period, t2, a1.f_Of⟩ : Sapi_Entry)]) 40) (some (IntKind.wrap .i64 ((List.length (a0.f_l ++ [(⟨a1.f_Period, t2, a1.f_Of⟩ : Sapi_Entry)]) : Int) - 1), 0, (⟨a0.f_scale, a0.f_l ++ [(⟨a1.f_Period, t2, a1.f_Of⟩ : Sapi_Entry)], (⟨pack 12 false a0.f_t.f_Closed, pack 12 0 a0.f_t.f_Version⟩ : Speriod_Table)⟩ : Sledger_Book))) none))))
noncomputable def ledger_Book_add.i : Lay U (Sledger_Book × Sapi_Entry) := (pcGh 1000000000000000 7000000000000 (pcAnd (pcOne 0 (io_Sledger_Book_rt 7000000000000 7000000000000)) (pcOne 1 (tAt (vCd cd_Sapi_Entry))))).lay (fun _ => by kernel_rfl)
noncomputable def ledger_Book_add.r : Lay U (Int × Int × Sledger_Book) := (pcIso (pcAnd (pcTup 0 (tqCons (tAt (vInt .i64)) (tqOne (tAt (vInt .i64))))) (pcOne 1000000000000000 (io_Sledger_Book_rt 7000000000000 7000000000000))) (fun x => ((x.1.1, x.1.2, x.2) : (Int × Int × Sledger_Book))) (fun x => ((x.1, x.2.1), x.2.2)) (fun _ => rfl)).lay (fun _ => by kernel_rfl)
noncomputable def ledger_Book_add.D (k : Nat) : FDen U := fdn ledger_Book_add.i ledger_Book_add.r Try.f72.ntmps [0] false (fun x => ledger_Book_add.f k (x.1) (x.2)) (fun h => by cases h)
noncomputable def ledger_Book_add.E (k : Nat) : Env U := mkE Try.f72 [period_IsOpen.pk k, slices_Clone_api_Line.pk k] [] [] [] n0 n0 [0] false n00
theorem ledger_Book_add.eq (k : Nat) (x : (Sledger_Book × Sapi_Entry)) : runF (ledger_Book_add.E k) (codeOf Try.f72) (ledger_Book_add.i.put x) ledger_Book_add.r.un = ledger_Book_add.f k (x.1) (x.2) := by kernel_rfl
theorem ledger_Book_add.sound (k : Nat) : Sound Try.prog DD 72 (ledger_Book_add.D k) :=
  funP (E := ledger_Book_add.E k) (fn := Try.f72) (c := codeOf Try.f72) (mkE_ok _ _ _ _ _ _ _ _ _ _) mixed rfl Try.func72 (by kernel_rfl) (by kernel_rfl) (allL_of (l := []) (by kernel_rfl) allL_nil) ledger_Book_add.i ledger_Book_add.r [0] false (fun x => ledger_Book_add.f k (x.1) (x.2)) (fun h => by cases h) (by kernel_rfl) (ledger_Book_add.eq k)
noncomputable def ledger_Book_add.pk (k : Nat) : Pk Try.prog DD := ⟨72, ledger_Book_add.D k, ledger_Book_add.sound k, enter_of Try.func72 (by kernel_rfl) (by kernel_rfl)⟩
/-! ### (*pyx/ledger.Book).Post: function 30 -/
noncomputable def ledger_Book_Post.f (k : Nat) (a0 : Sledger_Book) (a1 : Int) (a2 : List Sapi_Line) : Option (Int × Int × Sledger_Book) := (entry_Right.f k a2 a0.f_scale).bind fun t1 => (cond (t1 != 0) (some (0, t1, (⟨a0.f_scale, a0.f_l, (⟨pack 12 false a0.f_t.f_Closed, pack 12 0 a0.f_t.f_Version⟩ : Speriod_Table)⟩ : Sledger_Book))) ((ledger_Book_add.f k (⟨a0.f_scale, a0.f_l, (⟨pack 12 false a0.f_t.f_Closed, pack 12 0 a0.f_t.f_Version⟩ : Speriod_Table)⟩ : Sledger_Book) (⟨a1, a2, (-1)⟩ : Sapi_Entry)).bind fun t2 => (some (t2.1, t2.2.1, (⟨t2.2.2.f_scale, t2.2.2.f_l, (⟨pack 12 false t2.2.2.f_t.f_Closed, pack 12 0 t2.2.2.f_t.f_Version⟩ : Speriod_Table)⟩ : Sledger_Book)))))
noncomputable def ledger_Book_Post.i : Lay U (Sledger_Book × Int × List Sapi_Line) := (pcGh 1000000000000000 7000000000000 (pcAnd (pcOne 0 (io_Sledger_Book_rt 7000000000000 7000000000000)) (pcAnd (pcOne 1 (tAt (vInt .i64))) (pcOne 2 (tAt (vRow DD C.Sapi_Line)))))).lay (fun _ => by kernel_rfl)
noncomputable def ledger_Book_Post.r : Lay U (Int × Int × Sledger_Book) := (pcIso (pcAnd (pcTup 0 (tqCons (tAt (vInt .i64)) (tqOne (tAt (vInt .i64))))) (pcOne 1000000000000000 (io_Sledger_Book_rt 7000000000000 7000000000000))) (fun x => ((x.1.1, x.1.2, x.2) : (Int × Int × Sledger_Book))) (fun x => ((x.1, x.2.1), x.2.2)) (fun _ => rfl)).lay (fun _ => by kernel_rfl)
noncomputable def ledger_Book_Post.D (k : Nat) : FDen U := fdn ledger_Book_Post.i ledger_Book_Post.r Try.f30.ntmps [0] false (fun x => ledger_Book_Post.f k (x.1) (x.2.1) (x.2.2)) (fun h => by cases h)
noncomputable def ledger_Book_Post.E (k : Nat) : Env U := mkE Try.f30 [entry_Right.pk k, ledger_Book_add.pk k] [] [] [] n0 n0 [0] false n00
theorem ledger_Book_Post.eq (k : Nat) (x : (Sledger_Book × Int × List Sapi_Line)) : runF (ledger_Book_Post.E k) (codeOf Try.f30) (ledger_Book_Post.i.put x) ledger_Book_Post.r.un = ledger_Book_Post.f k (x.1) (x.2.1) (x.2.2) := by kernel_rfl
theorem ledger_Book_Post.sound (k : Nat) : Sound Try.prog DD 30 (ledger_Book_Post.D k) :=
  funP (E := ledger_Book_Post.E k) (fn := Try.f30) (c := codeOf Try.f30) (mkE_ok _ _ _ _ _ _ _ _ _ _) mixed rfl Try.func30 (by kernel_rfl) (by kernel_rfl) (allL_of (l := []) (by kernel_rfl) allL_nil) ledger_Book_Post.i ledger_Book_Post.r [0] false (fun x => ledger_Book_Post.f k (x.1) (x.2.1) (x.2.2)) (fun h => by cases h) (by kernel_rfl) (ledger_Book_Post.eq k)
noncomputable def ledger_Book_Post.pk (k : Nat) : Pk Try.prog DD := ⟨30, ledger_Book_Post.D k, ledger_Book_Post.sound k, enter_of Try.func30 (by kernel_rfl) (by kernel_rfl)⟩
/-! ### slices.Clone[[]pyx/api.Entry,pyx/api.Entry]: function 74 -/
noncomputable def slices_Clone_api_Entry.f (k : Nat) (a0 : List Sapi_Entry) : Option (List Sapi_Entry) := cond (okLen (List.length ([] : List Sapi_Entry) + List.length a0) 40) (some (([] : List Sapi_Entry) ++ a0)) none
noncomputable def slices_Clone_api_Entry.un (s : St U) : Option (List Sapi_Entry) := match s.get 0 with | .row C.Sapi_Entry x1 => some x1 | _ => none
noncomputable def slices_Clone_api_Entry.mk (x : List Sapi_Entry) : St U := ⟨[(0, .row C.Sapi_Entry x)], []⟩
noncomputable def slices_Clone_api_Entry.fin (y : List Sapi_Entry) : St U := ⟨[(0, .row C.Sapi_Entry y)], []⟩
noncomputable def slices_Clone_api_Entry.D (k : Nat) : FDen U := { X := List Sapi_Entry, Y := List Sapi_Entry, nt := 8, gh := [], un := slices_Clone_api_Entry.un, f := fun x => slices_Clone_api_Entry.f k (x), fin := slices_Clone_api_Entry.fin, cl := true, clo := fun _ _ => rfl }
noncomputable def slices_Clone_api_Entry.re (s : St U) : Option (List Sapi_Entry) := match s.get 0 with | .row C.Sapi_Entry x1 => some x1 | _ => none
noncomputable def slices_Clone_api_Entry.jl : List (Nat × JDen U) := []
noncomputable def slices_Clone_api_Entry.fl (k : Nat) : List (Nat × FDen U) := []
noncomputable def slices_Clone_api_Entry.ll (k : Nat) : List (Nat × LDen U) := []
noncomputable def slices_Clone_api_Entry.E (k : Nat) : Env U := { P := Try.prog, D := DD, fd := lk (slices_Clone_api_Entry.fl k), sf := lk sl0, ld := lk (slices_Clone_api_Entry.ll k), jd := lk slices_Clone_api_Entry.jl, mode := lk [], elc := lk ec, mpc := lk mc, rts := Try.f74.resultTypes.toList, dyn := fun t => false, vecs := fun d => false, results := Try.f74.results.toList, gh := [], own := false, io := fun g i => false }
theorem slices_Clone_api_Entry.ok (k : Nat) : EnvOk (slices_Clone_api_Entry.E k) := envOk lawful (slices_Clone_api_Entry.fl k) sl0 (slices_Clone_api_Entry.ll k) slices_Clone_api_Entry.jl _ _ _ _ _ _ _ _ _ _ (by
  intro p hp
  simp [slices_Clone_api_Entry.fl] at hp) sl0_ok (by
  intro p hp
  simp [slices_Clone_api_Entry.jl] at hp)
theorem slices_Clone_api_Entry.fitR (s : St U) (y : List Sapi_Entry) (h : slices_Clone_api_Entry.re s = some y) : Fits s (slices_Clone_api_Entry.fin y) := by
  unfold slices_Clone_api_Entry.re at h
  split at h
  · cases h
    refine fits_ren [] ?_ ?_ ren_nil rfl
    · exact List.forall_mem_cons.2 ⟨FV.one (FV.same (by assumption) rfl), fun _ hp => (List.not_mem_nil hp).elim⟩
    · exact fun _ hp => (List.not_mem_nil hp).elim
  · cases h
noncomputable def slices_Clone_api_Entry.mkn (g : Bool) (x : List Sapi_Entry) : St U := ⟨[(0, .nrow g C.Sapi_Entry x)], []⟩
theorem slices_Clone_api_Entry.eq (k : Nat) (x : List Sapi_Entry) : runF (slices_Clone_api_Entry.E k) (codeOf Try.f74) (slices_Clone_api_Entry.mkn true x) slices_Clone_api_Entry.re = (slices_Clone_api_Entry.D k).f x := by kernel_rfl
theorem slices_Clone_api_Entry.eqN (k : Nat) : runF (slices_Clone_api_Entry.E k) (codeOf Try.f74) (slices_Clone_api_Entry.mkn false []) slices_Clone_api_Entry.re = (slices_Clone_api_Entry.D k).f [] := by kernel_rfl
theorem slices_Clone_api_Entry.sound (k : Nat) : Sound Try.prog DD 74 (slices_Clone_api_Entry.D k) :=
  fun_sound_nil (E := slices_Clone_api_Entry.E k) (fn := Try.f74) (c := codeOf Try.f74) (slices_Clone_api_Entry.ok k) mixed rfl Try.func74 (by kernel_rfl) (by kernel_rfl) (allL_of (l := []) (by kernel_rfl) allL_nil) C.Sapi_Entry (slices_Clone_api_Entry.D k) slices_Clone_api_Entry.mkn (fun x => x) slices_Clone_api_Entry.re (by kernel_rfl) (by kernel_rfl)
    (by intro m x h; replace h : slices_Clone_api_Entry.un m = some x := h; unfold slices_Clone_api_Entry.un at h; split at h; · cases h; assumption
        · cases h)
    (fun _ _ => rfl) slices_Clone_api_Entry.fitR (slices_Clone_api_Entry.eq k) (by intro x h; replace h : x = [] := h; subst h; exact slices_Clone_api_Entry.eqN k)
noncomputable def slices_Clone_api_Entry.pk (k : Nat) : Pk Try.prog DD := ⟨74, slices_Clone_api_Entry.D k, slices_Clone_api_Entry.sound k, enter_of Try.func74 (by kernel_rfl) (by kernel_rfl)⟩
/-! ### slices.Clip[[]pyx/api.Entry,pyx/api.Entry]: function 73 -/
noncomputable def slices_Clip_api_Entry.f (k : Nat) (a0 : List Sapi_Entry) : Option (List Sapi_Entry) := cond (decide ((List.length a0 : Int) = (List.length a0 : Int)) && inS 0 (List.length a0 : Int) (List.length a0)) (some (List.take (Int.toNat (List.length a0 : Int)) a0)) none
noncomputable def slices_Clip_api_Entry.i : Lay U (List Sapi_Entry) := (pcOne 0 (tAt (vRow DD C.Sapi_Entry))).lay (fun _ => by kernel_rfl)
noncomputable def slices_Clip_api_Entry.r : Lay U (List Sapi_Entry) := (pcOne 0 (tAt (vRow DD C.Sapi_Entry))).lay (fun _ => by kernel_rfl)
noncomputable def slices_Clip_api_Entry.D (k : Nat) : FDen U := fdn slices_Clip_api_Entry.i slices_Clip_api_Entry.r Try.f73.ntmps [] true (fun x => slices_Clip_api_Entry.f k (x)) (fun _ _ => rfl)
noncomputable def slices_Clip_api_Entry.E (k : Nat) : Env U := mkE Try.f73 [] [] [] [] n0 n0 [] false n00
theorem slices_Clip_api_Entry.eq (k : Nat) (x : List Sapi_Entry) : runF (slices_Clip_api_Entry.E k) (codeOf Try.f73) (slices_Clip_api_Entry.i.put x) slices_Clip_api_Entry.r.un = slices_Clip_api_Entry.f k (x) := by kernel_rfl
theorem slices_Clip_api_Entry.sound (k : Nat) : Sound Try.prog DD 73 (slices_Clip_api_Entry.D k) :=
  funP (E := slices_Clip_api_Entry.E k) (fn := Try.f73) (c := codeOf Try.f73) (mkE_ok _ _ _ _ _ _ _ _ _ _) mixed rfl Try.func73 (by kernel_rfl) (by kernel_rfl) (allL_of (l := []) (by kernel_rfl) allL_nil) slices_Clip_api_Entry.i slices_Clip_api_Entry.r [] true (fun x => slices_Clip_api_Entry.f k (x)) (fun _ _ => rfl) (by kernel_rfl) (slices_Clip_api_Entry.eq k)
noncomputable def slices_Clip_api_Entry.pk (k : Nat) : Pk Try.prog DD := ⟨73, slices_Clip_api_Entry.D k, slices_Clip_api_Entry.sound k, enter_of Try.func73 (by kernel_rfl) (by kernel_rfl)⟩
/-! ### slices.Clip[[]pyx/api.Line,pyx/api.Line]: function 75 -/
noncomputable def slices_Clip_api_Line.f (k : Nat) (a0 : List Sapi_Line) : Option (List Sapi_Line) := cond (decide ((List.length a0 : Int) = (List.length a0 : Int)) && inS 0 (List.length a0 : Int) (List.length a0)) (some (List.take (Int.toNat (List.length a0 : Int)) a0)) none
noncomputable def slices_Clip_api_Line.i : Lay U (List Sapi_Line) := (pcOne 0 (tAt (vRow DD C.Sapi_Line))).lay (fun _ => by kernel_rfl)
noncomputable def slices_Clip_api_Line.r : Lay U (List Sapi_Line) := (pcOne 0 (tAt (vRow DD C.Sapi_Line))).lay (fun _ => by kernel_rfl)
noncomputable def slices_Clip_api_Line.D (k : Nat) : FDen U := fdn slices_Clip_api_Line.i slices_Clip_api_Line.r Try.f75.ntmps [] true (fun x => slices_Clip_api_Line.f k (x)) (fun _ _ => rfl)
noncomputable def slices_Clip_api_Line.E (k : Nat) : Env U := mkE Try.f75 [] [] [] [] n0 n0 [] false n00
theorem slices_Clip_api_Line.eq (k : Nat) (x : List Sapi_Line) : runF (slices_Clip_api_Line.E k) (codeOf Try.f75) (slices_Clip_api_Line.i.put x) slices_Clip_api_Line.r.un = slices_Clip_api_Line.f k (x) := by kernel_rfl
theorem slices_Clip_api_Line.sound (k : Nat) : Sound Try.prog DD 75 (slices_Clip_api_Line.D k) :=
  funP (E := slices_Clip_api_Line.E k) (fn := Try.f75) (c := codeOf Try.f75) (mkE_ok _ _ _ _ _ _ _ _ _ _) mixed rfl Try.func75 (by kernel_rfl) (by kernel_rfl) (allL_of (l := []) (by kernel_rfl) allL_nil) slices_Clip_api_Line.i slices_Clip_api_Line.r [] true (fun x => slices_Clip_api_Line.f k (x)) (fun _ _ => rfl) (by kernel_rfl) (slices_Clip_api_Line.eq k)
noncomputable def slices_Clip_api_Line.pk (k : Nat) : Pk Try.prog DD := ⟨75, slices_Clip_api_Line.D k, slices_Clip_api_Line.sound k, enter_of Try.func75 (by kernel_rfl) (by kernel_rfl)⟩
/-! ### slices.Clone[[]pyx/api.Entry,pyx/api.Entry]: function 74 -/
noncomputable def slices_Clone_api_Entry_o.f (k : Nat) (a0 : List Sapi_Entry) : Option (List Sapi_Entry) := cond (okLen (List.length ([] : List Sapi_Entry) + List.length a0) 40) (some (([] : List Sapi_Entry) ++ a0)) none
noncomputable def slices_Clone_api_Entry_o.un (s : St U) : Option (List Sapi_Entry) := match s.get 0 with | .row C.Sapi_Entry x1 => some x1 | _ => none
noncomputable def slices_Clone_api_Entry_o.mk (x : List Sapi_Entry) : St U := ⟨[(0, .row C.Sapi_Entry x)], []⟩
noncomputable def slices_Clone_api_Entry_o.fin (y : List Sapi_Entry) : St U := ⟨[(0, .vs 6000000000000)], [(6000000000000, .vec C.Sapi_Entry y)]⟩
noncomputable def slices_Clone_api_Entry_o.D (k : Nat) : FDen U := { X := List Sapi_Entry, Y := List Sapi_Entry, nt := 8, gh := [], un := slices_Clone_api_Entry_o.un, f := fun x => slices_Clone_api_Entry_o.f k (x), fin := slices_Clone_api_Entry_o.fin, cl := false, clo := fun h => by cases h }
noncomputable def slices_Clone_api_Entry_o.re (s : St U) : Option (List Sapi_Entry) := (vec_Sapi_Entry s.o (s.get 0)).bind fun ex1 => (some ex1.2)
noncomputable def slices_Clone_api_Entry_o.jl : List (Nat × JDen U) := []
noncomputable def slices_Clone_api_Entry_o.fl (k : Nat) : List (Nat × FDen U) := []
noncomputable def slices_Clone_api_Entry_o.ll (k : Nat) : List (Nat × LDen U) := []
noncomputable def slices_Clone_api_Entry_o.E (k : Nat) : Env U := { P := Try.prog, D := DD, fd := lk (slices_Clone_api_Entry_o.fl k), sf := lk sl0, ld := lk (slices_Clone_api_Entry_o.ll k), jd := lk slices_Clone_api_Entry_o.jl, mode := lk [], elc := lk ec, mpc := lk mc, rts := Try.f74.resultTypes.toList, dyn := fun t => false, vecs := fun d => Nat.beq d 5, results := Try.f74.results.toList, gh := [], own := true, io := fun g i => false }
theorem slices_Clone_api_Entry_o.ok (k : Nat) : EnvOk (slices_Clone_api_Entry_o.E k) := envOk lawful (slices_Clone_api_Entry_o.fl k) sl0 (slices_Clone_api_Entry_o.ll k) slices_Clone_api_Entry_o.jl _ _ _ _ _ _ _ _ _ _ (by
  intro p hp
  simp [slices_Clone_api_Entry_o.fl] at hp) sl0_ok (by
  intro p hp
  simp [slices_Clone_api_Entry_o.jl] at hp)
theorem slices_Clone_api_Entry_o.fitR (s : St U) (y : List Sapi_Entry) (h : slices_Clone_api_Entry_o.re s = some y) : Fits s (slices_Clone_api_Entry_o.fin y) := by
  unfold slices_Clone_api_Entry_o.re at h
  obtain ⟨ex1, hex1, hh1⟩ := Option.bind_eq_some_iff.1 h
  cases hh1
  refine fits_ren [(6000000000000, ex1.1)] ?_ ?_ ren_one rfl
  · exact List.forall_mem_cons.2 ⟨FV.one ((vec_Sapi_Entry_fit hex1 rfl).1), fun _ hp => (List.not_mem_nil hp).elim⟩
  · exact List.forall_mem_cons.2 ⟨(vec_Sapi_Entry_fit hex1 rfl).2, fun _ hp => (List.not_mem_nil hp).elim⟩
noncomputable def slices_Clone_api_Entry_o.mkn (g : Bool) (x : List Sapi_Entry) : St U := ⟨[(0, .nrow g C.Sapi_Entry x)], []⟩
theorem slices_Clone_api_Entry_o.eq (k : Nat) (x : List Sapi_Entry) : runF (slices_Clone_api_Entry_o.E k) (codeOf Try.f74) (slices_Clone_api_Entry_o.mkn true x) slices_Clone_api_Entry_o.re = (slices_Clone_api_Entry_o.D k).f x := by kernel_rfl
theorem slices_Clone_api_Entry_o.eqN (k : Nat) : runF (slices_Clone_api_Entry_o.E k) (codeOf Try.f74) (slices_Clone_api_Entry_o.mkn false []) slices_Clone_api_Entry_o.re = (slices_Clone_api_Entry_o.D k).f [] := by kernel_rfl
theorem slices_Clone_api_Entry_o.sound (k : Nat) : Sound Try.prog DD 74 (slices_Clone_api_Entry_o.D k) :=
  fun_sound_nil (E := slices_Clone_api_Entry_o.E k) (fn := Try.f74) (c := codeOf Try.f74) (slices_Clone_api_Entry_o.ok k) mixed rfl Try.func74 (by kernel_rfl) (by kernel_rfl) (allL_of (l := []) (by kernel_rfl) allL_nil) C.Sapi_Entry (slices_Clone_api_Entry_o.D k) slices_Clone_api_Entry_o.mkn (fun x => x) slices_Clone_api_Entry_o.re (by kernel_rfl) (by kernel_rfl)
    (by intro m x h; replace h : slices_Clone_api_Entry_o.un m = some x := h; unfold slices_Clone_api_Entry_o.un at h; split at h; · cases h; assumption
        · cases h)
    (fun _ _ => rfl) slices_Clone_api_Entry_o.fitR (slices_Clone_api_Entry_o.eq k) (by intro x h; replace h : x = [] := h; subst h; exact slices_Clone_api_Entry_o.eqN k)
noncomputable def slices_Clone_api_Entry_o.pk (k : Nat) : Pk Try.prog DD := ⟨74, slices_Clone_api_Entry_o.D k, slices_Clone_api_Entry_o.sound k, enter_of Try.func74 (by kernel_rfl) (by kernel_rfl)⟩
/-! ### slices.Clip[[]pyx/api.Entry,pyx/api.Entry]: function 73 -/
noncomputable def slices_Clip_api_Entry_v0_o.f (k : Nat) (a0 : List Sapi_Entry) : Option (List Sapi_Entry) := cond (decide ((List.length a0 : Int) = (List.length a0 : Int)) && decide ((List.length a0 : Int) = (List.length a0 : Int))) (some a0) none
noncomputable def slices_Clip_api_Entry_v0_o.i : Lay U (List Sapi_Entry) := (pcOne 0 (tAt (vVec DD 7000000000000 C.Sapi_Entry))).lay (fun _ => by kernel_rfl)
noncomputable def slices_Clip_api_Entry_v0_o.r : Lay U (List Sapi_Entry) := (pcOne 0 (tAt (vVec DD 6000000000000 C.Sapi_Entry))).lay (fun _ => by kernel_rfl)
noncomputable def slices_Clip_api_Entry_v0_o.D (k : Nat) : FDen U := fdn slices_Clip_api_Entry_v0_o.i slices_Clip_api_Entry_v0_o.r Try.f73.ntmps [] false (fun x => slices_Clip_api_Entry_v0_o.f k (x)) (fun h => by cases h)
noncomputable def slices_Clip_api_Entry_v0_o.E (k : Nat) : Env U := mkE Try.f73 [] [] [] [] n0 n0 [] true n00
theorem slices_Clip_api_Entry_v0_o.eq (k : Nat) (x : List Sapi_Entry) : runF (slices_Clip_api_Entry_v0_o.E k) (codeOf Try.f73) (slices_Clip_api_Entry_v0_o.i.put x) slices_Clip_api_Entry_v0_o.r.un = slices_Clip_api_Entry_v0_o.f k (x) := by kernel_rfl
theorem slices_Clip_api_Entry_v0_o.sound (k : Nat) : Sound Try.prog DD 73 (slices_Clip_api_Entry_v0_o.D k) :=
  funP (E := slices_Clip_api_Entry_v0_o.E k) (fn := Try.f73) (c := codeOf Try.f73) (mkE_ok _ _ _ _ _ _ _ _ _ _) mixed rfl Try.func73 (by kernel_rfl) (by kernel_rfl) (allL_of (l := []) (by kernel_rfl) allL_nil) slices_Clip_api_Entry_v0_o.i slices_Clip_api_Entry_v0_o.r [] false (fun x => slices_Clip_api_Entry_v0_o.f k (x)) (fun h => by cases h) (by kernel_rfl) (slices_Clip_api_Entry_v0_o.eq k)
noncomputable def slices_Clip_api_Entry_v0_o.pk (k : Nat) : Pk Try.prog DD := ⟨73, slices_Clip_api_Entry_v0_o.D k, slices_Clip_api_Entry_v0_o.sound k, enter_of Try.func73 (by kernel_rfl) (by kernel_rfl)⟩
/-! ### (*pyx/ledger.Book).Entries: function 31 -/
noncomputable def ledger_Book_Entries.l5.once (k : Nat) (x : (Int × Int × List Sapi_Entry × Int × List Sapi_Entry × Speriod_Table)) : Option ((Int × Int × List Sapi_Entry × Int × List Sapi_Entry × Speriod_Table) ⊕ ((List Sapi_Entry × Int × List Sapi_Entry × Speriod_Table))) := match x with | (x4, x5, x3, x6, x7, x32) => cond (decide (x5 < x4)) (cond (inb x5 (List.length x3)) (cond (Nat.blt (Int.toNat x5) (List.length x3)) ((slices_Clone_api_Line.f k ((List.getD x3 (Int.toNat x5) Sapi_Entry.zero).f_Lines)).bind fun t33 => ((slices_Clip_api_Line.f k t33).bind fun t34 => (cond (inb x5 (List.length x3)) (cond (Nat.blt (Int.toNat x5) (List.length x3)) (some (.inl (x4, IntKind.wrap .i64 (x5 + 1), List.set x3 (Int.toNat x5) (⟨(List.getD x3 (Int.toNat x5) Sapi_Entry.zero).f_Period, t34, (List.getD x3 (Int.toNat x5) Sapi_Entry.zero).f_Of⟩ : Sapi_Entry), x6, x7, (⟨pack 12 false x32.f_Closed, pack 12 0 x32.f_Version⟩ : Speriod_Table)))) none) none))) none) none) (some (.inr (x3, x6, x7, (⟨pack 12 false x32.f_Closed, pack 12 0 x32.f_Version⟩ : Speriod_Table))))
noncomputable def ledger_Book_Entries.f (k : Nat) (a0 : Sledger_Book) : Option (List Sapi_Entry × Sledger_Book) := (slices_Clone_api_Entry_o.f k a0.f_l).bind fun t1 => ((slices_Clip_api_Entry_v0_o.f k t1).bind fun t2 => ((iter (ledger_Book_Entries.l5.once k) k ((List.length t2 : Int), 0, t2, a0.f_scale, a0.f_l, (⟨pack 12 false a0.f_t.f_Closed, pack 12 0 a0.f_t.f_Version⟩ : Speriod_Table))).bind fun y63 => (some (y63.1, (⟨y63.2.1, y63.2.2.1, (⟨pack 12 false y63.2.2.2.f_Closed, pack 12 0 y63.2.2.2.f_Version⟩ : Speriod_Table)⟩ : Sledger_Book)))))
noncomputable def ledger_Book_Entries.i : Lay U Sledger_Book := (pcGh 1000000000000000 7000000000000 (pcOne 0 (io_Sledger_Book_rt 7000000000000 7000000000000))).lay (fun _ => by kernel_rfl)
noncomputable def ledger_Book_Entries.r : Lay U (List Sapi_Entry × Sledger_Book) := (pcAnd (pcOne 0 (tAt (vRow DD C.Sapi_Entry))) (pcOne 1000000000000000 (io_Sledger_Book_rt 7000000000000 7000000000000))).lay (fun _ => by kernel_rfl)
noncomputable def ledger_Book_Entries.D (k : Nat) : FDen U := fdn ledger_Book_Entries.i ledger_Book_Entries.r Try.f31.ntmps [0] false (fun x => ledger_Book_Entries.f k (x)) (fun h => by cases h)
noncomputable def ledger_Book_Entries.l5.i : Lay U (Int × Int × List Sapi_Entry × Int × List Sapi_Entry × Speriod_Table) := ((pcIso (skPc [(1000000000000000, sPtr 7000000000000 0), (3, sAt (vVec DD 1005003 C.Sapi_Entry)), (14, sAt (vInt .i64)), (15, sAt (vInt .i64))] [bLitT 7000000000000 [(vInt .i64), (vTip DD 700002000500001 C.Sapi_Entry 3)] cd_Speriod_Table]) (fun x => ((x.2.1, x.2.2.1, x.1, x.2.2.2.1, x.2.2.2.2.1, x.2.2.2.2.2) : (Int × Int × List Sapi_Entry × Int × List Sapi_Entry × Speriod_Table))) (fun x => (x.2.2.1, x.1, x.2.1, x.2.2.2.1, x.2.2.2.2.1, x.2.2.2.2.2)) (fun _ => rfl)).lay (fun _ => by kernel_rfl))
noncomputable def ledger_Book_Entries.l5.o : OLay U ((List Sapi_Entry × Int × List Sapi_Entry × Speriod_Table)) := oExit 0 (lay [(1000000000000000, sPtr 7000000000000 0), (3, sAt (vVec DD 1005003 C.Sapi_Entry))] [bLitT 7000000000000 [(vInt .i64), (vTip DD 700002000500001 C.Sapi_Entry 3)] cd_Speriod_Table] (fun _ => by kernel_rfl))
noncomputable def ledger_Book_Entries.E (k : Nat) : Env U := mkE Try.f31 [slices_Clone_api_Entry_o.pk k, slices_Clip_api_Entry_v0_o.pk k, slices_Clone_api_Line.pk k, slices_Clip_api_Line.pk k] [] [(5, ldn ledger_Book_Entries.l5.i ledger_Book_Entries.l5.o (iter (ledger_Book_Entries.l5.once k) k))] [] n0 (fun d => Nat.beq d 11 || Nat.beq d 12) [0] false (fun g i => (Nat.beq g 73 && Nat.beq i 0))
theorem ledger_Book_Entries.l5.eq (k : Nat) (x : (Int × Int × List Sapi_Entry × Int × List Sapi_Entry × Speriod_Table)) : evC (ledger_Book_Entries.E k) (loopAt Try.f31 5) (ledger_Book_Entries.l5.i.put x) (headK ledger_Book_Entries.l5.i.un ledger_Book_Entries.l5.o.re) = ledger_Book_Entries.l5.once k x := by kernel_rfl
theorem ledger_Book_Entries.l5.sound (k : Nat) : LSound (ledger_Book_Entries.E k) Try.f31.ntmps Try.f31 (loopAt Try.f31 5) (ldn ledger_Book_Entries.l5.i ledger_Book_Entries.l5.o (iter (ledger_Book_Entries.l5.once k) k)) :=
  loopP (mkE_ok _ _ _ _ _ _ _ _ _ _) mixed rfl (by kernel_rfl) (allL_of (l := []) (by kernel_rfl) allL_nil) ledger_Book_Entries.l5.i ledger_Book_Entries.l5.o (ledger_Book_Entries.l5.once k) k (ledger_Book_Entries.l5.eq k)
theorem ledger_Book_Entries.eq (k : Nat) (x : Sledger_Book) : runF (ledger_Book_Entries.E k) (codeOf Try.f31) (ledger_Book_Entries.i.put x) ledger_Book_Entries.r.un = ledger_Book_Entries.f k (x) := by kernel_rfl
theorem ledger_Book_Entries.sound (k : Nat) : Sound Try.prog DD 31 (ledger_Book_Entries.D k) :=
  funP (E := ledger_Book_Entries.E k) (fn := Try.f31) (c := codeOf Try.f31) (mkE_ok _ _ _ _ _ _ _ _ _ _) mixed rfl Try.func31 (by kernel_rfl) (by kernel_rfl) (allL_of (l := [loopAt Try.f31 5]) (by kernel_rfl) (allL_cons (key := 5) (by kernel_rfl) rfl (ledger_Book_Entries.l5.sound k) allL_nil)) ledger_Book_Entries.i ledger_Book_Entries.r [0] false (fun x => ledger_Book_Entries.f k (x)) (fun h => by cases h) (by kernel_rfl) (ledger_Book_Entries.eq k)
noncomputable def ledger_Book_Entries.pk (k : Nat) : Pk Try.prog DD := ⟨31, ledger_Book_Entries.D k, ledger_Book_Entries.sound k, enter_of Try.func31 (by kernel_rfl) (by kernel_rfl)⟩
/-! ### (*pyx/ledger.Book).Scale: function 39 -/
noncomputable def ledger_Book_Scale.f (k : Nat) (a0 : Sledger_Book) : Option (Int × Sledger_Book) := some (a0.f_scale, (⟨a0.f_scale, a0.f_l, (⟨pack 12 false a0.f_t.f_Closed, pack 12 0 a0.f_t.f_Version⟩ : Speriod_Table)⟩ : Sledger_Book))
noncomputable def ledger_Book_Scale.i : Lay U Sledger_Book := (pcGh 1000000000000000 7000000000000 (pcOne 0 (io_Sledger_Book_rt 7000000000000 7000000000000))).lay (fun _ => by kernel_rfl)
noncomputable def ledger_Book_Scale.r : Lay U (Int × Sledger_Book) := (pcAnd (pcOne 0 (tAt (vInt .i64))) (pcOne 1000000000000000 (io_Sledger_Book_rt 7000000000000 7000000000000))).lay (fun _ => by kernel_rfl)
noncomputable def ledger_Book_Scale.D (k : Nat) : FDen U := fdn ledger_Book_Scale.i ledger_Book_Scale.r Try.f39.ntmps [0] false (fun x => ledger_Book_Scale.f k (x)) (fun h => by cases h)
noncomputable def ledger_Book_Scale.E (k : Nat) : Env U := mkE Try.f39 [] [] [] [] n0 n0 [0] false n00
theorem ledger_Book_Scale.eq (k : Nat) (x : Sledger_Book) : runF (ledger_Book_Scale.E k) (codeOf Try.f39) (ledger_Book_Scale.i.put x) ledger_Book_Scale.r.un = ledger_Book_Scale.f k (x) := by kernel_rfl
theorem ledger_Book_Scale.sound (k : Nat) : Sound Try.prog DD 39 (ledger_Book_Scale.D k) :=
  funP (E := ledger_Book_Scale.E k) (fn := Try.f39) (c := codeOf Try.f39) (mkE_ok _ _ _ _ _ _ _ _ _ _) mixed rfl Try.func39 (by kernel_rfl) (by kernel_rfl) (allL_of (l := []) (by kernel_rfl) allL_nil) ledger_Book_Scale.i ledger_Book_Scale.r [0] false (fun x => ledger_Book_Scale.f k (x)) (fun h => by cases h) (by kernel_rfl) (ledger_Book_Scale.eq k)
noncomputable def ledger_Book_Scale.pk (k : Nat) : Pk Try.prog DD := ⟨39, ledger_Book_Scale.D k, ledger_Book_Scale.sound k, enter_of Try.func39 (by kernel_rfl) (by kernel_rfl)⟩
/-! ### pyx/pyxlaw14.known: function 28 -/
noncomputable def pyxlaw14_known.f (k : Nat)  : Option Bool := (ledger_New.f k 2).bind fun t1 => ((pyxhand_Lines.f k ([] : List Int) 2 0 2).bind fun t2 => ((ledger_Book_Post.f k (⟨t1.f_scale, t1.f_l, (⟨pack 12 false t1.f_t.f_Closed, pack 12 0 t1.f_t.f_Version⟩ : Speriod_Table)⟩ : Sledger_Book) 0 t2).bind fun t3 => ((ledger_Book_Entries.f k (⟨t3.2.2.f_scale, t3.2.2.f_l, (⟨pack 12 false t3.2.2.f_t.f_Closed, pack 12 0 t3.2.2.f_t.f_Version⟩ : Speriod_Table)⟩ : Sledger_Book)).bind fun t4 => (cond (t3.1 == 0) (cond (t3.2.1 == 0) (cond ((List.length t4.1 : Int) == 1) (cond (inb 0 (List.length t4.1)) (cond (((List.getD t4.1 0 Sapi_Entry.zero).f_Of) == (-1)) (cond (inb 0 (List.length t4.1)) (cond ((List.length ((List.getD t4.1 0 Sapi_Entry.zero).f_Lines) : Int) == 2) ((ledger_Book_Scale.f k (⟨t4.2.f_scale, t4.2.f_l, (⟨pack 12 false t4.2.f_t.f_Closed, pack 12 0 t4.2.f_t.f_Version⟩ : Speriod_Table)⟩ : Sledger_Book)).bind fun t5 => (some (t5.1 == 2))) (some false)) none) (some false)) none) (some false)) (some false)) (some false)))))
noncomputable def pyxlaw14_known.i : Lay U Unit := (pcUnit).lay (fun _ => by kernel_rfl)
noncomputable def pyxlaw14_known.r : Lay U Bool := (pcOne 0 (tAt vBool)).lay (fun _ => by kernel_rfl)
noncomputable def pyxlaw14_known.D (k : Nat) : FDen U := fdn pyxlaw14_known.i pyxlaw14_known.r Try.f28.ntmps [] true (fun x => pyxlaw14_known.f k ) (fun _ _ => rfl)
noncomputable def pyxlaw14_known.E (k : Nat) : Env U := mkE Try.f28 [ledger_New.pk k, pyxhand_Lines.pk k, ledger_Book_Post.pk k, ledger_Book_Entries.pk k, ledger_Book_Scale.pk k] [] [] [] n0 n0 [] false n00
theorem pyxlaw14_known.eq (k : Nat) (x : Unit) : runF (pyxlaw14_known.E k) (codeOf Try.f28) (pyxlaw14_known.i.put x) pyxlaw14_known.r.un = pyxlaw14_known.f k  := by kernel_rfl
theorem pyxlaw14_known.sound (k : Nat) : Sound Try.prog DD 28 (pyxlaw14_known.D k) :=
  funP (E := pyxlaw14_known.E k) (fn := Try.f28) (c := codeOf Try.f28) (mkE_ok _ _ _ _ _ _ _ _ _ _) mixed rfl Try.func28 (by kernel_rfl) (by kernel_rfl) (allL_of (l := []) (by kernel_rfl) allL_nil) pyxlaw14_known.i pyxlaw14_known.r [] true (fun x => pyxlaw14_known.f k ) (fun _ _ => rfl) (by kernel_rfl) (pyxlaw14_known.eq k)
noncomputable def pyxlaw14_known.pk (k : Nat) : Pk Try.prog DD := ⟨28, pyxlaw14_known.D k, pyxlaw14_known.sound k, enter_of Try.func28 (by kernel_rfl) (by kernel_rfl)⟩
/-! ### pyx/period.Close: function 78 -/
noncomputable def period_Close.f (k : Nat) (a0 : Speriod_Table) (a1 : Int) : Option (Speriod_Table × Int) := (((period_IsOpen.f k (⟨pack 12 false a0.f_Closed, pack 12 0 a0.f_Version⟩ : Speriod_Table) a1).bind fun t1 => (cond (!t1) (some (a1, true, (⟨pack 12 false a0.f_Closed, pack 12 0 a0.f_Version⟩ : Speriod_Table), (⟨[false, false, false, false, false, false, false, false, false, false, false, false], [0, 0, 0, 0, 0, 0, 0, 0, 0, 0, 0, 0]⟩ : Speriod_Table))) (cond (decide (a1 > 0)) (cond (inb (IntKind.wrap .i64 (a1 - 1)) 12) (cond (Nat.blt (Int.toNat (IntKind.wrap .i64 (a1 - 1))) 12) (some (a1, !(List.getD (pack 12 false a0.f_Closed) (Int.toNat (IntKind.wrap .i64 (a1 - 1))) false), (⟨pack 12 false a0.f_Closed, pack 12 0 a0.f_Version⟩ : Speriod_Table), (⟨[false, false, false, false, false, false, false, false, false, false, false, false], [0, 0, 0, 0, 0, 0, 0, 0, 0, 0, 0, 0]⟩ : Speriod_Table))) none) none) (some (a1, false, (⟨pack 12 false a0.f_Closed, pack 12 0 a0.f_Version⟩ : Speriod_Table), (⟨[false, false, false, false, false, false, false, false, false, false, false, false], [0, 0, 0, 0, 0, 0, 0, 0, 0, 0, 0, 0]⟩ : Speriod_Table)))))) : Option (Int × Bool × Speriod_Table × Speriod_Table)).bind fun y6 => (cond (y6.2.1) (some ((⟨[false, false, false, false, false, false, false, false, false, false, false, false], [0, 0, 0, 0, 0, 0, 0, 0, 0, 0, 0, 0]⟩ : Speriod_Table), 8)) (cond (inb y6.1 12) (cond (Nat.blt (Int.toNat y6.1) 12) (cond (inb y6.1 12) (cond (Nat.blt (Int.toNat y6.1) 12) (cond (inb y6.1 12) (cond (Nat.blt (Int.toNat y6.1) 12) (some ((⟨putAll (Int.toNat y6.1) true 0 (pack 12 false y6.2.2.1.f_Closed), putAll (Int.toNat y6.1) (IntKind.wrap .i64 ((List.getD (pack 12 0 y6.2.2.1.f_Version) (Int.toNat y6.1) 0) + 1)) 0 (pack 12 0 y6.2.2.1.f_Version)⟩ : Speriod_Table), 0)) none) none) none) none) none) none))
noncomputable def period_Close.i : Lay U (Speriod_Table × Int) := (pcAnd (pcOne 0 (tAt (vCd cd_Speriod_Table))) (pcOne 1 (tAt (vInt .i64)))).lay (fun _ => by kernel_rfl)
noncomputable def period_Close.r : Lay U (Speriod_Table × Int) := (pcTup 0 (tqCons (tAt (vCd cd_Speriod_Table)) (tqOne (tAt (vInt .i64))))).lay (fun _ => by kernel_rfl)
noncomputable def period_Close.D (k : Nat) : FDen U := fdn period_Close.i period_Close.r Try.f78.ntmps [] true (fun x => period_Close.f k (x.1) (x.2)) (fun _ _ => rfl)
noncomputable def period_Close.j1000 : Jk U := ⟨(Int × Bool × Speriod_Table × Speriod_Table), oNorm (lay [(2, sPtr 2 0), (4, sPtr 4 0), (1, sAt (vInt .i64)), (21, sAt vBool)] [bCd 2 cd_Speriod_Table, bCd 4 cd_Speriod_Table] (fun _ => by kernel_rfl))⟩
noncomputable def period_Close.E (k : Nat) : Env U := mkE Try.f78 [period_IsOpen.pk k] [(1000, period_Close.j1000)] [] [] (fun t => Nat.beq t 90 || Nat.beq t 91) n0 [] false n00
theorem period_Close.eq (k : Nat) (x : (Speriod_Table × Int)) : runF (period_Close.E k) (codeOf Try.f78) (period_Close.i.put x) period_Close.r.un = period_Close.f k (x.1) (x.2) := by kernel_rfl
theorem period_Close.sound (k : Nat) : Sound Try.prog DD 78 (period_Close.D k) :=
  funP (E := period_Close.E k) (fn := Try.f78) (c := codeOf Try.f78) (mkE_ok _ _ _ _ _ _ _ _ _ _) mixed rfl Try.func78 (by kernel_rfl) (by kernel_rfl) (allL_of (l := []) (by kernel_rfl) allL_nil) period_Close.i period_Close.r [] true (fun x => period_Close.f k (x.1) (x.2)) (fun _ _ => rfl) (by kernel_rfl) (period_Close.eq k)
noncomputable def period_Close.pk (k : Nat) : Pk Try.prog DD := ⟨78, period_Close.D k, period_Close.sound k, enter_of Try.func78 (by kernel_rfl) (by kernel_rfl)⟩
end
end Go.Proofs.Ytlaogfkgkpgofaa
