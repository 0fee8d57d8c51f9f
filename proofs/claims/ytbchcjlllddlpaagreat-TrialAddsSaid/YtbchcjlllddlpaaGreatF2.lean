import Derived.Test.YtbchcjlllddlpaaGreatF1
/-! Functions, told; their equations with the evaluator; that they are sound. Written by gen.py. -/
namespace Go.Proofs.YtbchcjlllddlpaaGreat
open Go Go.Ev
noncomputable section
set_option linter.unusedVariables false
set_option linter.unusedSimpArgs false
set_option maxRecDepth 100000
/-! ### (*pyx/ledger.Book).Periods: function 30 -/
noncomputable def ledger_Book_Periods.f (k : Nat) (a0 : Sledger_Book) : Option (Speriod_Table × Sledger_Book) := some ((⟨pack 12 false a0.f_t.f_Closed, pack 12 0 a0.f_t.f_Version⟩ : Speriod_Table), (⟨a0.f_scale, a0.f_l, (⟨pack 12 false a0.f_t.f_Closed, pack 12 0 a0.f_t.f_Version⟩ : Speriod_Table)⟩ : Sledger_Book))
noncomputable def ledger_Book_Periods.i : Lay U Sledger_Book := (pcGh 1000000000000000 7000000000000 (pcOne 0 (io_Sledger_Book_rt 7000000000000 7000000000000))).lay (fun _ => by kernel_rfl)
noncomputable def ledger_Book_Periods.r : Lay U (Speriod_Table × Sledger_Book) := (pcAnd (pcOne 0 (tAt (vCd cd_Speriod_Table))) (pcOne 1000000000000000 (io_Sledger_Book_rt 7000000000000 7000000000000))).lay (fun _ => by kernel_rfl)
noncomputable def ledger_Book_Periods.D (k : Nat) : FDen U := fdn ledger_Book_Periods.i ledger_Book_Periods.r Tryz.f30.ntmps [0] false (fun x => ledger_Book_Periods.f k (x)) (fun h => by cases h)
noncomputable def ledger_Book_Periods.E (k : Nat) : Env U := mkE Tryz.f30 [] [] [] [] n0 n0 [0] false n00 nl0 []
theorem ledger_Book_Periods.eq (k : Nat) (x : Sledger_Book) : runF (ledger_Book_Periods.E k) (codeOf Tryz.f30) (ledger_Book_Periods.i.put x) ledger_Book_Periods.r.un = ledger_Book_Periods.f k (x) := by kernel_rfl
theorem ledger_Book_Periods.sound (k : Nat) : Sound Tryz.prog DD 30 (ledger_Book_Periods.D k) :=
  funP (E := ledger_Book_Periods.E k) (fn := Tryz.f30) (c := codeOf Tryz.f30) (mkE_ok _ _ _ _ _ _ _ _ _ _ _ _) mixed rfl Tryz.func30 (by kernel_rfl) (by kernel_rfl) (allL_of (l := []) (by kernel_rfl) allL_nil) ledger_Book_Periods.i ledger_Book_Periods.r [0] false (fun x => ledger_Book_Periods.f k (x)) (fun h => by cases h) (by kernel_rfl) (ledger_Book_Periods.eq k)
noncomputable def ledger_Book_Periods.pk (k : Nat) : Pk Tryz.prog DD := ⟨30, ledger_Book_Periods.D k, ledger_Book_Periods.sound k, enter_of Tryz.func30 (by kernel_rfl) (by kernel_rfl)⟩
/-! ### slices.Clone[[]pyx/api.Entry,pyx/api.Entry]: function 111 -/
noncomputable def slices_Clone_api_Entry.f (k : Nat) (a0 : List Sapi_Entry) : Option (List Sapi_Entry) := cond (okLen (List.length ([] : List Sapi_Entry) + List.length a0) 40) (some (([] : List Sapi_Entry) ++ a0)) none
noncomputable def slices_Clone_api_Entry.un (s : St U) : Option (List Sapi_Entry) := match s.get 0 with | .row C.Sapi_Entry x1 => some x1 | _ => none
noncomputable def slices_Clone_api_Entry.mk (x : List Sapi_Entry) : St U := ⟨[(0, .row C.Sapi_Entry x)], []⟩
noncomputable def slices_Clone_api_Entry.fin (y : List Sapi_Entry) : St U := ⟨[(0, .row C.Sapi_Entry y)], []⟩
noncomputable def slices_Clone_api_Entry.D (k : Nat) : FDen U := { X := List Sapi_Entry, Y := List Sapi_Entry, nt := 8, gh := [], un := slices_Clone_api_Entry.un, f := fun x => slices_Clone_api_Entry.f k (x), fin := slices_Clone_api_Entry.fin, cl := true, clo := fun _ _ => rfl }
noncomputable def slices_Clone_api_Entry.re (s : St U) : Option (List Sapi_Entry) := match s.get 0 with | .row C.Sapi_Entry x1 => some x1 | _ => none
noncomputable def slices_Clone_api_Entry.jl : List (Nat × JDen U) := []
noncomputable def slices_Clone_api_Entry.fl (k : Nat) : List (Nat × FDen U) := []
noncomputable def slices_Clone_api_Entry.ll (k : Nat) : List (Nat × LDen U) := []
noncomputable def slices_Clone_api_Entry.E (k : Nat) : Env U := { P := Tryz.prog, D := DD, fd := lk (slices_Clone_api_Entry.fl k), sf := lk sl0, ld := lk (slices_Clone_api_Entry.ll k), jd := lk slices_Clone_api_Entry.jl, mode := lk [], elc := lk ec, mpc := lk mc, rts := Tryz.f111.resultTypes.toList, dyn := fun t => false, vecs := fun d => false, results := Tryz.f111.results.toList, gh := [], own := false, io := fun g i => false, lds := nl0, fn := lk [] }
theorem slices_Clone_api_Entry.ok (k : Nat) : EnvOk (slices_Clone_api_Entry.E k) := envOk lawful (slices_Clone_api_Entry.fl k) sl0 (slices_Clone_api_Entry.ll k) slices_Clone_api_Entry.jl _ _ _ _ _ _ _ _ _ _ _ [] (by
  intro p hp
  simp [slices_Clone_api_Entry.fl] at hp) sl0_ok (by
  intro p hp
  simp [slices_Clone_api_Entry.jl] at hp) (fun _ h => (List.not_mem_nil h).elim)
theorem slices_Clone_api_Entry.fitR (s : St U) (y : List Sapi_Entry) (h : slices_Clone_api_Entry.re s = some y) : Fits s (slices_Clone_api_Entry.fin y) := by
  unfold slices_Clone_api_Entry.re at h
  split at h
  · cases h
    refine fits_ren [] ?_ ?_ ren_nil rfl
    · exact List.forall_mem_cons.2 ⟨FV.one (FV.same (by assumption) rfl), fun _ hp => (List.not_mem_nil hp).elim⟩
    · exact fun _ hp => (List.not_mem_nil hp).elim
  · cases h
noncomputable def slices_Clone_api_Entry.mkn (g : Bool) (x : List Sapi_Entry) : St U := ⟨[(0, .nrow g C.Sapi_Entry x)], []⟩
theorem slices_Clone_api_Entry.eq (k : Nat) (x : List Sapi_Entry) : runF (slices_Clone_api_Entry.E k) (codeOf Tryz.f111) (slices_Clone_api_Entry.mkn true x) slices_Clone_api_Entry.re = (slices_Clone_api_Entry.D k).f x := by kernel_rfl
theorem slices_Clone_api_Entry.eqN (k : Nat) : runF (slices_Clone_api_Entry.E k) (codeOf Tryz.f111) (slices_Clone_api_Entry.mkn false []) slices_Clone_api_Entry.re = (slices_Clone_api_Entry.D k).f [] := by kernel_rfl
theorem slices_Clone_api_Entry.sound (k : Nat) : Sound Tryz.prog DD 111 (slices_Clone_api_Entry.D k) :=
  fun_sound_nil (E := slices_Clone_api_Entry.E k) (fn := Tryz.f111) (c := codeOf Tryz.f111) (slices_Clone_api_Entry.ok k) mixed rfl Tryz.func111 (by kernel_rfl) (by kernel_rfl) (allL_of (l := []) (by kernel_rfl) allL_nil) C.Sapi_Entry (slices_Clone_api_Entry.D k) slices_Clone_api_Entry.mkn (fun x => x) slices_Clone_api_Entry.re (by kernel_rfl) (by kernel_rfl)
    (by intro m x h; replace h : slices_Clone_api_Entry.un m = some x := h; unfold slices_Clone_api_Entry.un at h; split at h; · cases h; assumption
        · cases h)
    (fun _ _ => rfl) slices_Clone_api_Entry.fitR (slices_Clone_api_Entry.eq k) (by intro x h; replace h : x = [] := h; subst h; exact slices_Clone_api_Entry.eqN k)
noncomputable def slices_Clone_api_Entry.pk (k : Nat) : Pk Tryz.prog DD := ⟨111, slices_Clone_api_Entry.D k, slices_Clone_api_Entry.sound k, enter_of Tryz.func111 (by kernel_rfl) (by kernel_rfl)⟩
/-! ### slices.Clip[[]pyx/api.Entry,pyx/api.Entry]: function 110 -/
noncomputable def slices_Clip_api_Entry.f (k : Nat) (a0 : List Sapi_Entry) : Option (List Sapi_Entry) := cond (decide ((List.length a0 : Int) = (List.length a0 : Int)) && inS 0 (List.length a0 : Int) (List.length a0)) (some (List.take (Int.toNat (List.length a0 : Int)) a0)) none
noncomputable def slices_Clip_api_Entry.i : Lay U (List Sapi_Entry) := (pcOne 0 (tAt (vRow DD C.Sapi_Entry))).lay (fun _ => by kernel_rfl)
noncomputable def slices_Clip_api_Entry.r : Lay U (List Sapi_Entry) := (pcOne 0 (tAt (vRow DD C.Sapi_Entry))).lay (fun _ => by kernel_rfl)
noncomputable def slices_Clip_api_Entry.D (k : Nat) : FDen U := fdn slices_Clip_api_Entry.i slices_Clip_api_Entry.r Tryz.f110.ntmps [] true (fun x => slices_Clip_api_Entry.f k (x)) (fun _ _ => rfl)
noncomputable def slices_Clip_api_Entry.E (k : Nat) : Env U := mkE Tryz.f110 [] [] [] [] n0 n0 [] false n00 nl0 []
theorem slices_Clip_api_Entry.eq (k : Nat) (x : List Sapi_Entry) : runF (slices_Clip_api_Entry.E k) (codeOf Tryz.f110) (slices_Clip_api_Entry.i.put x) slices_Clip_api_Entry.r.un = slices_Clip_api_Entry.f k (x) := by kernel_rfl
theorem slices_Clip_api_Entry.sound (k : Nat) : Sound Tryz.prog DD 110 (slices_Clip_api_Entry.D k) :=
  funP (E := slices_Clip_api_Entry.E k) (fn := Tryz.f110) (c := codeOf Tryz.f110) (mkE_ok _ _ _ _ _ _ _ _ _ _ _ _) mixed rfl Tryz.func110 (by kernel_rfl) (by kernel_rfl) (allL_of (l := []) (by kernel_rfl) allL_nil) slices_Clip_api_Entry.i slices_Clip_api_Entry.r [] true (fun x => slices_Clip_api_Entry.f k (x)) (fun _ _ => rfl) (by kernel_rfl) (slices_Clip_api_Entry.eq k)
noncomputable def slices_Clip_api_Entry.pk (k : Nat) : Pk Tryz.prog DD := ⟨110, slices_Clip_api_Entry.D k, slices_Clip_api_Entry.sound k, enter_of Tryz.func110 (by kernel_rfl) (by kernel_rfl)⟩
/-! ### slices.Clone[[]pyx/api.Line,pyx/api.Line]: function 109 -/
noncomputable def slices_Clone_api_Line.f (k : Nat) (a0 : List Sapi_Line) : Option (List Sapi_Line) := cond (okLen (List.length ([] : List Sapi_Line) + List.length a0) 48) (some (([] : List Sapi_Line) ++ a0)) none
noncomputable def slices_Clone_api_Line.un (s : St U) : Option (List Sapi_Line) := match s.get 0 with | .row C.Sapi_Line x1 => some x1 | _ => none
noncomputable def slices_Clone_api_Line.mk (x : List Sapi_Line) : St U := ⟨[(0, .row C.Sapi_Line x)], []⟩
noncomputable def slices_Clone_api_Line.fin (y : List Sapi_Line) : St U := ⟨[(0, .row C.Sapi_Line y)], []⟩
noncomputable def slices_Clone_api_Line.D (k : Nat) : FDen U := { X := List Sapi_Line, Y := List Sapi_Line, nt := 8, gh := [], un := slices_Clone_api_Line.un, f := fun x => slices_Clone_api_Line.f k (x), fin := slices_Clone_api_Line.fin, cl := true, clo := fun _ _ => rfl }
noncomputable def slices_Clone_api_Line.re (s : St U) : Option (List Sapi_Line) := match s.get 0 with | .row C.Sapi_Line x1 => some x1 | _ => none
noncomputable def slices_Clone_api_Line.jl : List (Nat × JDen U) := []
noncomputable def slices_Clone_api_Line.fl (k : Nat) : List (Nat × FDen U) := []
noncomputable def slices_Clone_api_Line.ll (k : Nat) : List (Nat × LDen U) := []
noncomputable def slices_Clone_api_Line.E (k : Nat) : Env U := { P := Tryz.prog, D := DD, fd := lk (slices_Clone_api_Line.fl k), sf := lk sl0, ld := lk (slices_Clone_api_Line.ll k), jd := lk slices_Clone_api_Line.jl, mode := lk [], elc := lk ec, mpc := lk mc, rts := Tryz.f109.resultTypes.toList, dyn := fun t => false, vecs := fun d => false, results := Tryz.f109.results.toList, gh := [], own := false, io := fun g i => false, lds := nl0, fn := lk [] }
theorem slices_Clone_api_Line.ok (k : Nat) : EnvOk (slices_Clone_api_Line.E k) := envOk lawful (slices_Clone_api_Line.fl k) sl0 (slices_Clone_api_Line.ll k) slices_Clone_api_Line.jl _ _ _ _ _ _ _ _ _ _ _ [] (by
  intro p hp
  simp [slices_Clone_api_Line.fl] at hp) sl0_ok (by
  intro p hp
  simp [slices_Clone_api_Line.jl] at hp) (fun _ h => (List.not_mem_nil h).elim)
theorem slices_Clone_api_Line.fitR (s : St U) (y : List Sapi_Line) (h : slices_Clone_api_Line.re s = some y) : Fits s (slices_Clone_api_Line.fin y) := by
  unfold slices_Clone_api_Line.re at h
  split at h
  · cases h
    refine fits_ren [] ?_ ?_ ren_nil rfl
    · exact List.forall_mem_cons.2 ⟨FV.one (FV.same (by assumption) rfl), fun _ hp => (List.not_mem_nil hp).elim⟩
    · exact fun _ hp => (List.not_mem_nil hp).elim
  · cases h
noncomputable def slices_Clone_api_Line.mkn (g : Bool) (x : List Sapi_Line) : St U := ⟨[(0, .nrow g C.Sapi_Line x)], []⟩
theorem slices_Clone_api_Line.eq (k : Nat) (x : List Sapi_Line) : runF (slices_Clone_api_Line.E k) (codeOf Tryz.f109) (slices_Clone_api_Line.mkn true x) slices_Clone_api_Line.re = (slices_Clone_api_Line.D k).f x := by kernel_rfl
theorem slices_Clone_api_Line.eqN (k : Nat) : runF (slices_Clone_api_Line.E k) (codeOf Tryz.f109) (slices_Clone_api_Line.mkn false []) slices_Clone_api_Line.re = (slices_Clone_api_Line.D k).f [] := by kernel_rfl
theorem slices_Clone_api_Line.sound (k : Nat) : Sound Tryz.prog DD 109 (slices_Clone_api_Line.D k) :=
  fun_sound_nil (E := slices_Clone_api_Line.E k) (fn := Tryz.f109) (c := codeOf Tryz.f109) (slices_Clone_api_Line.ok k) mixed rfl Tryz.func109 (by kernel_rfl) (by kernel_rfl) (allL_of (l := []) (by kernel_rfl) allL_nil) C.Sapi_Line (slices_Clone_api_Line.D k) slices_Clone_api_Line.mkn (fun x => x) slices_Clone_api_Line.re (by kernel_rfl) (by kernel_rfl)
    (by intro m x h; replace h : slices_Clone_api_Line.un m = some x := h; unfold slices_Clone_api_Line.un at h; split at h; · cases h; assumption
        · cases h)
    (fun _ _ => rfl) slices_Clone_api_Line.fitR (slices_Clone_api_Line.eq k) (by intro x h; replace h : x = [] := h; subst h; exact slices_Clone_api_Line.eqN k)
noncomputable def slices_Clone_api_Line.pk (k : Nat) : Pk Tryz.prog DD := ⟨109, slices_Clone_api_Line.D k, slices_Clone_api_Line.sound k, enter_of Tryz.func109 (by kernel_rfl) (by kernel_rfl)⟩
/-! ### slices.Clip[[]pyx/api.Line,pyx/api.Line]: function 112 -/
noncomputable def slices_Clip_api_Line.f (k : Nat) (a0 : List Sapi_Line) : Option (List Sapi_Line) := cond (decide ((List.length a0 : Int) = (List.length a0 : Int)) && inS 0 (List.length a0 : Int) (List.length a0)) (some (List.take (Int.toNat (List.length a0 : Int)) a0)) none
noncomputable def slices_Clip_api_Line.i : Lay U (List Sapi_Line) := (pcOne 0 (tAt (vRow DD C.Sapi_Line))).lay (fun _ => by kernel_rfl)
noncomputable def slices_Clip_api_Line.r : Lay U (List Sapi_Line) := (pcOne 0 (tAt (vRow DD C.Sapi_Line))).lay (fun _ => by kernel_rfl)
noncomputable def slices_Clip_api_Line.D (k : Nat) : FDen U := fdn slices_Clip_api_Line.i slices_Clip_api_Line.r Tryz.f112.ntmps [] true (fun x => slices_Clip_api_Line.f k (x)) (fun _ _ => rfl)
noncomputable def slices_Clip_api_Line.E (k : Nat) : Env U := mkE Tryz.f112 [] [] [] [] n0 n0 [] false n00 nl0 []
theorem slices_Clip_api_Line.eq (k : Nat) (x : List Sapi_Line) : runF (slices_Clip_api_Line.E k) (codeOf Tryz.f112) (slices_Clip_api_Line.i.put x) slices_Clip_api_Line.r.un = slices_Clip_api_Line.f k (x) := by kernel_rfl
theorem slices_Clip_api_Line.sound (k : Nat) : Sound Tryz.prog DD 112 (slices_Clip_api_Line.D k) :=
  funP (E := slices_Clip_api_Line.E k) (fn := Tryz.f112) (c := codeOf Tryz.f112) (mkE_ok _ _ _ _ _ _ _ _ _ _ _ _) mixed rfl Tryz.func112 (by kernel_rfl) (by kernel_rfl) (allL_of (l := []) (by kernel_rfl) allL_nil) slices_Clip_api_Line.i slices_Clip_api_Line.r [] true (fun x => slices_Clip_api_Line.f k (x)) (fun _ _ => rfl) (by kernel_rfl) (slices_Clip_api_Line.eq k)
noncomputable def slices_Clip_api_Line.pk (k : Nat) : Pk Tryz.prog DD := ⟨112, slices_Clip_api_Line.D k, slices_Clip_api_Line.sound k, enter_of Tryz.func112 (by kernel_rfl) (by kernel_rfl)⟩
/-! ### slices.Clone[[]pyx/api.Entry,pyx/api.Entry]: function 111 -/
noncomputable def slices_Clone_api_Entry_o.f (k : Nat) (a0 : List Sapi_Entry) : Option (List Sapi_Entry) := cond (okLen (List.length ([] : List Sapi_Entry) + List.length a0) 40) (some (([] : List Sapi_Entry) ++ a0)) none
noncomputable def slices_Clone_api_Entry_o.un (s : St U) : Option (List Sapi_Entry) := match s.get 0 with | .row C.Sapi_Entry x1 => some x1 | _ => none
noncomputable def slices_Clone_api_Entry_o.mk (x : List Sapi_Entry) : St U := ⟨[(0, .row C.Sapi_Entry x)], []⟩
noncomputable def slices_Clone_api_Entry_o.fin (y : List Sapi_Entry) : St U := ⟨[(0, .vs 6000000000000)], [(6000000000000, .vec C.Sapi_Entry y)]⟩
noncomputable def slices_Clone_api_Entry_o.D (k : Nat) : FDen U := { X := List Sapi_Entry, Y := List Sapi_Entry, nt := 8, gh := [], un := slices_Clone_api_Entry_o.un, f := fun x => slices_Clone_api_Entry_o.f k (x), fin := slices_Clone_api_Entry_o.fin, cl := false, clo := fun h => by cases h }
noncomputable def slices_Clone_api_Entry_o.re (s : St U) : Option (List Sapi_Entry) := (vec_Sapi_Entry s.o (s.get 0)).bind fun ex1 => (some ex1.2)
noncomputable def slices_Clone_api_Entry_o.jl : List (Nat × JDen U) := []
noncomputable def slices_Clone_api_Entry_o.fl (k : Nat) : List (Nat × FDen U) := []
noncomputable def slices_Clone_api_Entry_o.ll (k : Nat) : List (Nat × LDen U) := []
noncomputable def slices_Clone_api_Entry_o.E (k : Nat) : Env U := { P := Tryz.prog, D := DD, fd := lk (slices_Clone_api_Entry_o.fl k), sf := lk sl0, ld := lk (slices_Clone_api_Entry_o.ll k), jd := lk slices_Clone_api_Entry_o.jl, mode := lk [], elc := lk ec, mpc := lk mc, rts := Tryz.f111.resultTypes.toList, dyn := fun t => false, vecs := fun d => Nat.beq d 5, results := Tryz.f111.results.toList, gh := [], own := true, io := fun g i => false, lds := nl0, fn := lk [] }
theorem slices_Clone_api_Entry_o.ok (k : Nat) : EnvOk (slices_Clone_api_Entry_o.E k) := envOk lawful (slices_Clone_api_Entry_o.fl k) sl0 (slices_Clone_api_Entry_o.ll k) slices_Clone_api_Entry_o.jl _ _ _ _ _ _ _ _ _ _ _ [] (by
  intro p hp
  simp [slices_Clone_api_Entry_o.fl] at hp) sl0_ok (by
  intro p hp
  simp [slices_Clone_api_Entry_o.jl] at hp) (fun _ h => (List.not_mem_nil h).elim)
theorem slices_Clone_api_Entry_o.fitR (s : St U) (y : List Sapi_Entry) (h : slices_Clone_api_Entry_o.re s = some y) : Fits s (slices_Clone_api_Entry_o.fin y) := by
  unfold slices_Clone_api_Entry_o.re at h
  obtain ⟨ex1, hex1, hh1⟩ := Option.bind_eq_some_iff.1 h
  cases hh1
  refine fits_ren [(6000000000000, ex1.1)] ?_ ?_ ren_one rfl
  · exact List.forall_mem_cons.2 ⟨FV.one ((vec_Sapi_Entry_fit hex1 rfl).1), fun _ hp => (List.not_mem_nil hp).elim⟩
  · exact List.forall_mem_cons.2 ⟨(vec_Sapi_Entry_fit hex1 rfl).2, fun _ hp => (List.not_mem_nil hp).elim⟩
noncomputable def slices_Clone_api_Entry_o.mkn (g : Bool) (x : List Sapi_Entry) : St U := ⟨[(0, .nrow g C.Sapi_Entry x)], []⟩
theorem slices_Clone_api_Entry_o.eq (k : Nat) (x : List Sapi_Entry) : runF (slices_Clone_api_Entry_o.E k) (codeOf Tryz.f111) (slices_Clone_api_Entry_o.mkn true x) slices_Clone_api_Entry_o.re = (slices_Clone_api_Entry_o.D k).f x := by kernel_rfl
theorem slices_Clone_api_Entry_o.eqN (k : Nat) : runF (slices_Clone_api_Entry_o.E k) (codeOf Tryz.f111) (slices_Clone_api_Entry_o.mkn false []) slices_Clone_api_Entry_o.re = (slices_Clone_api_Entry_o.D k).f [] := by kernel_rfl
theorem slices_Clone_api_Entry_o.sound (k : Nat) : Sound Tryz.prog DD 111 (slices_Clone_api_Entry_o.D k) :=
  fun_sound_nil (E := slices_Clone_api_Entry_o.E k) (fn := Tryz.f111) (c := codeOf Tryz.f111) (slices_Clone_api_Entry_o.ok k) mixed rfl Tryz.func111 (by kernel_rfl) (by kernel_rfl) (allL_of (l := []) (by kernel_rfl) allL_nil) C.Sapi_Entry (slices_Clone_api_Entry_o.D k) slices_Clone_api_Entry_o.mkn (fun x => x) slices_Clone_api_Entry_o.re (by kernel_rfl) (by kernel_rfl)
    (by intro m x h; replace h : slices_Clone_api_Entry_o.un m = some x := h; unfold slices_Clone_api_Entry_o.un at h; split at h; · cases h; assumption
        · cases h)
    (fun _ _ => rfl) slices_Clone_api_Entry_o.fitR (slices_Clone_api_Entry_o.eq k) (by intro x h; replace h : x = [] := h; subst h; exact slices_Clone_api_Entry_o.eqN k)
noncomputable def slices_Clone_api_Entry_o.pk (k : Nat) : Pk Tryz.prog DD := ⟨111, slices_Clone_api_Entry_o.D k, slices_Clone_api_Entry_o.sound k, enter_of Tryz.func111 (by kernel_rfl) (by kernel_rfl)⟩
/-! ### slices.Clip[[]pyx/api.Entry,pyx/api.Entry]: function 110 -/
noncomputable def slices_Clip_api_Entry_v0_o.f (k : Nat) (a0 : List Sapi_Entry) : Option (List Sapi_Entry) := cond (decide ((List.length a0 : Int) = (List.length a0 : Int)) && decide ((List.length a0 : Int) = (List.length a0 : Int))) (some a0) none
noncomputable def slices_Clip_api_Entry_v0_o.i : Lay U (List Sapi_Entry) := (pcOne 0 (tAt (vVec DD 7000000000000 C.Sapi_Entry))).lay (fun _ => by kernel_rfl)
noncomputable def slices_Clip_api_Entry_v0_o.r : Lay U (List Sapi_Entry) := (pcOne 0 (tAt (vVec DD 6000000000000 C.Sapi_Entry))).lay (fun _ => by kernel_rfl)
noncomputable def slices_Clip_api_Entry_v0_o.D (k : Nat) : FDen U := fdn slices_Clip_api_Entry_v0_o.i slices_Clip_api_Entry_v0_o.r Tryz.f110.ntmps [] false (fun x => slices_Clip_api_Entry_v0_o.f k (x)) (fun h => by cases h)
noncomputable def slices_Clip_api_Entry_v0_o.E (k : Nat) : Env U := mkE Tryz.f110 [] [] [] [] n0 n0 [] true n00 nl0 []
theorem slices_Clip_api_Entry_v0_o.eq (k : Nat) (x : List Sapi_Entry) : runF (slices_Clip_api_Entry_v0_o.E k) (codeOf Tryz.f110) (slices_Clip_api_Entry_v0_o.i.put x) slices_Clip_api_Entry_v0_o.r.un = slices_Clip_api_Entry_v0_o.f k (x) := by kernel_rfl
theorem slices_Clip_api_Entry_v0_o.sound (k : Nat) : Sound Tryz.prog DD 110 (slices_Clip_api_Entry_v0_o.D k) :=
  funP (E := slices_Clip_api_Entry_v0_o.E k) (fn := Tryz.f110) (c := codeOf Tryz.f110) (mkE_ok _ _ _ _ _ _ _ _ _ _ _ _) mixed rfl Tryz.func110 (by kernel_rfl) (by kernel_rfl) (allL_of (l := []) (by kernel_rfl) allL_nil) slices_Clip_api_Entry_v0_o.i slices_Clip_api_Entry_v0_o.r [] false (fun x => slices_Clip_api_Entry_v0_o.f k (x)) (fun h => by cases h) (by kernel_rfl) (slices_Clip_api_Entry_v0_o.eq k)
noncomputable def slices_Clip_api_Entry_v0_o.pk (k : Nat) : Pk Tryz.prog DD := ⟨110, slices_Clip_api_Entry_v0_o.D k, slices_Clip_api_Entry_v0_o.sound k, enter_of Tryz.func110 (by kernel_rfl) (by kernel_rfl)⟩
/-! ### (*pyx/ledger.Book).Entries: function 57 -/
noncomputable def ledger_Book_Entries.l5.once (k : Nat) (x : (Int × Int × List Sapi_Entry × Int × List Sapi_Entry × Speriod_Table)) : Option ((Int × Int × List Sapi_Entry × Int × List Sapi_Entry × Speriod_Table) ⊕ ((List Sapi_Entry × Int × List Sapi_Entry × Speriod_Table))) := match x with | (x4, x5, x3, x6, x7, x32) => cond (decide (x5 < x4)) (cond (inb x5 (List.length x3)) (cond (Nat.blt (Int.toNat x5) (List.length x3)) ((slices_Clone_api_Line.f k ((List.getD x3 (Int.toNat x5) Sapi_Entry.zero).f_Lines)).bind fun t33 => ((slices_Clip_api_Line.f k t33).bind fun t34 => (cond (inb x5 (List.length x3)) (cond (Nat.blt (Int.toNat x5) (List.length x3)) (some (.inl (x4, IntKind.wrap .i64 (x5 + 1), List.set x3 (Int.toNat x5) (⟨(List.getD x3 (Int.toNat x5) Sapi_Entry.zero).f_Period, t34, (List.getD x3 (Int.toNat x5) Sapi_Entry.zero).f_Of⟩ : Sapi_Entry), x6, x7, (⟨pack 12 false x32.f_Closed, pack 12 0 x32.f_Version⟩ : Speriod_Table)))) none) none))) none) none) (some (.inr (x3, x6, x7, (⟨pack 12 false x32.f_Closed, pack 12 0 x32.f_Version⟩ : Speriod_Table))))
noncomputable def ledger_Book_Entries.f (k : Nat) (a0 : Sledger_Book) : Option (List Sapi_Entry × Sledger_Book) := (slices_Clone_api_Entry_o.f k a0.f_l).bind fun t1 => ((slices_Clip_api_Entry_v0_o.f k t1).bind fun t2 => ((iter (ledger_Book_Entries.l5.once k) k ((List.length t2 : Int), 0, t2, a0.f_scale, a0.f_l, (⟨pack 12 false a0.f_t.f_Closed, pack 12 0 a0.f_t.f_Version⟩ : Speriod_Table))).bind fun y63 => (some (y63.1, (⟨y63.2.1, y63.2.2.1, (⟨pack 12 false y63.2.2.2.f_Closed, pack 12 0 y63.2.2.2.f_Version⟩ : Speriod_Table)⟩ : Sledger_Book)))))
noncomputable def ledger_Book_Entries.i : Lay U Sledger_Book := (pcGh 1000000000000000 7000000000000 (pcOne 0 (io_Sledger_Book_rt 7000000000000 7000000000000))).lay (fun _ => by kernel_rfl)
noncomputable def ledger_Book_Entries.r : Lay U (List Sapi_Entry × Sledger_Book) := (pcAnd (pcOne 0 (tAt (vRow DD C.Sapi_Entry))) (pcOne 1000000000000000 (io_Sledger_Book_rt 7000000000000 7000000000000))).lay (fun _ => by kernel_rfl)
noncomputable def ledger_Book_Entries.D (k : Nat) : FDen U := fdn ledger_Book_Entries.i ledger_Book_Entries.r Tryz.f57.ntmps [0] false (fun x => ledger_Book_Entries.f k (x)) (fun h => by cases h)
noncomputable def ledger_Book_Entries.l5.i : Lay U (Int × Int × List Sapi_Entry × Int × List Sapi_Entry × Speriod_Table) := ((pcIso (skPc [(1000000000000000, sPtr 7000000000000 0), (3, sAt (vVec DD 1005003 C.Sapi_Entry)), (14, sAt (vInt .i64)), (15, sAt (vInt .i64))] [bLitT 7000000000000 [(vInt .i64), (vTip DD 700002000500001 C.Sapi_Entry 3)] cd_Speriod_Table]) (fun x => ((x.2.1, x.2.2.1, x.1, x.2.2.2.1, x.2.2.2.2.1, x.2.2.2.2.2) : (Int × Int × List Sapi_Entry × Int × List Sapi_Entry × Speriod_Table))) (fun x => (x.2.2.1, x.1, x.2.1, x.2.2.2.1, x.2.2.2.2.1, x.2.2.2.2.2)) (fun _ => rfl)).lay (fun _ => by kernel_rfl))
noncomputable def ledger_Book_Entries.l5.o : OLay U ((List Sapi_Entry × Int × List Sapi_Entry × Speriod_Table)) := oExit 0 (lay [(1000000000000000, sPtr 7000000000000 0), (3, sAt (vVec DD 1005003 C.Sapi_Entry))] [bLitT 7000000000000 [(vInt .i64), (vTip DD 700002000500001 C.Sapi_Entry 3)] cd_Speriod_Table] (fun _ => by kernel_rfl))
noncomputable def ledger_Book_Entries.E (k : Nat) : Env U := mkE Tryz.f57 [slices_Clone_api_Entry_o.pk k, slices_Clip_api_Entry_v0_o.pk k, slices_Clone_api_Line.pk k, slices_Clip_api_Line.pk k] [] [(5, ldn ledger_Book_Entries.l5.i ledger_Book_Entries.l5.o (iter (ledger_Book_Entries.l5.once k) k))] [] n0 (fun d => Nat.beq d 11 || Nat.beq d 12) [0] false (fun g i => (Nat.beq g 110 && Nat.beq i 0)) nl0 []
theorem ledger_Book_Entries.l5.eq (k : Nat) (x : (Int × Int × List Sapi_Entry × Int × List Sapi_Entry × Speriod_Table)) : evC (ledger_Book_Entries.E k) (loopAt Tryz.f57 5) (ledger_Book_Entries.l5.i.put x) (headK ledger_Book_Entries.l5.i.un ledger_Book_Entries.l5.o.re) = ledger_Book_Entries.l5.once k x := by kernel_rfl
theorem ledger_Book_Entries.l5.sound (k : Nat) : LSound (ledger_Book_Entries.E k) Tryz.f57.ntmps Tryz.f57 (loopAt Tryz.f57 5) (ldn ledger_Book_Entries.l5.i ledger_Book_Entries.l5.o (iter (ledger_Book_Entries.l5.once k) k)) :=
  loopP (mkE_ok _ _ _ _ _ _ _ _ _ _ _ _) mixed rfl (by kernel_rfl) (allL_of (l := []) (by kernel_rfl) allL_nil) ledger_Book_Entries.l5.i ledger_Book_Entries.l5.o (ledger_Book_Entries.l5.once k) k (ledger_Book_Entries.l5.eq k)
theorem ledger_Book_Entries.eq (k : Nat) (x : Sledger_Book) : runF (ledger_Book_Entries.E k) (codeOf Tryz.f57) (ledger_Book_Entries.i.put x) ledger_Book_Entries.r.un = ledger_Book_Entries.f k (x) := by kernel_rfl
theorem ledger_Book_Entries.sound (k : Nat) : Sound Tryz.prog DD 57 (ledger_Book_Entries.D k) :=
  funP (E := ledger_Book_Entries.E k) (fn := Tryz.f57) (c := codeOf Tryz.f57) (mkE_ok _ _ _ _ _ _ _ _ _ _ _ _) mixed rfl Tryz.func57 (by kernel_rfl) (by kernel_rfl) (allL_of (l := [loopAt Tryz.f57 5]) (by kernel_rfl) (allL_cons (key := 5) (by kernel_rfl) rfl (ledger_Book_Entries.l5.sound k) allL_nil)) ledger_Book_Entries.i ledger_Book_Entries.r [0] false (fun x => ledger_Book_Entries.f k (x)) (fun h => by cases h) (by kernel_rfl) (ledger_Book_Entries.eq k)
noncomputable def ledger_Book_Entries.pk (k : Nat) : Pk Tryz.prog DD := ⟨57, ledger_Book_Entries.D k, ledger_Book_Entries.sound k, enter_of Tryz.func57 (by kernel_rfl) (by kernel_rfl)⟩
/-! ### pyx/period.is: function 113 -/
noncomputable def period_is.f (k : Nat) (a0 : Int) : Option Bool := cond (decide (a0 ≥ 0)) (some (decide (a0 < 12))) (some false)
noncomputable def period_is.i : Lay U Int := (pcOne 0 (tAt (vInt .i64))).lay (fun _ => by kernel_rfl)
noncomputable def period_is.r : Lay U Bool := (pcOne 0 (tAt vBool)).lay (fun _ => by kernel_rfl)
noncomputable def period_is.D (k : Nat) : FDen U := fdn period_is.i period_is.r Tryz.f113.ntmps [] true (fun x => period_is.f k (x)) (fun _ _ => rfl)
noncomputable def period_is.E (k : Nat) : Env U := mkE Tryz.f113 [] [] [] [] n0 n0 [] false n00 nl0 []
theorem period_is.eq (k : Nat) (x : Int) : runF (period_is.E k) (codeOf Tryz.f113) (period_is.i.put x) period_is.r.un = period_is.f k (x) := by kernel_rfl
theorem period_is.sound (k : Nat) : Sound Tryz.prog DD 113 (period_is.D k) :=
  funP (E := period_is.E k) (fn := Tryz.f113) (c := codeOf Tryz.f113) (mkE_ok _ _ _ _ _ _ _ _ _ _ _ _) mixed rfl Tryz.func113 (by kernel_rfl) (by kernel_rfl) (allL_of (l := []) (by kernel_rfl) allL_nil) period_is.i period_is.r [] true (fun x => period_is.f k (x)) (fun _ _ => rfl) (by kernel_rfl) (period_is.eq k)
noncomputable def period_is.pk (k : Nat) : Pk Tryz.prog DD := ⟨113, period_is.D k, period_is.sound k, enter_of Tryz.func113 (by kernel_rfl) (by kernel_rfl)⟩
/-! ### pyx/period.IsOpen: function 59 -/
noncomputable def period_IsOpen.f (k : Nat) (a0 : Speriod_Table) (a1 : Int) : Option Bool := (period_is.f k a1).bind fun t1 => (cond (t1) (cond (inb a1 12) (cond (Nat.blt (Int.toNat a1) 12) (some (!(List.getD (pack 12 false a0.f_Closed) (Int.toNat a1) false))) none) none) (some false))
noncomputable def period_IsOpen.i : Lay U (Speriod_Table × Int) := (pcAnd (pcOne 0 (tAt (vCd cd_Speriod_Table))) (pcOne 1 (tAt (vInt .i64)))).lay (fun _ => by kernel_rfl)
noncomputable def period_IsOpen.r : Lay U Bool := (pcOne 0 (tAt vBool)).lay (fun _ => by kernel_rfl)
noncomputable def period_IsOpen.D (k : Nat) : FDen U := fdn period_IsOpen.i period_IsOpen.r Tryz.f59.ntmps [] true (fun x => period_IsOpen.f k (x.1) (x.2)) (fun _ _ => rfl)
noncomputable def period_IsOpen.E (k : Nat) : Env U := mkE Tryz.f59 [period_is.pk k] [] [] [] (fun t => Nat.beq t 68) n0 [] false n00 nl0 []
theorem period_IsOpen.eq (k : Nat) (x : (Speriod_Table × Int)) : runF (period_IsOpen.E k) (codeOf Tryz.f59) (period_IsOpen.i.put x) period_IsOpen.r.un = period_IsOpen.f k (x.1) (x.2) := by kernel_rfl
theorem period_IsOpen.sound (k : Nat) : Sound Tryz.prog DD 59 (period_IsOpen.D k) :=
  funP (E := period_IsOpen.E k) (fn := Tryz.f59) (c := codeOf Tryz.f59) (mkE_ok _ _ _ _ _ _ _ _ _ _ _ _) mixed rfl Tryz.func59 (by kernel_rfl) (by kernel_rfl) (allL_of (l := []) (by kernel_rfl) allL_nil) period_IsOpen.i period_IsOpen.r [] true (fun x => period_IsOpen.f k (x.1) (x.2)) (fun _ _ => rfl) (by kernel_rfl) (period_IsOpen.eq k)
noncomputable def period_IsOpen.pk (k : Nat) : Pk Tryz.prog DD := ⟨59, period_IsOpen.D k, period_IsOpen.sound k, enter_of Tryz.func59 (by kernel_rfl) (by kernel_rfl)⟩
/-! ### pyx/chart.Kind: function 44 -/
noncomputable def chart_Kind.f (k : Nat) (a0 : Int) : Option Int := ((cond (decide (a0 < 0)) (some (a0, true)) (some (a0, decide (a0 ≥ 16)))) : Option (Int × Bool)).bind fun y3 => (cond (y3.2) (some 0) (cond (decide (y3.1 ≤ 3)) (some 1) (cond (decide (y3.1 ≤ 6)) (some 2) (cond (decide (y3.1 ≤ 8)) (some 3) (some 4)))))
noncomputable def chart_Kind.i : Lay U Int := (pcOne 0 (tAt (vInt .i64))).lay (fun _ => by kernel_rfl)
noncomputable def chart_Kind.r : Lay U Int := (pcOne 0 (tAt (vInt .i64))).lay (fun _ => by kernel_rfl)
noncomputable def chart_Kind.D (k : Nat) : FDen U := fdn chart_Kind.i chart_Kind.r Tryz.f44.ntmps [] true (fun x => chart_Kind.f k (x)) (fun _ _ => rfl)
noncomputable def chart_Kind.j1000 : Jk U := ⟨(Int × Bool), oNorm (lay [(0, sAt (vInt .i64)), (3, sAt vBool)] [] (fun _ => by kernel_rfl))⟩
noncomputable def chart_Kind.E (k : Nat) : Env U := mkE Tryz.f44 [] [(1000, chart_Kind.j1000)] [] [] n0 n0 [] false n00 nl0 []
theorem chart_Kind.eq (k : Nat) (x : Int) : runF (chart_Kind.E k) (codeOf Tryz.f44) (chart_Kind.i.put x) chart_Kind.r.un = chart_Kind.f k (x) := by kernel_rfl
theorem chart_Kind.sound (k : Nat) : Sound Tryz.prog DD 44 (chart_Kind.D k) :=
  funP (E := chart_Kind.E k) (fn := Tryz.f44) (c := codeOf Tryz.f44) (mkE_ok _ _ _ _ _ _ _ _ _ _ _ _) mixed rfl Tryz.func44 (by kernel_rfl) (by kernel_rfl) (allL_of (l := []) (by kernel_rfl) allL_nil) chart_Kind.i chart_Kind.r [] true (fun x => chart_Kind.f k (x)) (fun _ _ => rfl) (by kernel_rfl) (chart_Kind.eq k)
noncomputable def chart_Kind.pk (k : Nat) : Pk Tryz.prog DD := ⟨44, chart_Kind.D k, chart_Kind.sound k, enter_of Tryz.func44 (by kernel_rfl) (by kernel_rfl)⟩
/-! ### pyx/chart.Retained: function 33 -/
noncomputable def chart_Retained.f (k : Nat)  : Option Int := some 8
noncomputable def chart_Retained.i : Lay U Unit := (pcUnit).lay (fun _ => by kernel_rfl)
noncomputable def chart_Retained.r : Lay U Int := (pcOne 0 (tAt (vInt .i64))).lay (fun _ => by kernel_rfl)
noncomputable def chart_Retained.D (k : Nat) : FDen U := fdn chart_Retained.i chart_Retained.r Tryz.f33.ntmps [] true (fun x => chart_Retained.f k ) (fun _ _ => rfl)
noncomputable def chart_Retained.E (k : Nat) : Env U := mkE Tryz.f33 [] [] [] [] n0 n0 [] false n00 nl0 []
theorem chart_Retained.eq (k : Nat) (x : Unit) : runF (chart_Retained.E k) (codeOf Tryz.f33) (chart_Retained.i.put x) chart_Retained.r.un = chart_Retained.f k  := by kernel_rfl
theorem chart_Retained.sound (k : Nat) : Sound Tryz.prog DD 33 (chart_Retained.D k) :=
  funP (E := chart_Retained.E k) (fn := Tryz.f33) (c := codeOf Tryz.f33) (mkE_ok _ _ _ _ _ _ _ _ _ _ _ _) mixed rfl Tryz.func33 (by kernel_rfl) (by kernel_rfl) (allL_of (l := []) (by kernel_rfl) allL_nil) chart_Retained.i chart_Retained.r [] true (fun x => chart_Retained.f k ) (fun _ _ => rfl) (by kernel_rfl) (chart_Retained.eq k)
noncomputable def chart_Retained.pk (k : Nat) : Pk Tryz.prog DD := ⟨33, chart_Retained.D k, chart_Retained.sound k, enter_of Tryz.func33 (by kernel_rfl) (by kernel_rfl)⟩
/-! ### pyx/trial.key: function 58 -/
noncomputable def trial_key.f (k : Nat) (a0 : Sapi_Line) (a1 : Bool) : Option (Int × Int) := (((chart_Kind.f k a0.f_Acct).bind fun t1 => (cond (t1 == 4) (some (!a1, a0.f_Acct, a0.f_Amount.f_Neg, a0.f_Amount.f_C.1, a0.f_Amount.f_C.2, a0.f_Amount.f_Scale, a0.f_With, 0, 0)) (some (false, a0.f_Acct, a0.f_Amount.f_Neg, a0.f_Amount.f_C.1, a0.f_Amount.f_C.2, a0.f_Amount.f_Scale, a0.f_With, 0, 0)))) : Option (Bool × Int × Bool × Int × Int × Int × Int × Int × Int)).bind fun y11 => (cond (y11.1) ((chart_Retained.f k).bind fun t12 => (some (t12, 0))) (some (y11.2.1, IntKind.wrap .i64 (y11.2.2.2.2.2.2.1 + 1))))
noncomputable def trial_key.i : Lay U (Sapi_Line × Bool) := (pcAnd (pcOne 0 (tAt (vCd cd_Sapi_Line))) (pcOne 1 (tAt vBool))).lay (fun _ => by kernel_rfl)
noncomputable def trial_key.r : Lay U (Int × Int) := (pcOne 0 (tAt (vCd (Cd.pair (Cd.int .i64) (Cd.int .i64))))).lay (fun _ => by kernel_rfl)
noncomputable def trial_key.D (k : Nat) : FDen U := fdn trial_key.i trial_key.r Tryz.f58.ntmps [] true (fun x => trial_key.f k (x.1) (x.2)) (fun _ _ => rfl)
noncomputable def trial_key.j1000 : Jk U := ⟨(Bool × Int × Bool × Int × Int × Int × Int × Int × Int), oNorm (lay [(2, sPtr 2 0), (4, sPtr 4 0), (12, sAt vBool)] [bLit 2 [(vInt .i64), vBool, (vInt .u64), (vInt .u64), (vInt .i64), (vInt .i64)], bLit 4 [(vInt .i64), (vInt .i64)]] (fun _ => by kernel_rfl))⟩
noncomputable def trial_key.E (k : Nat) : Env U := mkE Tryz.f58 [chart_Kind.pk k, chart_Retained.pk k] [(1000, trial_key.j1000)] [] [] n0 n0 [] false n00 nl0 []
theorem trial_key.eq (k : Nat) (x : (Sapi_Line × Bool)) : runF (trial_key.E k) (codeOf Tryz.f58) (trial_key.i.put x) trial_key.r.un = trial_key.f k (x.1) (x.2) := by kernel_rfl
theorem trial_key.sound (k : Nat) : Sound Tryz.prog DD 58 (trial_key.D k) :=
  funP (E := trial_key.E k) (fn := Tryz.f58) (c := codeOf Tryz.f58) (mkE_ok _ _ _ _ _ _ _ _ _ _ _ _) mixed rfl Tryz.func58 (by kernel_rfl) (by kernel_rfl) (allL_of (l := []) (by kernel_rfl) allL_nil) trial_key.i trial_key.r [] true (fun x => trial_key.f k (x.1) (x.2)) (fun _ _ => rfl) (by kernel_rfl) (trial_key.eq k)
noncomputable def trial_key.pk (k : Nat) : Pk Tryz.prog DD := ⟨58, trial_key.D k, trial_key.sound k, enter_of Tryz.func58 (by kernel_rfl) (by kernel_rfl)⟩
/-! ### (*pyx/ledger.Book).Scale: function 61 -/
noncomputable def ledger_Book_Scale.f (k : Nat) (a0 : Sledger_Book) : Option (Int × Sledger_Book) := some (a0.f_scale, (⟨a0.f_scale, a0.f_l, (⟨pack 12 false a0.f_t.f_Closed, pack 12 0 a0.f_t.f_Version⟩ : Speriod_Table)⟩ : Sledger_Book))
noncomputable def ledger_Book_Scale.i : Lay U Sledger_Book := (pcGh 1000000000000000 7000000000000 (pcOne 0 (io_Sledger_Book_rt 7000000000000 7000000000000))).lay (fun _ => by kernel_rfl)
noncomputable def ledger_Book_Scale.r : Lay U (Int × Sledger_Book) := (pcAnd (pcOne 0 (tAt (vInt .i64))) (pcOne 1000000000000000 (io_Sledger_Book_rt 7000000000000 7000000000000))).lay (fun _ => by kernel_rfl)
noncomputable def ledger_Book_Scale.D (k : Nat) : FDen U := fdn ledger_Book_Scale.i ledger_Book_Scale.r Tryz.f61.ntmps [0] false (fun x => ledger_Book_Scale.f k (x)) (fun h => by cases h)
noncomputable def ledger_Book_Scale.E (k : Nat) : Env U := mkE Tryz.f61 [] [] [] [] n0 n0 [0] false n00 nl0 []
theorem ledger_Book_Scale.eq (k : Nat) (x : Sledger_Book) : runF (ledger_Book_Scale.E k) (codeOf Tryz.f61) (ledger_Book_Scale.i.put x) ledger_Book_Scale.r.un = ledger_Book_Scale.f k (x) := by kernel_rfl
theorem ledger_Book_Scale.sound (k : Nat) : Sound Tryz.prog DD 61 (ledger_Book_Scale.D k) :=
  funP (E := ledger_Book_Scale.E k) (fn := Tryz.f61) (c := codeOf Tryz.f61) (mkE_ok _ _ _ _ _ _ _ _ _ _ _ _) mixed rfl Tryz.func61 (by kernel_rfl) (by kernel_rfl) (allL_of (l := []) (by kernel_rfl) allL_nil) ledger_Book_Scale.i ledger_Book_Scale.r [0] false (fun x => ledger_Book_Scale.f k (x)) (fun h => by cases h) (by kernel_rfl) (ledger_Book_Scale.eq k)
noncomputable def ledger_Book_Scale.pk (k : Nat) : Pk Tryz.prog DD := ⟨61, ledger_Book_Scale.D k, ledger_Book_Scale.sound k, enter_of Tryz.func61 (by kernel_rfl) (by kernel_rfl)⟩
end
end Go.Proofs.YtbchcjlllddlpaaGreat
