import Derived.Test.YthknecaigoilmaaU
/-! Functions, told; their equations with the evaluator; that they are sound. Written by gen.py. -/
namespace Go.Proofs.Ythknecaigoilmaa
open Go Go.Ev
noncomputable section
set_option linter.unusedVariables false
set_option linter.unusedSimpArgs false
set_option maxRecDepth 100000
/-! ### pyx/pyxhand.at: function 75 -/
noncomputable def pyxhand_at.f (k : Nat) (a0 : List Int) (a1 : Int) : Option Int := cond ((List.length a0 : Int) == 0) (some a1) (cond ((List.length a0 : Int) == 0) none (cond (inb (Int.tmod a1 (List.length a0 : Int)) (List.length a0)) (cond ((List.length a0 : Int) == 0) none (cond (IntKind.wrap .i64 (1 + (IntKind.wrap .i64 (Int.tdiv a1 (List.length a0 : Int)))) == 0) none (some (IntKind.wrap .i64 ((IntKind.wrap .i64 (Int.tdiv (List.getD a0 (Int.toNat (Int.tmod a1 (List.length a0 : Int))) 0) (IntKind.wrap .i64 (1 + (IntKind.wrap .i64 (Int.tdiv a1 (List.length a0 : Int))))))) + a1))))) none))
noncomputable def pyxhand_at.un (s : St U) : Option (List Int × Int) := match s.get 0, s.get 1 with | .row C.i64 x1, .flat (.int .i64 x2) => some (x1, x2) | _, _ => none
noncomputable def pyxhand_at.mk (x : (List Int × Int)) : St U := ⟨[(0, .row C.i64 x.1), (1, .flat (.int .i64 x.2))], []⟩
noncomputable def pyxhand_at.fin (y : Int) : St U := ⟨[(0, .flat (.int .i64 y))], []⟩
noncomputable def pyxhand_at.D (k : Nat) : FDen U := { X := (List Int × Int), Y := Int, nt := 24, gh := [], un := pyxhand_at.un, f := fun x => pyxhand_at.f k (x.1) (x.2), fin := pyxhand_at.fin, cl := true, clo := fun _ _ => rfl }
noncomputable def pyxhand_at.re (s : St U) : Option Int := match s.get 0 with | .flat (.int .i64 x1) => some x1 | _ => none
noncomputable def pyxhand_at.jl : List (Nat × JDen U) := []
noncomputable def pyxhand_at.fl (k : Nat) : List (Nat × FDen U) := []
noncomputable def pyxhand_at.ll (k : Nat) : List (Nat × LDen U) := []
noncomputable def pyxhand_at.E (k : Nat) : Env U := { P := Try.prog, D := DD, fd := lk (pyxhand_at.fl k), ld := lk (pyxhand_at.ll k), jd := lk pyxhand_at.jl, mode := lk [], elc := lk ec, mpc := lk mc, rts := Try.f75.resultTypes.toList, dyn := fun t => false, vecs := fun d => false, results := Try.f75.results.toList, gh := [], own := false, io := fun g i => false }
theorem pyxhand_at.ok (k : Nat) : EnvOk (pyxhand_at.E k) := envOk lawful (pyxhand_at.fl k) (pyxhand_at.ll k) pyxhand_at.jl _ _ _ _ _ _ _ _ _ _ (by
  intro p hp
  simp [pyxhand_at.fl] at hp) (by
  intro p hp
  simp [pyxhand_at.jl] at hp)
theorem pyxhand_at.eq (k : Nat) (x : (List Int × Int)) : runF (pyxhand_at.E k) (codeOf Try.f75) (pyxhand_at.mk x) pyxhand_at.re = (pyxhand_at.D k).f x := by kernel_rfl
theorem pyxhand_at.fit (s : St U) (x : (List Int × Int)) (h : pyxhand_at.un s = some x) : Fits s (pyxhand_at.mk x) := by
  unfold pyxhand_at.un at h
  split at h
  · cases h
    refine fits_ren [] ?_ ?_ ren_nil rfl
    · exact List.forall_mem_cons.2 ⟨FV.one (FV.same (by assumption) rfl), List.forall_mem_cons.2 ⟨FV.one (FV.same (by assumption) rfl), fun _ hp => (List.not_mem_nil hp).elim⟩⟩
    · exact fun _ hp => (List.not_mem_nil hp).elim
  · cases h
theorem pyxhand_at.fitR (s : St U) (y : Int) (h : pyxhand_at.re s = some y) : Fits s (pyxhand_at.fin y) := by
  unfold pyxhand_at.re at h
  split at h
  · cases h
    refine fits_ren [] ?_ ?_ ren_nil rfl
    · exact List.forall_mem_cons.2 ⟨FV.one (FV.same (by assumption) rfl), fun _ hp => (List.not_mem_nil hp).elim⟩
    · exact fun _ hp => (List.not_mem_nil hp).elim
  · cases h
theorem pyxhand_at.sound (k : Nat) : Sound Try.prog DD 75 (pyxhand_at.D k) :=
  fun_sound (E := pyxhand_at.E k) (fn := Try.f75) (c := codeOf Try.f75) (pyxhand_at.ok k) mixed rfl Try.func75 (by kernel_rfl) (by kernel_rfl) (allL_of (l := []) (by kernel_rfl) allL_nil) (pyxhand_at.D k) pyxhand_at.mk pyxhand_at.re (by kernel_rfl) (by kernel_rfl) pyxhand_at.fit pyxhand_at.fitR (pyxhand_at.eq k)
/-! ### pyx/pyxhand.Pick: function 21 -/
noncomputable def pyxhand_Pick.f (k : Nat) (a0 : Int) (a1 : Int) : Option Int := cond (a1 == 0) none (cond (decide ((Int.tmod a0 a1) < 0)) (some (IntKind.wrap .i64 ((Int.tmod a0 a1) + a1))) (some (Int.tmod a0 a1)))
noncomputable def pyxhand_Pick.un (s : St U) : Option (Int × Int) := match s.get 0, s.get 1 with | .flat (.int .i64 x1), .flat (.int .i64 x2) => some (x1, x2) | _, _ => none
noncomputable def pyxhand_Pick.mk (x : (Int × Int)) : St U := ⟨[(0, .flat (.int .i64 x.1)), (1, .flat (.int .i64 x.2))], []⟩
noncomputable def pyxhand_Pick.fin (y : Int) : St U := ⟨[(0, .flat (.int .i64 y))], []⟩
noncomputable def pyxhand_Pick.D (k : Nat) : FDen U := { X := (Int × Int), Y := Int, nt := 14, gh := [], un := pyxhand_Pick.un, f := fun x => pyxhand_Pick.f k (x.1) (x.2), fin := pyxhand_Pick.fin, cl := true, clo := fun _ _ => rfl }
noncomputable def pyxhand_Pick.re (s : St U) : Option Int := match s.get 0 with | .flat (.int .i64 x1) => some x1 | _ => none
noncomputable def pyxhand_Pick.jl : List (Nat × JDen U) := []
noncomputable def pyxhand_Pick.fl (k : Nat) : List (Nat × FDen U) := []
noncomputable def pyxhand_Pick.ll (k : Nat) : List (Nat × LDen U) := []
noncomputable def pyxhand_Pick.E (k : Nat) : Env U := { P := Try.prog, D := DD, fd := lk (pyxhand_Pick.fl k), ld := lk (pyxhand_Pick.ll k), jd := lk pyxhand_Pick.jl, mode := lk [], elc := lk ec, mpc := lk mc, rts := Try.f21.resultTypes.toList, dyn := fun t => false, vecs := fun d => false, results := Try.f21.results.toList, gh := [], own := false, io := fun g i => false }
theorem pyxhand_Pick.ok (k : Nat) : EnvOk (pyxhand_Pick.E k) := envOk lawful (pyxhand_Pick.fl k) (pyxhand_Pick.ll k) pyxhand_Pick.jl _ _ _ _ _ _ _ _ _ _ (by
  intro p hp
  simp [pyxhand_Pick.fl] at hp) (by
  intro p hp
  simp [pyxhand_Pick.jl] at hp)
theorem pyxhand_Pick.eq (k : Nat) (x : (Int × Int)) : runF (pyxhand_Pick.E k) (codeOf Try.f21) (pyxhand_Pick.mk x) pyxhand_Pick.re = (pyxhand_Pick.D k).f x := by kernel_rfl
theorem pyxhand_Pick.fit (s : St U) (x : (Int × Int)) (h : pyxhand_Pick.un s = some x) : Fits s (pyxhand_Pick.mk x) := by
  unfold pyxhand_Pick.un at h
  split at h
  · cases h
    refine fits_ren [] ?_ ?_ ren_nil rfl
    · exact List.forall_mem_cons.2 ⟨FV.one (FV.same (by assumption) rfl), List.forall_mem_cons.2 ⟨FV.one (FV.same (by assumption) rfl), fun _ hp => (List.not_mem_nil hp).elim⟩⟩
    · exact fun _ hp => (List.not_mem_nil hp).elim
  · cases h
theorem pyxhand_Pick.fitR (s : St U) (y : Int) (h : pyxhand_Pick.re s = some y) : Fits s (pyxhand_Pick.fin y) := by
  unfold pyxhand_Pick.re at h
  split at h
  · cases h
    refine fits_ren [] ?_ ?_ ren_nil rfl
    · exact List.forall_mem_cons.2 ⟨FV.one (FV.same (by assumption) rfl), fun _ hp => (List.not_mem_nil hp).elim⟩
    · exact fun _ hp => (List.not_mem_nil hp).elim
  · cases h
theorem pyxhand_Pick.sound (k : Nat) : Sound Try.prog DD 21 (pyxhand_Pick.D k) :=
  fun_sound (E := pyxhand_Pick.E k) (fn := Try.f21) (c := codeOf Try.f21) (pyxhand_Pick.ok k) mixed rfl Try.func21 (by kernel_rfl) (by kernel_rfl) (allL_of (l := []) (by kernel_rfl) allL_nil) (pyxhand_Pick.D k) pyxhand_Pick.mk pyxhand_Pick.re (by kernel_rfl) (by kernel_rfl) pyxhand_Pick.fit pyxhand_Pick.fitR (pyxhand_Pick.eq k)
/-! ### pyx/pyxref1.Word: function 67 -/
noncomputable def pyxref1_Word.l2.once (k : Nat) (x : (Int × List Int)) : Option ((Int × List Int) ⊕ (List Int)) := match x with | (x1, x2) => cond (decide (x1 > 0)) (cond (okLen (List.length x2 + List.length [IntKind.wrap .i64 (Int.tmod x1 10)]) 8) (some (.inl (IntKind.wrap .u64 (Int.tdiv x1 10), x2 ++ [IntKind.wrap .i64 (Int.tmod x1 10)]))) none) (some (.inr x2))
noncomputable def pyxref1_Word.f (k : Nat) (a0 : Int) : Option (List Int) := (iter (pyxref1_Word.l2.once k) k (a0, ([] : List Int))).bind fun y4 => (some y4)
noncomputable def pyxref1_Word.un (s : St U) : Option Int := match s.get 0 with | .flat (.int .u64 x1) => some x1 | _ => none
noncomputable def pyxref1_Word.mk (x : Int) : St U := ⟨[(0, .flat (.int .u64 x))], []⟩
noncomputable def pyxref1_Word.fin (y : List Int) : St U := ⟨[(0, .row C.i64 y)], []⟩
noncomputable def pyxref1_Word.D (k : Nat) : FDen U := { X := Int, Y := List Int, nt := 15, gh := [], un := pyxref1_Word.un, f := fun x => pyxref1_Word.f k (x), fin := pyxref1_Word.fin, cl := true, clo := fun _ _ => rfl }
noncomputable def pyxref1_Word.re (s : St U) : Option (List Int) := match s.get 0 with | .row C.i64 x1 => some x1 | _ => none
noncomputable def pyxref1_Word.l2.mk (x : (Int × List Int)) : St U := match x with | (x1, x2) => ⟨[(0, .flat (.int .u64 x1)), (3, .tip 1002003 C.i64 x2)], [(1002003, .tip 1)]⟩
noncomputable def pyxref1_Word.l2.un (s : St U) : Option (Int × List Int) := (tip_i64 s.o 1 (s.get 3)).bind fun q0 => (match s.get 0 with | .flat (.int .u64 x1) => some (x1, q0.2) | _ => none)
noncomputable def pyxref1_Word.l2.fin (y : List Int) : Out U := match y with | x3 => .exit 0 ⟨[(3, .tip 1002003 C.i64 x3)], [(1002003, .tip 1)]⟩
noncomputable def pyxref1_Word.l2.finK {ρ : Type} (y : List Int) (K : Out U → Option ρ) : Option ρ := match y with | x3 => K (.exit 0 ⟨[(3, .tip 1002003 C.i64 x3)], [(1002003, .tip 1)]⟩)
theorem pyxref1_Word.l2.finK_eq {ρ : Type} (y : List Int) (K : Out U → Option ρ) : pyxref1_Word.l2.finK y K = K (pyxref1_Word.l2.fin y) := by
  unfold pyxref1_Word.l2.finK pyxref1_Word.l2.fin
  first | rfl | (split <;> rfl)
noncomputable def pyxref1_Word.l2.re : Out U → Option (List Int) | .exit 0 s => ((tip_i64 s.o 1 (s.get 3)).bind fun q0 => (some q0.2)) | _ => none
noncomputable def pyxref1_Word.l2.L (k : Nat) : LDen U := { X := (Int × List Int), Y := List Int, un := pyxref1_Word.l2.un, f := iter (pyxref1_Word.l2.once k) k, fin := pyxref1_Word.l2.fin, finK := pyxref1_Word.l2.finK, finK_eq := pyxref1_Word.l2.finK_eq }
noncomputable def pyxref1_Word.jl : List (Nat × JDen U) := []
noncomputable def pyxref1_Word.fl (k : Nat) : List (Nat × FDen U) := []
noncomputable def pyxref1_Word.ll (k : Nat) : List (Nat × LDen U) := [(2, pyxref1_Word.l2.L k)]
noncomputable def pyxref1_Word.E (k : Nat) : Env U := { P := Try.prog, D := DD, fd := lk (pyxref1_Word.fl k), ld := lk (pyxref1_Word.ll k), jd := lk pyxref1_Word.jl, mode := lk [], elc := lk ec, mpc := lk mc, rts := Try.f67.resultTypes.toList, dyn := fun t => false, vecs := fun d => false, results := Try.f67.results.toList, gh := [], own := false, io := fun g i => false }
theorem pyxref1_Word.ok (k : Nat) : EnvOk (pyxref1_Word.E k) := envOk lawful (pyxref1_Word.fl k) (pyxref1_Word.ll k) pyxref1_Word.jl _ _ _ _ _ _ _ _ _ _ (by
  intro p hp
  simp [pyxref1_Word.fl] at hp) (by
  intro p hp
  simp [pyxref1_Word.jl] at hp)
theorem pyxref1_Word.l2.eq (k : Nat) (x : (Int × List Int)) : evC (pyxref1_Word.E k) (loopAt Try.f67 2) (pyxref1_Word.l2.mk x) (headK pyxref1_Word.l2.un pyxref1_Word.l2.re) = pyxref1_Word.l2.once k x := by kernel_rfl
theorem pyxref1_Word.l2.fit (s : St U) (x : (Int × List Int)) (h : pyxref1_Word.l2.un s = some x) : Fits s (pyxref1_Word.l2.mk x) := by
  unfold pyxref1_Word.l2.un at h
  obtain ⟨q0, eq0, h1⟩ := Option.bind_eq_some_iff.1 h
  split at h1
  · cases h1
    refine fits_ren [(1002003, q0.1)] ?_ ?_ ren_one rfl
    · exact List.forall_mem_cons.2 ⟨FV.one (FV.same (by assumption) rfl), List.forall_mem_cons.2 ⟨FV.one (tip_i64_fit eq0 rfl).1, fun _ hp => (List.not_mem_nil hp).elim⟩⟩
    · exact List.forall_mem_cons.2 ⟨(tip_i64_fit eq0 rfl).2, fun _ hp => (List.not_mem_nil hp).elim⟩
  · cases h1
theorem pyxref1_Word.l2.fitO (o : Out U) (y : List Int) (h : pyxref1_Word.l2.re o = some y) : FitsO o (pyxref1_Word.l2.fin y) := by
  unfold pyxref1_Word.l2.re at h
  split at h
  · obtain ⟨q0, eq0, h1⟩ := Option.bind_eq_some_iff.1 h
    cases h1
    refine fitsO_exit (fits_ren [(1002003, q0.1)] ?_ ?_ ren_one rfl)
    · exact List.forall_mem_cons.2 ⟨FV.one (tip_i64_fit eq0 rfl).1, fun _ hp => (List.not_mem_nil hp).elim⟩
    · exact List.forall_mem_cons.2 ⟨(tip_i64_fit eq0 rfl).2, fun _ hp => (List.not_mem_nil hp).elim⟩
  · cases h
theorem pyxref1_Word.l2.sound (k : Nat) : LSound (pyxref1_Word.E k) Try.f67.ntmps Try.f67 (loopAt Try.f67 2) (pyxref1_Word.l2.L k) :=
  loop_sound (pyxref1_Word.ok k) mixed rfl (by kernel_rfl) (allL_of (l := []) (by kernel_rfl) allL_nil) pyxref1_Word.l2.un pyxref1_Word.l2.mk pyxref1_Word.l2.fin pyxref1_Word.l2.re (pyxref1_Word.l2.once k) k pyxref1_Word.l2.fit pyxref1_Word.l2.fitO (pyxref1_Word.l2.eq k) pyxref1_Word.l2.finK pyxref1_Word.l2.finK_eq
theorem pyxref1_Word.eq (k : Nat) (x : Int) : runF (pyxref1_Word.E k) (codeOf Try.f67) (pyxref1_Word.mk x) pyxref1_Word.re = (pyxref1_Word.D k).f x := by kernel_rfl
theorem pyxref1_Word.fit (s : St U) (x : Int) (h : pyxref1_Word.un s = some x) : Fits s (pyxref1_Word.mk x) := by
  unfold pyxref1_Word.un at h
  split at h
  · cases h
    refine fits_ren [] ?_ ?_ ren_nil rfl
    · exact List.forall_mem_cons.2 ⟨FV.one (FV.same (by assumption) rfl), fun _ hp => (List.not_mem_nil hp).elim⟩
    · exact fun _ hp => (List.not_mem_nil hp).elim
  · cases h
theorem pyxref1_Word.fitR (s : St U) (y : List Int) (h : pyxref1_Word.re s = some y) : Fits s (pyxref1_Word.fin y) := by
  unfold pyxref1_Word.re at h
  split at h
  · cases h
    refine fits_ren [] ?_ ?_ ren_nil rfl
    · exact List.forall_mem_cons.2 ⟨FV.one (FV.same (by assumption) rfl), fun _ hp => (List.not_mem_nil hp).elim⟩
    · exact fun _ hp => (List.not_mem_nil hp).elim
  · cases h
theorem pyxref1_Word.sound (k : Nat) : Sound Try.prog DD 67 (pyxref1_Word.D k) :=
  fun_sound (E := pyxref1_Word.E k) (fn := Try.f67) (c := codeOf Try.f67) (pyxref1_Word.ok k) mixed rfl Try.func67 (by kernel_rfl) (by kernel_rfl) (allL_of (l := [loopAt Try.f67 2]) (by kernel_rfl) (allL_cons (key := 2) (by kernel_rfl) rfl (pyxref1_Word.l2.sound k) allL_nil)) (pyxref1_Word.D k) pyxref1_Word.mk pyxref1_Word.re (by kernel_rfl) (by kernel_rfl) pyxref1_Word.fit pyxref1_Word.fitR (pyxref1_Word.eq k)
/-! ### pyx/pyxref1.Within: function 74 -/
noncomputable def pyxref1_Within.f (k : Nat) (a0 : Int) (a1 : Int) (a2 : Int) : Option Int := some (if (if a0 < a2 then a0 else a2) > a1 then (if a0 < a2 then a0 else a2) else a1)
noncomputable def pyxref1_Within.un (s : St U) : Option (Int × Int × Int) := match s.get 0, s.get 1, s.get 2 with | .flat (.int .i64 x1), .flat (.int .i64 x2), .flat (.int .i64 x3) => some (x1, x2, x3) | _, _, _ => none
noncomputable def pyxref1_Within.mk (x : (Int × Int × Int)) : St U := ⟨[(0, .flat (.int .i64 x.1)), (1, .flat (.int .i64 x.2.1)), (2, .flat (.int .i64 x.2.2))], []⟩
noncomputable def pyxref1_Within.fin (y : Int) : St U := ⟨[(0, .flat (.int .i64 y))], []⟩
noncomputable def pyxref1_Within.D (k : Nat) : FDen U := { X := (Int × Int × Int), Y := Int, nt := 12, gh := [], un := pyxref1_Within.un, f := fun x => pyxref1_Within.f k (x.1) (x.2.1) (x.2.2), fin := pyxref1_Within.fin, cl := true, clo := fun _ _ => rfl }
noncomputable def pyxref1_Within.re (s : St U) : Option Int := match s.get 0 with | .flat (.int .i64 x1) => some x1 | _ => none
noncomputable def pyxref1_Within.jl : List (Nat × JDen U) := []
noncomputable def pyxref1_Within.fl (k : Nat) : List (Nat × FDen U) := []
noncomputable def pyxref1_Within.ll (k : Nat) : List (Nat × LDen U) := []
noncomputable def pyxref1_Within.E (k : Nat) : Env U := { P := Try.prog, D := DD, fd := lk (pyxref1_Within.fl k), ld := lk (pyxref1_Within.ll k), jd := lk pyxref1_Within.jl, mode := lk [], elc := lk ec, mpc := lk mc, rts := Try.f74.resultTypes.toList, dyn := fun t => false, vecs := fun d => false, results := Try.f74.results.toList, gh := [], own := false, io := fun g i => false }
theorem pyxref1_Within.ok (k : Nat) : EnvOk (pyxref1_Within.E k) := envOk lawful (pyxref1_Within.fl k) (pyxref1_Within.ll k) pyxref1_Within.jl _ _ _ _ _ _ _ _ _ _ (by
  intro p hp
  simp [pyxref1_Within.fl] at hp) (by
  intro p hp
  simp [pyxref1_Within.jl] at hp)
theorem pyxref1_Within.eq (k : Nat) (x : (Int × Int × Int)) : runF (pyxref1_Within.E k) (codeOf Try.f74) (pyxref1_Within.mk x) pyxref1_Within.re = (pyxref1_Within.D k).f x := by kernel_rfl
theorem pyxref1_Within.fit (s : St U) (x : (Int × Int × Int)) (h : pyxref1_Within.un s = some x) : Fits s (pyxref1_Within.mk x) := by
  unfold pyxref1_Within.un at h
  split at h
  · cases h
    refine fits_ren [] ?_ ?_ ren_nil rfl
    · exact List.forall_mem_cons.2 ⟨FV.one (FV.same (by assumption) rfl), List.forall_mem_cons.2 ⟨FV.one (FV.same (by assumption) rfl), List.forall_mem_cons.2 ⟨FV.one (FV.same (by assumption) rfl), fun _ hp => (List.not_mem_nil hp).elim⟩⟩⟩
    · exact fun _ hp => (List.not_mem_nil hp).elim
  · cases h
theorem pyxref1_Within.fitR (s : St U) (y : Int) (h : pyxref1_Within.re s = some y) : Fits s (pyxref1_Within.fin y) := by
  unfold pyxref1_Within.re at h
  split at h
  · cases h
    refine fits_ren [] ?_ ?_ ren_nil rfl
    · exact List.forall_mem_cons.2 ⟨FV.one (FV.same (by assumption) rfl), fun _ hp => (List.not_mem_nil hp).elim⟩
    · exact fun _ hp => (List.not_mem_nil hp).elim
  · cases h
theorem pyxref1_Within.sound (k : Nat) : Sound Try.prog DD 74 (pyxref1_Within.D k) :=
  fun_sound (E := pyxref1_Within.E k) (fn := Try.f74) (c := codeOf Try.f74) (pyxref1_Within.ok k) mixed rfl Try.func74 (by kernel_rfl) (by kernel_rfl) (allL_of (l := []) (by kernel_rfl) allL_nil) (pyxref1_Within.D k) pyxref1_Within.mk pyxref1_Within.re (by kernel_rfl) (by kernel_rfl) pyxref1_Within.fit pyxref1_Within.fitR (pyxref1_Within.eq k)
/-! ### pyx/pyxref1.digit: function 70 -/
noncomputable def pyxref1_digit.f (k : Nat) (a0 : List Int) (a1 : Int) : Option Int := cond (decide (a1 < (List.length a0 : Int))) (cond (inb a1 (List.length a0)) (some (List.getD a0 (Int.toNat a1) 0)) none) (some 0)
noncomputable def pyxref1_digit.un (s : St U) : Option (List Int × Int) := match s.get 0, s.get 1 with | .row C.i64 x1, .flat (.int .i64 x2) => some (x1, x2) | _, _ => none
noncomputable def pyxref1_digit.mk (x : (List Int × Int)) : St U := ⟨[(0, .row C.i64 x.1), (1, .flat (.int .i64 x.2))], []⟩
noncomputable def pyxref1_digit.fin (y : Int) : St U := ⟨[(0, .flat (.int .i64 y))], []⟩
noncomputable def pyxref1_digit.D (k : Nat) : FDen U := { X := (List Int × Int), Y := Int, nt := 13, gh := [], un := pyxref1_digit.un, f := fun x => pyxref1_digit.f k (x.1) (x.2), fin := pyxref1_digit.fin, cl := true, clo := fun _ _ => rfl }
noncomputable def pyxref1_digit.re (s : St U) : Option Int := match s.get 0 with | .flat (.int .i64 x1) => some x1 | _ => none
noncomputable def pyxref1_digit.jl : List (Nat × JDen U) := []
noncomputable def pyxref1_digit.fl (k : Nat) : List (Nat × FDen U) := []
noncomputable def pyxref1_digit.ll (k : Nat) : List (Nat × LDen U) := []
noncomputable def pyxref1_digit.E (k : Nat) : Env U := { P := Try.prog, D := DD, fd := lk (pyxref1_digit.fl k), ld := lk (pyxref1_digit.ll k), jd := lk pyxref1_digit.jl, mode := lk [], elc := lk ec, mpc := lk mc, rts := Try.f70.resultTypes.toList, dyn := fun t => false, vecs := fun d => false, results := Try.f70.results.toList, gh := [], own := false, io := fun g i => false }
theorem pyxref1_digit.ok (k : Nat) : EnvOk (pyxref1_digit.E k) := envOk lawful (pyxref1_digit.fl k) (pyxref1_digit.ll k) pyxref1_digit.jl _ _ _ _ _ _ _ _ _ _ (by
  intro p hp
  simp [pyxref1_digit.fl] at hp) (by
  intro p hp
  simp [pyxref1_digit.jl] at hp)
theorem pyxref1_digit.eq (k : Nat) (x : (List Int × Int)) : runF (pyxref1_digit.E k) (codeOf Try.f70) (pyxref1_digit.mk x) pyxref1_digit.re = (pyxref1_digit.D k).f x := by kernel_rfl
theorem pyxref1_digit.fit (s : St U) (x : (List Int × Int)) (h : pyxref1_digit.un s = some x) : Fits s (pyxref1_digit.mk x) := by
  unfold pyxref1_digit.un at h
  split at h
  · cases h
    refine fits_ren [] ?_ ?_ ren_nil rfl
    · exact List.forall_mem_cons.2 ⟨FV.one (FV.same (by assumption) rfl), List.forall_mem_cons.2 ⟨FV.one (FV.same (by assumption) rfl), fun _ hp => (List.not_mem_nil hp).elim⟩⟩
    · exact fun _ hp => (List.not_mem_nil hp).elim
  · cases h
theorem pyxref1_digit.fitR (s : St U) (y : Int) (h : pyxref1_digit.re s = some y) : Fits s (pyxref1_digit.fin y) := by
  unfold pyxref1_digit.re at h
  split at h
  · cases h
    refine fits_ren [] ?_ ?_ ren_nil rfl
    · exact List.forall_mem_cons.2 ⟨FV.one (FV.same (by assumption) rfl), fun _ hp => (List.not_mem_nil hp).elim⟩
    · exact fun _ hp => (List.not_mem_nil hp).elim
  · cases h
theorem pyxref1_digit.sound (k : Nat) : Sound Try.prog DD 70 (pyxref1_digit.D k) :=
  fun_sound (E := pyxref1_digit.E k) (fn := Try.f70) (c := codeOf Try.f70) (pyxref1_digit.ok k) mixed rfl Try.func70 (by kernel_rfl) (by kernel_rfl) (allL_of (l := []) (by kernel_rfl) allL_nil) (pyxref1_digit.D k) pyxref1_digit.mk pyxref1_digit.re (by kernel_rfl) (by kernel_rfl) pyxref1_digit.fit pyxref1_digit.fitR (pyxref1_digit.eq k)
/-! ### pyx/pyxref1.trim: function 71 -/
noncomputable def pyxref1_trim.l1.once (k : Nat) (x : List Int) : Option ((List Int) ⊕ (List Int)) := match x with | x1 => ((cond (decide ((List.length x1 : Int) > 0)) (cond (inb (IntKind.wrap .i64 ((List.length x1 : Int) - 1)) (List.length x1)) (some (x1, (List.getD x1 (Int.toNat (IntKind.wrap .i64 ((List.length x1 : Int) - 1))) 0) == 0)) none) (some (x1, false))) : Option (List Int × Bool)).bind fun y4 => (cond (y4.2) (cond (inS 0 (IntKind.wrap .i64 ((List.length y4.1 : Int) - 1)) (List.length y4.1)) (some (.inl (List.take (Int.toNat (IntKind.wrap .i64 ((List.length y4.1 : Int) - 1))) y4.1))) none) (some (.inr y4.1)))
noncomputable def pyxref1_trim.f (k : Nat) (a0 : List Int) : Option (List Int) := (iter (pyxref1_trim.l1.once k) k a0).bind fun y6 => (some y6)
noncomputable def pyxref1_trim.un (s : St U) : Option (List Int) := match s.get 0 with | .row C.i64 x1 => some x1 | _ => none
noncomputable def pyxref1_trim.mk (x : List Int) : St U := ⟨[(0, .row C.i64 x)], []⟩
noncomputable def pyxref1_trim.fin (y : List Int) : St U := ⟨[(0, .row C.i64 y)], []⟩
noncomputable def pyxref1_trim.D (k : Nat) : FDen U := { X := List Int, Y := List Int, nt := 21, gh := [], un := pyxref1_trim.un, f := fun x => pyxref1_trim.f k (x), fin := pyxref1_trim.fin, cl := true, clo := fun _ _ => rfl }
noncomputable def pyxref1_trim.re (s : St U) : Option (List Int) := match s.get 0 with | .row C.i64 x1 => some x1 | _ => none
noncomputable def pyxref1_trim.l1.mk (x : List Int) : St U := match x with | x1 => ⟨[(0, .row C.i64 x1)], []⟩
noncomputable def pyxref1_trim.l1.un (s : St U) : Option (List Int) := (row_i64 (s.get 0)).bind fun q0 => (some q0)
noncomputable def pyxref1_trim.l1.fin (y : List Int) : Out U := match y with | x5 => .exit 0 ⟨[(0, .row C.i64 x5)], []⟩
noncomputable def pyxref1_trim.l1.finK {ρ : Type} (y : List Int) (K : Out U → Option ρ) : Option ρ := match y with | x5 => K (.exit 0 ⟨[(0, .row C.i64 x5)], []⟩)
theorem pyxref1_trim.l1.finK_eq {ρ : Type} (y : List Int) (K : Out U → Option ρ) : pyxref1_trim.l1.finK y K = K (pyxref1_trim.l1.fin y) := by
  unfold pyxref1_trim.l1.finK pyxref1_trim.l1.fin
  first | rfl | (split <;> rfl)
noncomputable def pyxref1_trim.l1.re : Out U → Option (List Int) | .exit 0 s => ((row_i64 (s.get 0)).bind fun q0 => (some q0)) | _ => none
noncomputable def pyxref1_trim.l1.L (k : Nat) : LDen U := { X := List Int, Y := List Int, un := pyxref1_trim.l1.un, f := iter (pyxref1_trim.l1.once k) k, fin := pyxref1_trim.l1.fin, finK := pyxref1_trim.l1.finK, finK_eq := pyxref1_trim.l1.finK_eq }
noncomputable def pyxref1_trim.j1000.fin (y : (List Int × Bool)) : Out U := match y with | (x2, x3) => .norm ⟨[(0, .row C.i64 x2), (14, .flat (.bool x3))], []⟩
noncomputable def pyxref1_trim.j1000.finK {ρ : Type} (y : (List Int × Bool)) (K : Out U → Option ρ) : Option ρ := match y with | (x2, x3) => K (.norm ⟨[(0, .row C.i64 x2), (14, .flat (.bool x3))], []⟩)
theorem pyxref1_trim.j1000.finK_eq {ρ : Type} (y : (List Int × Bool)) (K : Out U → Option ρ) : pyxref1_trim.j1000.finK y K = K (pyxref1_trim.j1000.fin y) := by
  unfold pyxref1_trim.j1000.finK pyxref1_trim.j1000.fin
  first | rfl | (split <;> rfl)
noncomputable def pyxref1_trim.j1000.re : Out U → Option ((List Int × Bool)) | .norm s => ((row_i64 (s.get 0)).bind fun q0 => (match s.get 14 with | .flat (.bool x3) => some (q0, x3) | _ => none)) | _ => none
noncomputable def pyxref1_trim.j1000.J : JDen U := { Y := (List Int × Bool), re := pyxref1_trim.j1000.re, fin := pyxref1_trim.j1000.fin, finK := pyxref1_trim.j1000.finK, finK_eq := pyxref1_trim.j1000.finK_eq }
theorem pyxref1_trim.j1000.fit (o : Out U) (y : (List Int × Bool)) (h : pyxref1_trim.j1000.re o = some y) : FitsO o (pyxref1_trim.j1000.fin y) := by
  unfold pyxref1_trim.j1000.re at h
  split at h
  · obtain ⟨q0, eq0, h1⟩ := Option.bind_eq_some_iff.1 h
    split at h1
    · cases h1
      refine fitsO_norm (fits_ren [] ?_ ?_ ren_nil rfl)
      · exact List.forall_mem_cons.2 ⟨FV.one (row_i64_fit eq0), List.forall_mem_cons.2 ⟨FV.one (FV.same (by assumption) rfl), fun _ hp => (List.not_mem_nil hp).elim⟩⟩
      · exact fun _ hp => (List.not_mem_nil hp).elim
    · cases h1
  · cases h
noncomputable def pyxref1_trim.jl : List (Nat × JDen U) := [(1000, pyxref1_trim.j1000.J)]
noncomputable def pyxref1_trim.fl (k : Nat) : List (Nat × FDen U) := []
noncomputable def pyxref1_trim.ll (k : Nat) : List (Nat × LDen U) := [(1, pyxref1_trim.l1.L k)]
noncomputable def pyxref1_trim.E (k : Nat) : Env U := { P := Try.prog, D := DD, fd := lk (pyxref1_trim.fl k), ld := lk (pyxref1_trim.ll k), jd := lk pyxref1_trim.jl, mode := lk [], elc := lk ec, mpc := lk mc, rts := Try.f71.resultTypes.toList, dyn := fun t => false, vecs := fun d => false, results := Try.f71.results.toList, gh := [], own := false, io := fun g i => false }
theorem pyxref1_trim.ok (k : Nat) : EnvOk (pyxref1_trim.E k) := envOk lawful (pyxref1_trim.fl k) (pyxref1_trim.ll k) pyxref1_trim.jl _ _ _ _ _ _ _ _ _ _ (by
  intro p hp
  simp [pyxref1_trim.fl] at hp) (by
  intro p hp
  simp only [pyxref1_trim.jl, List.mem_cons, List.not_mem_nil, or_false] at hp
  rcases hp with rfl
  · exact pyxref1_trim.j1000.fit)
theorem pyxref1_trim.l1.eq (k : Nat) (x : List Int) : evC (pyxref1_trim.E k) (loopAt Try.f71 1) (pyxref1_trim.l1.mk x) (headK pyxref1_trim.l1.un pyxref1_trim.l1.re) = pyxref1_trim.l1.once k x := by kernel_rfl
theorem pyxref1_trim.l1.fit (s : St U) (x : List Int) (h : pyxref1_trim.l1.un s = some x) : Fits s (pyxref1_trim.l1.mk x) := by
  unfold pyxref1_trim.l1.un at h
  obtain ⟨q0, eq0, h1⟩ := Option.bind_eq_some_iff.1 h
  cases h1
  refine fits_ren [] ?_ ?_ ren_nil rfl
  · exact List.forall_mem_cons.2 ⟨FV.one (row_i64_fit eq0), fun _ hp => (List.not_mem_nil hp).elim⟩
  · exact fun _ hp => (List.not_mem_nil hp).elim
theorem pyxref1_trim.l1.fitO (o : Out U) (y : List Int) (h : pyxref1_trim.l1.re o = some y) : FitsO o (pyxref1_trim.l1.fin y) := by
  unfold pyxref1_trim.l1.re at h
  split at h
  · obtain ⟨q0, eq0, h1⟩ := Option.bind_eq_some_iff.1 h
    cases h1
    refine fitsO_exit (fits_ren [] ?_ ?_ ren_nil rfl)
    · exact List.forall_mem_cons.2 ⟨FV.one (row_i64_fit eq0), fun _ hp => (List.not_mem_nil hp).elim⟩
    · exact fun _ hp => (List.not_mem_nil hp).elim
  · cases h
theorem pyxref1_trim.l1.sound (k : Nat) : LSound (pyxref1_trim.E k) Try.f71.ntmps Try.f71 (loopAt Try.f71 1) (pyxref1_trim.l1.L k) :=
  loop_sound (pyxref1_trim.ok k) mixed rfl (by kernel_rfl) (allL_of (l := []) (by kernel_rfl) allL_nil) pyxref1_trim.l1.un pyxref1_trim.l1.mk pyxref1_trim.l1.fin pyxref1_trim.l1.re (pyxref1_trim.l1.once k) k pyxref1_trim.l1.fit pyxref1_trim.l1.fitO (pyxref1_trim.l1.eq k) pyxref1_trim.l1.finK pyxref1_trim.l1.finK_eq
theorem pyxref1_trim.eq (k : Nat) (x : List Int) : runF (pyxref1_trim.E k) (codeOf Try.f71) (pyxref1_trim.mk x) pyxref1_trim.re = (pyxref1_trim.D k).f x := by kernel_rfl
theorem pyxref1_trim.fit (s : St U) (x : List Int) (h : pyxref1_trim.un s = some x) : Fits s (pyxref1_trim.mk x) := by
  unfold pyxref1_trim.un at h
  split at h
  · cases h
    refine fits_ren [] ?_ ?_ ren_nil rfl
    · exact List.forall_mem_cons.2 ⟨FV.one (FV.same (by assumption) rfl), fun _ hp => (List.not_mem_nil hp).elim⟩
    · exact fun _ hp => (List.not_mem_nil hp).elim
  · cases h
theorem pyxref1_trim.fitR (s : St U) (y : List Int) (h : pyxref1_trim.re s = some y) : Fits s (pyxref1_trim.fin y) := by
  unfold pyxref1_trim.re at h
  split at h
  · cases h
    refine fits_ren [] ?_ ?_ ren_nil rfl
    · exact List.forall_mem_cons.2 ⟨FV.one (FV.same (by assumption) rfl), fun _ hp => (List.not_mem_nil hp).elim⟩
    · exact fun _ hp => (List.not_mem_nil hp).elim
  · cases h
theorem pyxref1_trim.sound (k : Nat) : Sound Try.prog DD 71 (pyxref1_trim.D k) :=
  fun_sound (E := pyxref1_trim.E k) (fn := Try.f71) (c := codeOf Try.f71) (pyxref1_trim.ok k) mixed rfl Try.func71 (by kernel_rfl) (by kernel_rfl) (allL_of (l := [loopAt Try.f71 1]) (by kernel_rfl) (allL_cons (key := 1) (by kernel_rfl) rfl (pyxref1_trim.l1.sound k) allL_nil)) (pyxref1_trim.D k) pyxref1_trim.mk pyxref1_trim.re (by kernel_rfl) (by kernel_rfl) pyxref1_trim.fit pyxref1_trim.fitR (pyxref1_trim.eq k)
/-! ### pyx/pyxref1.AddNat: function 32 -/
noncomputable def pyxref1_AddNat.l4.once (k : Nat) (x : (List Int × List Int × List Int × Int × Int)) : Option ((List Int × List Int × List Int × Int × Int) ⊕ (List Int)) := match x with | (x1, x2, x3, x4, x5) => ((cond (decide (x5 < (List.length x1 : Int))) (some (x1, x2, x3, x4, x5, true)) (cond (decide (x5 < (List.length x2 : Int))) (some (x1, x2, x3, x4, x5, true)) (some (x1, x2, x3, x4, x5, decide (x4 > 0))))) : Option (List Int × List Int × List Int × Int × Int × Bool)).bind fun y12 => (cond (y12.2.2.2.2.2) ((pyxref1_digit.f k y12.1 y12.2.2.2.2.1).bind fun t13 => ((pyxref1_digit.f k y12.2.1 y12.2.2.2.2.1).bind fun t14 => (cond (okLen (List.length y12.2.2.1 + List.length [Int.tmod (IntKind.wrap .i64 ((IntKind.wrap .i64 (t13 + t14)) + y12.2.2.2.1)) 10]) 8) (some (.inl (y12.1, y12.2.1, y12.2.2.1 ++ [Int.tmod (IntKind.wrap .i64 ((IntKind.wrap .i64 (t13 + t14)) + y12.2.2.2.1)) 10], IntKind.wrap .i64 (Int.tdiv (IntKind.wrap .i64 ((IntKind.wrap .i64 (t13 + t14)) + y12.2.2.2.1)) 10), IntKind.wrap .i64 (y12.2.2.2.2.1 + 1)))) none))) (some (.inr y12.2.2.1)))
noncomputable def pyxref1_AddNat.f (k : Nat) (a0 : List Int) (a1 : List Int) : Option (List Int) := (iter (pyxref1_AddNat.l4.once k) k (a0, a1, ([] : List Int), 0, 0)).bind fun y16 => ((pyxref1_trim.f k y16).bind fun t17 => (some t17))
noncomputable def pyxref1_AddNat.un (s : St U) : Option (List Int × List Int) := match s.get 0, s.get 1 with | .row C.i64 x1, .row C.i64 x2 => some (x1, x2) | _, _ => none
noncomputable def pyxref1_AddNat.mk (x : (List Int × List Int)) : St U := ⟨[(0, .row C.i64 x.1), (1, .row C.i64 x.2)], []⟩
noncomputable def pyxref1_AddNat.fin (y : List Int) : St U := ⟨[(0, .row C.i64 y)], []⟩
noncomputable def pyxref1_AddNat.D (k : Nat) : FDen U := { X := (List Int × List Int), Y := List Int, nt := 43, gh := [], un := pyxref1_AddNat.un, f := fun x => pyxref1_AddNat.f k (x.1) (x.2), fin := pyxref1_AddNat.fin, cl := true, clo := fun _ _ => rfl }
noncomputable def pyxref1_AddNat.re (s : St U) : Option (List Int) := match s.get 0 with | .row C.i64 x1 => some x1 | _ => none
noncomputable def pyxref1_AddNat.l4.mk (x : (List Int × List Int × List Int × Int × Int)) : St U := match x with | (x1, x2, x3, x4, x5) => ⟨[(0, .row C.i64 x1), (1, .row C.i64 x2), (5, .tip 1004005 C.i64 x3), (6, .flat (.int .i64 x4)), (7, .flat (.int .i64 x5))], [(1004005, .tip 1)]⟩
noncomputable def pyxref1_AddNat.l4.un (s : St U) : Option (List Int × List Int × List Int × Int × Int) := (row_i64 (s.get 0)).bind fun q0 => ((row_i64 (s.get 1)).bind fun q1 => ((tip_i64 s.o 1 (s.get 5)).bind fun q2 => (match s.get 6, s.get 7 with | .flat (.int .i64 x4), .flat (.int .i64 x5) => some (q0, q1, q2.2, x4, x5) | _, _ => none)))
noncomputable def pyxref1_AddNat.l4.fin (y : List Int) : Out U := match y with | x15 => .exit 0 ⟨[(5, .tip 1004005 C.i64 x15)], [(1004005, .tip 1)]⟩
noncomputable def pyxref1_AddNat.l4.finK {ρ : Type} (y : List Int) (K : Out U → Option ρ) : Option ρ := match y with | x15 => K (.exit 0 ⟨[(5, .tip 1004005 C.i64 x15)], [(1004005, .tip 1)]⟩)
theorem pyxref1_AddNat.l4.finK_eq {ρ : Type} (y : List Int) (K : Out U → Option ρ) : pyxref1_AddNat.l4.finK y K = K (pyxref1_AddNat.l4.fin y) := by
  unfold pyxref1_AddNat.l4.finK pyxref1_AddNat.l4.fin
  first | rfl | (split <;> rfl)
noncomputable def pyxref1_AddNat.l4.re : Out U → Option (List Int) | .exit 0 s => ((tip_i64 s.o 1 (s.get 5)).bind fun q0 => (some q0.2)) | _ => none
noncomputable def pyxref1_AddNat.l4.L (k : Nat) : LDen U := { X := (List Int × List Int × List Int × Int × Int), Y := List Int, un := pyxref1_AddNat.l4.un, f := iter (pyxref1_AddNat.l4.once k) k, fin := pyxref1_AddNat.l4.fin, finK := pyxref1_AddNat.l4.finK, finK_eq := pyxref1_AddNat.l4.finK_eq }
noncomputable def pyxref1_AddNat.j4000.fin (y : (List Int × List Int × List Int × Int × Int × Bool)) : Out U := match y with | (x6, x7, x8, x9, x10, x11) => .norm ⟨[(0, .row C.i64 x6), (1, .row C.i64 x7), (5, .tip 1005000005 C.i64 x8), (6, .flat (.int .i64 x9)), (7, .flat (.int .i64 x10)), (22, .flat (.bool x11))], [(1005000005, .tip 1)]⟩
noncomputable def pyxref1_AddNat.j4000.finK {ρ : Type} (y : (List Int × List Int × List Int × Int × Int × Bool)) (K : Out U → Option ρ) : Option ρ := match y with | (x6, x7, x8, x9, x10, x11) => K (.norm ⟨[(0, .row C.i64 x6), (1, .row C.i64 x7), (5, .tip 1005000005 C.i64 x8), (6, .flat (.int .i64 x9)), (7, .flat (.int .i64 x10)), (22, .flat (.bool x11))], [(1005000005, .tip 1)]⟩)
theorem pyxref1_AddNat.j4000.finK_eq {ρ : Type} (y : (List Int × List Int × List Int × Int × Int × Bool)) (K : Out U → Option ρ) : pyxref1_AddNat.j4000.finK y K = K (pyxref1_AddNat.j4000.fin y) := by
  unfold pyxref1_AddNat.j4000.finK pyxref1_AddNat.j4000.fin
  first | rfl | (split <;> rfl)
noncomputable def pyxref1_AddNat.j4000.re : Out U → Option ((List Int × List Int × List Int × Int × Int × Bool)) | .norm s => ((row_i64 (s.get 0)).bind fun q0 => ((row_i64 (s.get 1)).bind fun q1 => ((tip_i64 s.o 1 (s.get 5)).bind fun q2 => (match s.get 6, s.get 7, s.get 22 with | .flat (.int .i64 x9), .flat (.int .i64 x10), .flat (.bool x11) => some (q0, q1, q2.2, x9, x10, x11) | _, _, _ => none)))) | _ => none
noncomputable def pyxref1_AddNat.j4000.J : JDen U := { Y := (List Int × List Int × List Int × Int × Int × Bool), re := pyxref1_AddNat.j4000.re, fin := pyxref1_AddNat.j4000.fin, finK := pyxref1_AddNat.j4000.finK, finK_eq := pyxref1_AddNat.j4000.finK_eq }
theorem pyxref1_AddNat.j4000.fit (o : Out U) (y : (List Int × List Int × List Int × Int × Int × Bool)) (h : pyxref1_AddNat.j4000.re o = some y) : FitsO o (pyxref1_AddNat.j4000.fin y) := by
  unfold pyxref1_AddNat.j4000.re at h
  split at h
  · obtain ⟨q0, eq0, h1⟩ := Option.bind_eq_some_iff.1 h
    obtain ⟨q1, eq1, h2⟩ := Option.bind_eq_some_iff.1 h1
    obtain ⟨q2, eq2, h3⟩ := Option.bind_eq_some_iff.1 h2
    split at h3
    · cases h3
      refine fitsO_norm (fits_ren [(1005000005, q2.1)] ?_ ?_ ren_one rfl)
      · exact List.forall_mem_cons.2 ⟨FV.one (row_i64_fit eq0), List.forall_mem_cons.2 ⟨FV.one (row_i64_fit eq1), List.forall_mem_cons.2 ⟨FV.one (tip_i64_fit eq2 rfl).1, List.forall_mem_cons.2 ⟨FV.one (FV.same (by assumption) rfl), List.forall_mem_cons.2 ⟨FV.one (FV.same (by assumption) rfl), List.forall_mem_cons.2 ⟨FV.one (FV.same (by assumption) rfl), fun _ hp => (List.not_mem_nil hp).elim⟩⟩⟩⟩⟩⟩
      · exact List.forall_mem_cons.2 ⟨(tip_i64_fit eq2 rfl).2, fun _ hp => (List.not_mem_nil hp).elim⟩
    · cases h3
  · cases h
noncomputable def pyxref1_AddNat.jl : List (Nat × JDen U) := [(4000, pyxref1_AddNat.j4000.J)]
noncomputable def pyxref1_AddNat.fl (k : Nat) : List (Nat × FDen U) := [(70, pyxref1_digit.D k), (71, pyxref1_trim.D k)]
noncomputable def pyxref1_AddNat.ll (k : Nat) : List (Nat × LDen U) := [(4, pyxref1_AddNat.l4.L k)]
noncomputable def pyxref1_AddNat.E (k : Nat) : Env U := { P := Try.prog, D := DD, fd := lk (pyxref1_AddNat.fl k), ld := lk (pyxref1_AddNat.ll k), jd := lk pyxref1_AddNat.jl, mode := lk [], elc := lk ec, mpc := lk mc, rts := Try.f32.resultTypes.toList, dyn := fun t => false, vecs := fun d => false, results := Try.f32.results.toList, gh := [], own := false, io := fun g i => false }
theorem pyxref1_AddNat.ok (k : Nat) : EnvOk (pyxref1_AddNat.E k) := envOk lawful (pyxref1_AddNat.fl k) (pyxref1_AddNat.ll k) pyxref1_AddNat.jl _ _ _ _ _ _ _ _ _ _ (by
  intro p hp
  simp only [pyxref1_AddNat.fl, List.mem_cons, List.not_mem_nil, or_false] at hp
  rcases hp with rfl | rfl
  · exact ⟨pyxref1_digit.sound k, enter_of Try.func70 (by kernel_rfl) (by kernel_rfl)⟩
  · exact ⟨pyxref1_trim.sound k, enter_of Try.func71 (by kernel_rfl) (by kernel_rfl)⟩) (by
  intro p hp
  simp only [pyxref1_AddNat.jl, List.mem_cons, List.not_mem_nil, or_false] at hp
  rcases hp with rfl
  · exact pyxref1_AddNat.j4000.fit)
theorem pyxref1_AddNat.l4.eq (k : Nat) (x : (List Int × List Int × List Int × Int × Int)) : evC (pyxref1_AddNat.E k) (loopAt Try.f32 4) (pyxref1_AddNat.l4.mk x) (headK pyxref1_AddNat.l4.un pyxref1_AddNat.l4.re) = pyxref1_AddNat.l4.once k x := by kernel_rfl
theorem pyxref1_AddNat.l4.fit (s : St U) (x : (List Int × List Int × List Int × Int × Int)) (h : pyxref1_AddNat.l4.un s = some x) : Fits s (pyxref1_AddNat.l4.mk x) := by
  unfold pyxref1_AddNat.l4.un at h
  obtain ⟨q0, eq0, h1⟩ := Option.bind_eq_some_iff.1 h
  obtain ⟨q1, eq1, h2⟩ := Option.bind_eq_some_iff.1 h1
  obtain ⟨q2, eq2, h3⟩ := Option.bind_eq_some_iff.1 h2
  split at h3
  · cases h3
    refine fits_ren [(1004005, q2.1)] ?_ ?_ ren_one rfl
    · exact List.forall_mem_cons.2 ⟨FV.one (row_i64_fit eq0), List.forall_mem_cons.2 ⟨FV.one (row_i64_fit eq1), List.forall_mem_cons.2 ⟨FV.one (tip_i64_fit eq2 rfl).1, List.forall_mem_cons.2 ⟨FV.one (FV.same (by assumption) rfl), List.forall_mem_cons.2 ⟨FV.one (FV.same (by assumption) rfl), fun _ hp => (List.not_mem_nil hp).elim⟩⟩⟩⟩⟩
    · exact List.forall_mem_cons.2 ⟨(tip_i64_fit eq2 rfl).2, fun _ hp => (List.not_mem_nil hp).elim⟩
  · cases h3
theorem pyxref1_AddNat.l4.fitO (o : Out U) (y : List Int) (h : pyxref1_AddNat.l4.re o = some y) : FitsO o (pyxref1_AddNat.l4.fin y) := by
  unfold pyxref1_AddNat.l4.re at h
  split at h
  · obtain ⟨q0, eq0, h1⟩ := Option.bind_eq_some_iff.1 h
    cases h1
    refine fitsO_exit (fits_ren [(1004005, q0.1)] ?_ ?_ ren_one rfl)
    · exact List.forall_mem_cons.2 ⟨FV.one (tip_i64_fit eq0 rfl).1, fun _ hp => (List.not_mem_nil hp).elim⟩
    · exact List.forall_mem_cons.2 ⟨(tip_i64_fit eq0 rfl).2, fun _ hp => (List.not_mem_nil hp).elim⟩
  · cases h
theorem pyxref1_AddNat.l4.sound (k : Nat) : LSound (pyxref1_AddNat.E k) Try.f32.ntmps Try.f32 (loopAt Try.f32 4) (pyxref1_AddNat.l4.L k) :=
  loop_sound (pyxref1_AddNat.ok k) mixed rfl (by kernel_rfl) (allL_of (l := []) (by kernel_rfl) allL_nil) pyxref1_AddNat.l4.un pyxref1_AddNat.l4.mk pyxref1_AddNat.l4.fin pyxref1_AddNat.l4.re (pyxref1_AddNat.l4.once k) k pyxref1_AddNat.l4.fit pyxref1_AddNat.l4.fitO (pyxref1_AddNat.l4.eq k) pyxref1_AddNat.l4.finK pyxref1_AddNat.l4.finK_eq
theorem pyxref1_AddNat.eq (k : Nat) (x : (List Int × List Int)) : runF (pyxref1_AddNat.E k) (codeOf Try.f32) (pyxref1_AddNat.mk x) pyxref1_AddNat.re = (pyxref1_AddNat.D k).f x := by kernel_rfl
theorem pyxref1_AddNat.fit (s : St U) (x : (List Int × List Int)) (h : pyxref1_AddNat.un s = some x) : Fits s (pyxref1_AddNat.mk x) := by
  unfold pyxref1_AddNat.un at h
  split at h
  · cases h
    refine fits_ren [] ?_ ?_ ren_nil rfl
    · exact List.forall_mem_cons.2 ⟨FV.one (FV.same (by assumption) rfl), List.forall_mem_cons.2 ⟨FV.one (FV.same (by assumption) rfl), fun _ hp => (List.not_mem_nil hp).elim⟩⟩
    · exact fun _ hp => (List.not_mem_nil hp).elim
  · cases h
theorem pyxref1_AddNat.fitR (s : St U) (y : List Int) (h : pyxref1_AddNat.re s = some y) : Fits s (pyxref1_AddNat.fin y) := by
  unfold pyxref1_AddNat.re at h
  split at h
  · cases h
    refine fits_ren [] ?_ ?_ ren_nil rfl
    · exact List.forall_mem_cons.2 ⟨FV.one (FV.same (by assumption) rfl), fun _ hp => (List.not_mem_nil hp).elim⟩
    · exact fun _ hp => (List.not_mem_nil hp).elim
  · cases h
theorem pyxref1_AddNat.sound (k : Nat) : Sound Try.prog DD 32 (pyxref1_AddNat.D k) :=
  fun_sound (E := pyxref1_AddNat.E k) (fn := Try.f32) (c := codeOf Try.f32) (pyxref1_AddNat.ok k) mixed rfl Try.func32 (by kernel_rfl) (by kernel_rfl) (allL_of (l := [loopAt Try.f32 4]) (by kernel_rfl) (allL_cons (key := 4) (by kernel_rfl) rfl (pyxref1_AddNat.l4.sound k) allL_nil)) (pyxref1_AddNat.D k) pyxref1_AddNat.mk pyxref1_AddNat.re (by kernel_rfl) (by kernel_rfl) pyxref1_AddNat.fit pyxref1_AddNat.fitR (pyxref1_AddNat.eq k)
/-! ### pyx/pyxref1.radix: function 68 -/
noncomputable def pyxref1_radix.f (k : Nat)  : Option (List Int) := (pyxref1_Word.f k 18446744073709551615).bind fun t1 => ((pyxref1_AddNat.f k t1 [1]).bind fun t2 => (some t2))
noncomputable def pyxref1_radix.un (s : St U) : Option Unit := some ()
noncomputable def pyxref1_radix.mk (x : Unit) : St U := ⟨[], []⟩
noncomputable def pyxref1_radix.fin (y : List Int) : St U := ⟨[(0, .row C.i64 y)], []⟩
noncomputable def pyxref1_radix.D (k : Nat) : FDen U := { X := Unit, Y := List Int, nt := 4, gh := [], un := pyxref1_radix.un, f := fun x => pyxref1_radix.f k , fin := pyxref1_radix.fin, cl := true, clo := fun _ _ => rfl }
noncomputable def pyxref1_radix.re (s : St U) : Option (List Int) := match s.get 0 with | .row C.i64 x1 => some x1 | _ => none
noncomputable def pyxref1_radix.jl : List (Nat × JDen U) := []
noncomputable def pyxref1_radix.fl (k : Nat) : List (Nat × FDen U) := [(67, pyxref1_Word.D k), (32, pyxref1_AddNat.D k)]
noncomputable def pyxref1_radix.ll (k : Nat) : List (Nat × LDen U) := []
noncomputable def pyxref1_radix.E (k : Nat) : Env U := { P := Try.prog, D := DD, fd := lk (pyxref1_radix.fl k), ld := lk (pyxref1_radix.ll k), jd := lk pyxref1_radix.jl, mode := lk [], elc := lk ec, mpc := lk mc, rts := Try.f68.resultTypes.toList, dyn := fun t => false, vecs := fun d => false, results := Try.f68.results.toList, gh := [], own := false, io := fun g i => false }
theorem pyxref1_radix.ok (k : Nat) : EnvOk (pyxref1_radix.E k) := envOk lawful (pyxref1_radix.fl k) (pyxref1_radix.ll k) pyxref1_radix.jl _ _ _ _ _ _ _ _ _ _ (by
  intro p hp
  simp only [pyxref1_radix.fl, List.mem_cons, List.not_mem_nil, or_false] at hp
  rcases hp with rfl | rfl
  · exact ⟨pyxref1_Word.sound k, enter_of Try.func67 (by kernel_rfl) (by kernel_rfl)⟩
  · exact ⟨pyxref1_AddNat.sound k, enter_of Try.func32 (by kernel_rfl) (by kernel_rfl)⟩) (by
  intro p hp
  simp [pyxref1_radix.jl] at hp)
theorem pyxref1_radix.eq (k : Nat) (x : Unit) : runF (pyxref1_radix.E k) (codeOf Try.f68) (pyxref1_radix.mk x) pyxref1_radix.re = (pyxref1_radix.D k).f x := by kernel_rfl
theorem pyxref1_radix.fit (s : St U) (x : Unit) (h : pyxref1_radix.un s = some x) : Fits s (pyxref1_radix.mk x) := by
  unfold pyxref1_radix.un at h
  cases h
  refine fits_ren [] ?_ ?_ ren_nil rfl
  · exact fun _ hp => (List.not_mem_nil hp).elim
  · exact fun _ hp => (List.not_mem_nil hp).elim
theorem pyxref1_radix.fitR (s : St U) (y : List Int) (h : pyxref1_radix.re s = some y) : Fits s (pyxref1_radix.fin y) := by
  unfold pyxref1_radix.re at h
  split at h
  · cases h
    refine fits_ren [] ?_ ?_ ren_nil rfl
    · exact List.forall_mem_cons.2 ⟨FV.one (FV.same (by assumption) rfl), fun _ hp => (List.not_mem_nil hp).elim⟩
    · exact fun _ hp => (List.not_mem_nil hp).elim
  · cases h
theorem pyxref1_radix.sound (k : Nat) : Sound Try.prog DD 68 (pyxref1_radix.D k) :=
  fun_sound (E := pyxref1_radix.E k) (fn := Try.f68) (c := codeOf Try.f68) (pyxref1_radix.ok k) mixed rfl Try.func68 (by kernel_rfl) (by kernel_rfl) (allL_of (l := []) (by kernel_rfl) allL_nil) (pyxref1_radix.D k) pyxref1_radix.mk pyxref1_radix.re (by kernel_rfl) (by kernel_rfl) pyxref1_radix.fit pyxref1_radix.fitR (pyxref1_radix.eq k)
/-! ### pyx/pyxref1.CmpNat: function 33 -/
noncomputable def pyxref1_CmpNat.l6.once (k : Nat) (x : (List Int × List Int × Int)) : Option ((List Int × List Int × Int) ⊕ (Unit ⊕ Int)) := match x with | (x1, x2, x3) => cond (decide (x3 ≥ 0)) (cond (inb x3 (List.length x1)) (cond (inb x3 (List.length x2)) (cond (decide ((List.getD x1 (Int.toNat x3) 0) < (List.getD x2 (Int.toNat x3) 0))) (some (.inr (.inr (-1)))) (cond (inb x3 (List.length x1)) (cond (inb x3 (List.length x2)) (cond (decide ((List.getD x1 (Int.toNat x3) 0) > (List.getD x2 (Int.toNat x3) 0))) (some (.inr (.inr 1))) (some (.inl (x1, x2, IntKind.wrap .i64 (x3 - 1))))) none) none)) none) none) (some (.inr (.inl ())))
noncomputable def pyxref1_CmpNat.f (k : Nat) (a0 : List Int) (a1 : List Int) : Option Int := cond ((List.length a0 : Int) != (List.length a1 : Int)) (cond (decide ((List.length a0 : Int) < (List.length a1 : Int))) (some (-1)) (some 1)) ((iter (pyxref1_CmpNat.l6.once k) k (a0, a1, IntKind.wrap .i64 ((List.length a0 : Int) - 1))).bind fun | .inl y5 => (some 0) | .inr y6 => (some y6))
noncomputable def pyxref1_CmpNat.un (s : St U) : Option (List Int × List Int) := match s.get 0, s.get 1 with | .row C.i64 x1, .row C.i64 x2 => some (x1, x2) | _, _ => none
noncomputable def pyxref1_CmpNat.mk (x : (List Int × List Int)) : St U := ⟨[(0, .row C.i64 x.1), (1, .row C.i64 x.2)], []⟩
noncomputable def pyxref1_CmpNat.fin (y : Int) : St U := ⟨[(0, .flat (.int .i64 y))], []⟩
noncomputable def pyxref1_CmpNat.D (k : Nat) : FDen U := { X := (List Int × List Int), Y := Int, nt := 41, gh := [], un := pyxref1_CmpNat.un, f := fun x => pyxref1_CmpNat.f k (x.1) (x.2), fin := pyxref1_CmpNat.fin, cl := true, clo := fun _ _ => rfl }
noncomputable def pyxref1_CmpNat.re (s : St U) : Option Int := match s.get 0 with | .flat (.int .i64 x1) => some x1 | _ => none
noncomputable def pyxref1_CmpNat.l6.mk (x : (List Int × List Int × Int)) : St U := match x with | (x1, x2, x3) => ⟨[(0, .row C.i64 x1), (1, .row C.i64 x2), (5, .flat (.int .i64 x3))], []⟩
noncomputable def pyxref1_CmpNat.l6.un (s : St U) : Option (List Int × List Int × Int) := (row_i64 (s.get 0)).bind fun q0 => ((row_i64 (s.get 1)).bind fun q1 => (match s.get 5 with | .flat (.int .i64 x3) => some (q0, q1, x3) | _ => none))
noncomputable def pyxref1_CmpNat.l6.fin (y : Unit ⊕ Int) : Out U := match y with | .inl () => .exit 0 ⟨[], []⟩ | .inr z => .ret (⟨[(0, .flat (.int .i64 z))], []⟩)
noncomputable def pyxref1_CmpNat.l6.finK {ρ : Type} (y : Unit ⊕ Int) (K : Out U → Option ρ) : Option ρ := match y with | .inl () => K (.exit 0 ⟨[], []⟩) | .inr z => K (.ret (⟨[(0, .flat (.int .i64 z))], []⟩))
theorem pyxref1_CmpNat.l6.finK_eq {ρ : Type} (y : Unit ⊕ Int) (K : Out U → Option ρ) : pyxref1_CmpNat.l6.finK y K = K (pyxref1_CmpNat.l6.fin y) := by
  unfold pyxref1_CmpNat.l6.finK pyxref1_CmpNat.l6.fin
  first | rfl | (split <;> rfl)
noncomputable def pyxref1_CmpNat.l6.re : Out U → Option (Unit ⊕ Int) | .exit 0 s => (some (.inl ())) | .ret s => (match s.get 0 with | .flat (.int .i64 x1) => some (.inr x1) | _ => none) | _ => none
noncomputable def pyxref1_CmpNat.l6.L (k : Nat) : LDen U := { X := (List Int × List Int × Int), Y := Unit ⊕ Int, un := pyxref1_CmpNat.l6.un, f := iter (pyxref1_CmpNat.l6.once k) k, fin := pyxref1_CmpNat.l6.fin, finK := pyxref1_CmpNat.l6.finK, finK_eq := pyxref1_CmpNat.l6.finK_eq }
noncomputable def pyxref1_CmpNat.jl : List (Nat × JDen U) := []
noncomputable def pyxref1_CmpNat.fl (k : Nat) : List (Nat × FDen U) := []
noncomputable def pyxref1_CmpNat.ll (k : Nat) : List (Nat × LDen U) := [(6, pyxref1_CmpNat.l6.L k)]
noncomputable def pyxref1_CmpNat.E (k : Nat) : Env U := { P := Try.prog, D := DD, fd := lk (pyxref1_CmpNat.fl k), ld := lk (pyxref1_CmpNat.ll k), jd := lk pyxref1_CmpNat.jl, mode := lk [], elc := lk ec, mpc := lk mc, rts := Try.f33.resultTypes.toList, dyn := fun t => false, vecs := fun d => false, results := Try.f33.results.toList, gh := [], own := false, io := fun g i => false }
theorem pyxref1_CmpNat.ok (k : Nat) : EnvOk (pyxref1_CmpNat.E k) := envOk lawful (pyxref1_CmpNat.fl k) (pyxref1_CmpNat.ll k) pyxref1_CmpNat.jl _ _ _ _ _ _ _ _ _ _ (by
  intro p hp
  simp [pyxref1_CmpNat.fl] at hp) (by
  intro p hp
  simp [pyxref1_CmpNat.jl] at hp)
theorem pyxref1_CmpNat.l6.eq (k : Nat) (x : (List Int × List Int × Int)) : evC (pyxref1_CmpNat.E k) (loopAt Try.f33 6) (pyxref1_CmpNat.l6.mk x) (headK pyxref1_CmpNat.l6.un pyxref1_CmpNat.l6.re) = pyxref1_CmpNat.l6.once k x := by kernel_rfl
theorem pyxref1_CmpNat.l6.fit (s : St U) (x : (List Int × List Int × Int)) (h : pyxref1_CmpNat.l6.un s = some x) : Fits s (pyxref1_CmpNat.l6.mk x) := by
  unfold pyxref1_CmpNat.l6.un at h
  obtain ⟨q0, eq0, h1⟩ := Option.bind_eq_some_iff.1 h
  obtain ⟨q1, eq1, h2⟩ := Option.bind_eq_some_iff.1 h1
  split at h2
  · cases h2
    refine fits_ren [] ?_ ?_ ren_nil rfl
    · exact List.forall_mem_cons.2 ⟨FV.one (row_i64_fit eq0), List.forall_mem_cons.2 ⟨FV.one (row_i64_fit eq1), List.forall_mem_cons.2 ⟨FV.one (FV.same (by assumption) rfl), fun _ hp => (List.not_mem_nil hp).elim⟩⟩⟩
    · exact fun _ hp => (List.not_mem_nil hp).elim
  · cases h2
theorem pyxref1_CmpNat.l6.fitO (o : Out U) (y : Unit ⊕ Int) (h : pyxref1_CmpNat.l6.re o = some y) : FitsO o (pyxref1_CmpNat.l6.fin y) := by
  unfold pyxref1_CmpNat.l6.re at h
  split at h
  · cases h
    refine fitsO_exit (fits_ren [] ?_ ?_ ren_nil rfl)
    · exact fun _ hp => (List.not_mem_nil hp).elim
    · exact fun _ hp => (List.not_mem_nil hp).elim
  · split at h
    · cases h
      refine fitsO_ret (fits_ren [] ?_ ?_ ren_nil rfl)
      · exact List.forall_mem_cons.2 ⟨FV.one (FV.same (by assumption) rfl), fun _ hp => (List.not_mem_nil hp).elim⟩
      · exact fun _ hp => (List.not_mem_nil hp).elim
    · cases h
  · cases h
theorem pyxref1_CmpNat.l6.sound (k : Nat) : LSound (pyxref1_CmpNat.E k) Try.f33.ntmps Try.f33 (loopAt Try.f33 6) (pyxref1_CmpNat.l6.L k) :=
  loop_sound (pyxref1_CmpNat.ok k) mixed rfl (by kernel_rfl) (allL_of (l := []) (by kernel_rfl) allL_nil) pyxref1_CmpNat.l6.un pyxref1_CmpNat.l6.mk pyxref1_CmpNat.l6.fin pyxref1_CmpNat.l6.re (pyxref1_CmpNat.l6.once k) k pyxref1_CmpNat.l6.fit pyxref1_CmpNat.l6.fitO (pyxref1_CmpNat.l6.eq k) pyxref1_CmpNat.l6.finK pyxref1_CmpNat.l6.finK_eq
theorem pyxref1_CmpNat.eq (k : Nat) (x : (List Int × List Int)) : runF (pyxref1_CmpNat.E k) (codeOf Try.f33) (pyxref1_CmpNat.mk x) pyxref1_CmpNat.re = (pyxref1_CmpNat.D k).f x := by kernel_rfl
theorem pyxref1_CmpNat.fit (s : St U) (x : (List Int × List Int)) (h : pyxref1_CmpNat.un s = some x) : Fits s (pyxref1_CmpNat.mk x) := by
  unfold pyxref1_CmpNat.un at h
  split at h
  · cases h
    refine fits_ren [] ?_ ?_ ren_nil rfl
    · exact List.forall_mem_cons.2 ⟨FV.one (FV.same (by assumption) rfl), List.forall_mem_cons.2 ⟨FV.one (FV.same (by assumption) rfl), fun _ hp => (List.not_mem_nil hp).elim⟩⟩
    · exact fun _ hp => (List.not_mem_nil hp).elim
  · cases h
theorem pyxref1_CmpNat.fitR (s : St U) (y : Int) (h : pyxref1_CmpNat.re s = some y) : Fits s (pyxref1_CmpNat.fin y) := by
  unfold pyxref1_CmpNat.re at h
  split at h
  · cases h
    refine fits_ren [] ?_ ?_ ren_nil rfl
    · exact List.forall_mem_cons.2 ⟨FV.one (FV.same (by assumption) rfl), fun _ hp => (List.not_mem_nil hp).elim⟩
    · exact fun _ hp => (List.not_mem_nil hp).elim
  · cases h
theorem pyxref1_CmpNat.sound (k : Nat) : Sound Try.prog DD 33 (pyxref1_CmpNat.D k) :=
  fun_sound (E := pyxref1_CmpNat.E k) (fn := Try.f33) (c := codeOf Try.f33) (pyxref1_CmpNat.ok k) mixed rfl Try.func33 (by kernel_rfl) (by kernel_rfl) (allL_of (l := [loopAt Try.f33 6]) (by kernel_rfl) (allL_cons (key := 6) (by kernel_rfl) rfl (pyxref1_CmpNat.l6.sound k) allL_nil)) (pyxref1_CmpNat.D k) pyxref1_CmpNat.mk pyxref1_CmpNat.re (by kernel_rfl) (by kernel_rfl) pyxref1_CmpNat.fit pyxref1_CmpNat.fitR (pyxref1_CmpNat.eq k)
/-! ### pyx/pyxref1.SubNat: function 72 -/
noncomputable def pyxref1_SubNat.l4.once (k : Nat) (x : (List Int × List Int × List Int × Int × Int)) : Option ((List Int × List Int × List Int × Int × Int) ⊕ (List Int)) := match x with | (x1, x2, x3, x4, x5) => cond (decide (x5 < (List.length x1 : Int))) (((cond (inb x5 (List.length x1)) ((pyxref1_digit.f k x2 x5).bind fun t6 => (((cond (decide ((IntKind.wrap .i64 ((IntKind.wrap .i64 ((List.getD x1 (Int.toNat x5) 0) - t6)) - x4)) < 0)) (some (x1, x2, x3, 1, x5, IntKind.wrap .i64 ((IntKind.wrap .i64 ((IntKind.wrap .i64 ((List.getD x1 (Int.toNat x5) 0) - t6)) - x4)) + 10))) (some (x1, x2, x3, 0, x5, IntKind.wrap .i64 ((IntKind.wrap .i64 ((List.getD x1 (Int.toNat x5) 0) - t6)) - x4)))) : Option (List Int × List Int × List Int × Int × Int × Int)).bind fun y13 => (cond (okLen (List.length y13.2.2.1 + List.length [y13.2.2.2.2.2]) 8) (some (y13.1, y13.2.1, y13.2.2.1 ++ [y13.2.2.2.2.2], y13.2.2.2.1, y13.2.2.2.2.1)) none))) none) : Option (List Int × List Int × List Int × Int × Int)).bind fun y19 => (some (.inl (y19.1, y19.2.1, y19.2.2.1, y19.2.2.2.1, IntKind.wrap .i64 (y19.2.2.2.2 + 1))))) (some (.inr x3))
noncomputable def pyxref1_SubNat.f (k : Nat) (a0 : List Int) (a1 : List Int) : Option (List Int) := (iter (pyxref1_SubNat.l4.once k) k (a0, a1, ([] : List Int), 0, 0)).bind fun y21 => ((pyxref1_trim.f k y21).bind fun t22 => (some t22))
noncomputable def pyxref1_SubNat.un (s : St U) : Option (List Int × List Int) := match s.get 0, s.get 1 with | .row C.i64 x1, .row C.i64 x2 => some (x1, x2) | _, _ => none
noncomputable def pyxref1_SubNat.mk (x : (List Int × List Int)) : St U := ⟨[(0, .row C.i64 x.1), (1, .row C.i64 x.2)], []⟩
noncomputable def pyxref1_SubNat.fin (y : List Int) : St U := ⟨[(0, .row C.i64 y)], []⟩
noncomputable def pyxref1_SubNat.D (k : Nat) : FDen U := { X := (List Int × List Int), Y := List Int, nt := 35, gh := [], un := pyxref1_SubNat.un, f := fun x => pyxref1_SubNat.f k (x.1) (x.2), fin := pyxref1_SubNat.fin, cl := true, clo := fun _ _ => rfl }
noncomputable def pyxref1_SubNat.re (s : St U) : Option (List Int) := match s.get 0 with | .row C.i64 x1 => some x1 | _ => none
noncomputable def pyxref1_SubNat.l4.mk (x : (List Int × List Int × List Int × Int × Int)) : St U := match x with | (x1, x2, x3, x4, x5) => ⟨[(0, .row C.i64 x1), (1, .row C.i64 x2), (5, .tip 1004005 C.i64 x3), (6, .flat (.int .i64 x4)), (7, .flat (.int .i64 x5))], [(1004005, .tip 1)]⟩
noncomputable def pyxref1_SubNat.l4.un (s : St U) : Option (List Int × List Int × List Int × Int × Int) := (row_i64 (s.get 0)).bind fun q0 => ((row_i64 (s.get 1)).bind fun q1 => ((tip_i64 s.o 1 (s.get 5)).bind fun q2 => (match s.get 6, s.get 7 with | .flat (.int .i64 x4), .flat (.int .i64 x5) => some (q0, q1, q2.2, x4, x5) | _, _ => none)))
noncomputable def pyxref1_SubNat.l4.fin (y : List Int) : Out U := match y with | x20 => .exit 0 ⟨[(5, .tip 1004005 C.i64 x20)], [(1004005, .tip 1)]⟩
noncomputable def pyxref1_SubNat.l4.finK {ρ : Type} (y : List Int) (K : Out U → Option ρ) : Option ρ := match y with | x20 => K (.exit 0 ⟨[(5, .tip 1004005 C.i64 x20)], [(1004005, .tip 1)]⟩)
theorem pyxref1_SubNat.l4.finK_eq {ρ : Type} (y : List Int) (K : Out U → Option ρ) : pyxref1_SubNat.l4.finK y K = K (pyxref1_SubNat.l4.fin y) := by
  unfold pyxref1_SubNat.l4.finK pyxref1_SubNat.l4.fin
  first | rfl | (split <;> rfl)
noncomputable def pyxref1_SubNat.l4.re : Out U → Option (List Int) | .exit 0 s => ((tip_i64 s.o 1 (s.get 5)).bind fun q0 => (some q0.2)) | _ => none
noncomputable def pyxref1_SubNat.l4.L (k : Nat) : LDen U := { X := (List Int × List Int × List Int × Int × Int), Y := List Int, un := pyxref1_SubNat.l4.un, f := iter (pyxref1_SubNat.l4.once k) k, fin := pyxref1_SubNat.l4.fin, finK := pyxref1_SubNat.l4.finK, finK_eq := pyxref1_SubNat.l4.finK_eq }
noncomputable def pyxref1_SubNat.j9001.fin (y : (List Int × List Int × List Int × Int × Int × Int)) : Out U := match y with | (x7, x8, x9, x10, x11, x12) => .norm ⟨[(0, .row C.i64 x7), (1, .row C.i64 x8), (5, .tip 1010001005 C.i64 x9), (6, .flat (.int .i64 x10)), (7, .flat (.int .i64 x11)), (8, .flat (.int .i64 x12))], [(1010001005, .tip 1)]⟩
noncomputable def pyxref1_SubNat.j9001.finK {ρ : Type} (y : (List Int × List Int × List Int × Int × Int × Int)) (K : Out U → Option ρ) : Option ρ := match y with | (x7, x8, x9, x10, x11, x12) => K (.norm ⟨[(0, .row C.i64 x7), (1, .row C.i64 x8), (5, .tip 1010001005 C.i64 x9), (6, .flat (.int .i64 x10)), (7, .flat (.int .i64 x11)), (8, .flat (.int .i64 x12))], [(1010001005, .tip 1)]⟩)
theorem pyxref1_SubNat.j9001.finK_eq {ρ : Type} (y : (List Int × List Int × List Int × Int × Int × Int)) (K : Out U → Option ρ) : pyxref1_SubNat.j9001.finK y K = K (pyxref1_SubNat.j9001.fin y) := by
  unfold pyxref1_SubNat.j9001.finK pyxref1_SubNat.j9001.fin
  first | rfl | (split <;> rfl)
noncomputable def pyxref1_SubNat.j9001.re : Out U → Option ((List Int × List Int × List Int × Int × Int × Int)) | .norm s => ((row_i64 (s.get 0)).bind fun q0 => ((row_i64 (s.get 1)).bind fun q1 => ((tip_i64 s.o 1 (s.get 5)).bind fun q2 => (match s.get 6, s.get 7, s.get 8 with | .flat (.int .i64 x10), .flat (.int .i64 x11), .flat (.int .i64 x12) => some (q0, q1, q2.2, x10, x11, x12) | _, _, _ => none)))) | _ => none
noncomputable def pyxref1_SubNat.j9001.J : JDen U := { Y := (List Int × List Int × List Int × Int × Int × Int), re := pyxref1_SubNat.j9001.re, fin := pyxref1_SubNat.j9001.fin, finK := pyxref1_SubNat.j9001.finK, finK_eq := pyxref1_SubNat.j9001.finK_eq }
theorem pyxref1_SubNat.j9001.fit (o : Out U) (y : (List Int × List Int × List Int × Int × Int × Int)) (h : pyxref1_SubNat.j9001.re o = some y) : FitsO o (pyxref1_SubNat.j9001.fin y) := by
  unfold pyxref1_SubNat.j9001.re at h
  split at h
  · obtain ⟨q0, eq0, h1⟩ := Option.bind_eq_some_iff.1 h
    obtain ⟨q1, eq1, h2⟩ := Option.bind_eq_some_iff.1 h1
    obtain ⟨q2, eq2, h3⟩ := Option.bind_eq_some_iff.1 h2
    split at h3
    · cases h3
      refine fitsO_norm (fits_ren [(1010001005, q2.1)] ?_ ?_ ren_one rfl)
      · exact List.forall_mem_cons.2 ⟨FV.one (row_i64_fit eq0), List.forall_mem_cons.2 ⟨FV.one (row_i64_fit eq1), List.forall_mem_cons.2 ⟨FV.one (tip_i64_fit eq2 rfl).1, List.forall_mem_cons.2 ⟨FV.one (FV.same (by assumption) rfl), List.forall_mem_cons.2 ⟨FV.one (FV.same (by assumption) rfl), List.forall_mem_cons.2 ⟨FV.one (FV.same (by assumption) rfl), fun _ hp => (List.not_mem_nil hp).elim⟩⟩⟩⟩⟩⟩
      · exact List.forall_mem_cons.2 ⟨(tip_i64_fit eq2 rfl).2, fun _ hp => (List.not_mem_nil hp).elim⟩
    · cases h3
  · cases h
noncomputable def pyxref1_SubNat.j6001.fin (y : (List Int × List Int × List Int × Int × Int)) : Out U := match y with | (x14, x15, x16, x17, x18) => .norm ⟨[(0, .row C.i64 x14), (1, .row C.i64 x15), (5, .tip 1007001005 C.i64 x16), (6, .flat (.int .i64 x17)), (7, .flat (.int .i64 x18))], [(1007001005, .tip 1)]⟩
noncomputable def pyxref1_SubNat.j6001.finK {ρ : Type} (y : (List Int × List Int × List Int × Int × Int)) (K : Out U → Option ρ) : Option ρ := match y with | (x14, x15, x16, x17, x18) => K (.norm ⟨[(0, .row C.i64 x14), (1, .row C.i64 x15), (5, .tip 1007001005 C.i64 x16), (6, .flat (.int .i64 x17)), (7, .flat (.int .i64 x18))], [(1007001005, .tip 1)]⟩)
theorem pyxref1_SubNat.j6001.finK_eq {ρ : Type} (y : (List Int × List Int × List Int × Int × Int)) (K : Out U → Option ρ) : pyxref1_SubNat.j6001.finK y K = K (pyxref1_SubNat.j6001.fin y) := by
  unfold pyxref1_SubNat.j6001.finK pyxref1_SubNat.j6001.fin
  first | rfl | (split <;> rfl)
noncomputable def pyxref1_SubNat.j6001.re : Out U → Option ((List Int × List Int × List Int × Int × Int)) | .norm s => ((row_i64 (s.get 0)).bind fun q0 => ((row_i64 (s.get 1)).bind fun q1 => ((tip_i64 s.o 1 (s.get 5)).bind fun q2 => (match s.get 6, s.get 7 with | .flat (.int .i64 x17), .flat (.int .i64 x18) => some (q0, q1, q2.2, x17, x18) | _, _ => none)))) | _ => none
noncomputable def pyxref1_SubNat.j6001.J : JDen U := { Y := (List Int × List Int × List Int × Int × Int), re := pyxref1_SubNat.j6001.re, fin := pyxref1_SubNat.j6001.fin, finK := pyxref1_SubNat.j6001.finK, finK_eq := pyxref1_SubNat.j6001.finK_eq }
theorem pyxref1_SubNat.j6001.fit (o : Out U) (y : (List Int × List Int × List Int × Int × Int)) (h : pyxref1_SubNat.j6001.re o = some y) : FitsO o (pyxref1_SubNat.j6001.fin y) := by
  unfold pyxref1_SubNat.j6001.re at h
  split at h
  · obtain ⟨q0, eq0, h1⟩ := Option.bind_eq_some_iff.1 h
    obtain ⟨q1, eq1, h2⟩ := Option.bind_eq_some_iff.1 h1
    obtain ⟨q2, eq2, h3⟩ := Option.bind_eq_some_iff.1 h2
    split at h3
    · cases h3
      refine fitsO_norm (fits_ren [(1007001005, q2.1)] ?_ ?_ ren_one rfl)
      · exact List.forall_mem_cons.2 ⟨FV.one (row_i64_fit eq0), List.forall_mem_cons.2 ⟨FV.one (row_i64_fit eq1), List.forall_mem_cons.2 ⟨FV.one (tip_i64_fit eq2 rfl).1, List.forall_mem_cons.2 ⟨FV.one (FV.same (by assumption) rfl), List.forall_mem_cons.2 ⟨FV.one (FV.same (by assumption) rfl), fun _ hp => (List.not_mem_nil hp).elim⟩⟩⟩⟩⟩
      · exact List.forall_mem_cons.2 ⟨(tip_i64_fit eq2 rfl).2, fun _ hp => (List.not_mem_nil hp).elim⟩
    · cases h3
  · cases h
noncomputable def pyxref1_SubNat.jl : List (Nat × JDen U) := [(9001, pyxref1_SubNat.j9001.J), (6001, pyxref1_SubNat.j6001.J)]
noncomputable def pyxref1_SubNat.fl (k : Nat) : List (Nat × FDen U) := [(70, pyxref1_digit.D k), (71, pyxref1_trim.D k)]
noncomputable def pyxref1_SubNat.ll (k : Nat) : List (Nat × LDen U) := [(4, pyxref1_SubNat.l4.L k)]
noncomputable def pyxref1_SubNat.E (k : Nat) : Env U := { P := Try.prog, D := DD, fd := lk (pyxref1_SubNat.fl k), ld := lk (pyxref1_SubNat.ll k), jd := lk pyxref1_SubNat.jl, mode := lk [], elc := lk ec, mpc := lk mc, rts := Try.f72.resultTypes.toList, dyn := fun t => false, vecs := fun d => false, results := Try.f72.results.toList, gh := [], own := false, io := fun g i => false }
theorem pyxref1_SubNat.ok (k : Nat) : EnvOk (pyxref1_SubNat.E k) := envOk lawful (pyxref1_SubNat.fl k) (pyxref1_SubNat.ll k) pyxref1_SubNat.jl _ _ _ _ _ _ _ _ _ _ (by
  intro p hp
  simp only [pyxref1_SubNat.fl, List.mem_cons, List.not_mem_nil, or_false] at hp
  rcases hp with rfl | rfl
  · exact ⟨pyxref1_digit.sound k, enter_of Try.func70 (by kernel_rfl) (by kernel_rfl)⟩
  · exact ⟨pyxref1_trim.sound k, enter_of Try.func71 (by kernel_rfl) (by kernel_rfl)⟩) (by
  intro p hp
  simp only [pyxref1_SubNat.jl, List.mem_cons, List.not_mem_nil, or_false] at hp
  rcases hp with rfl | rfl
  · exact pyxref1_SubNat.j9001.fit
  · exact pyxref1_SubNat.j6001.fit)
theorem pyxref1_SubNat.l4.eq (k : Nat) (x : (List Int × List Int × List Int × Int × Int)) : evC (pyxref1_SubNat.E k) (loopAt Try.f72 4) (pyxref1_SubNat.l4.mk x) (headK pyxref1_SubNat.l4.un pyxref1_SubNat.l4.re) = pyxref1_SubNat.l4.once k x := by kernel_rfl
theorem pyxref1_SubNat.l4.fit (s : St U) (x : (List Int × List Int × List Int × Int × Int)) (h : pyxref1_SubNat.l4.un s = some x) : Fits s (pyxref1_SubNat.l4.mk x) := by
  unfold pyxref1_SubNat.l4.un at h
  obtain ⟨q0, eq0, h1⟩ := Option.bind_eq_some_iff.1 h
  obtain ⟨q1, eq1, h2⟩ := Option.bind_eq_some_iff.1 h1
  obtain ⟨q2, eq2, h3⟩ := Option.bind_eq_some_iff.1 h2
  split at h3
  · cases h3
    refine fits_ren [(1004005, q2.1)] ?_ ?_ ren_one rfl
    · exact List.forall_mem_cons.2 ⟨FV.one (row_i64_fit eq0), List.forall_mem_cons.2 ⟨FV.one (row_i64_fit eq1), List.forall_mem_cons.2 ⟨FV.one (tip_i64_fit eq2 rfl).1, List.forall_mem_cons.2 ⟨FV.one (FV.same (by assumption) rfl), List.forall_mem_cons.2 ⟨FV.one (FV.same (by assumption) rfl), fun _ hp => (List.not_mem_nil hp).elim⟩⟩⟩⟩⟩
    · exact List.forall_mem_cons.2 ⟨(tip_i64_fit eq2 rfl).2, fun _ hp => (List.not_mem_nil hp).elim⟩
  · cases h3
theorem pyxref1_SubNat.l4.fitO (o : Out U) (y : List Int) (h : pyxref1_SubNat.l4.re o = some y) : FitsO o (pyxref1_SubNat.l4.fin y) := by
  unfold pyxref1_SubNat.l4.re at h
  split at h
  · obtain ⟨q0, eq0, h1⟩ := Option.bind_eq_some_iff.1 h
    cases h1
    refine fitsO_exit (fits_ren [(1004005, q0.1)] ?_ ?_ ren_one rfl)
    · exact List.forall_mem_cons.2 ⟨FV.one (tip_i64_fit eq0 rfl).1, fun _ hp => (List.not_mem_nil hp).elim⟩
    · exact List.forall_mem_cons.2 ⟨(tip_i64_fit eq0 rfl).2, fun _ hp => (List.not_mem_nil hp).elim⟩
  · cases h
theorem pyxref1_SubNat.l4.sound (k : Nat) : LSound (pyxref1_SubNat.E k) Try.f72.ntmps Try.f72 (loopAt Try.f72 4) (pyxref1_SubNat.l4.L k) :=
  loop_sound (pyxref1_SubNat.ok k) mixed rfl (by kernel_rfl) (allL_of (l := []) (by kernel_rfl) allL_nil) pyxref1_SubNat.l4.un pyxref1_SubNat.l4.mk pyxref1_SubNat.l4.fin pyxref1_SubNat.l4.re (pyxref1_SubNat.l4.once k) k pyxref1_SubNat.l4.fit pyxref1_SubNat.l4.fitO (pyxref1_SubNat.l4.eq k) pyxref1_SubNat.l4.finK pyxref1_SubNat.l4.finK_eq
theorem pyxref1_SubNat.eq (k : Nat) (x : (List Int × List Int)) : runF (pyxref1_SubNat.E k) (codeOf Try.f72) (pyxref1_SubNat.mk x) pyxref1_SubNat.re = (pyxref1_SubNat.D k).f x := by kernel_rfl
theorem pyxref1_SubNat.fit (s : St U) (x : (List Int × List Int)) (h : pyxref1_SubNat.un s = some x) : Fits s (pyxref1_SubNat.mk x) := by
  unfold pyxref1_SubNat.un at h
  split at h
  · cases h
    refine fits_ren [] ?_ ?_ ren_nil rfl
    · exact List.forall_mem_cons.2 ⟨FV.one (FV.same (by assumption) rfl), List.forall_mem_cons.2 ⟨FV.one (FV.same (by assumption) rfl), fun _ hp => (List.not_mem_nil hp).elim⟩⟩
    · exact fun _ hp => (List.not_mem_nil hp).elim
  · cases h
theorem pyxref1_SubNat.fitR (s : St U) (y : List Int) (h : pyxref1_SubNat.re s = some y) : Fits s (pyxref1_SubNat.fin y) := by
  unfold pyxref1_SubNat.re at h
  split at h
  · cases h
    refine fits_ren [] ?_ ?_ ren_nil rfl
    · exact List.forall_mem_cons.2 ⟨FV.one (FV.same (by assumption) rfl), fun _ hp => (List.not_mem_nil hp).elim⟩
    · exact fun _ hp => (List.not_mem_nil hp).elim
  · cases h
theorem pyxref1_SubNat.sound (k : Nat) : Sound Try.prog DD 72 (pyxref1_SubNat.D k) :=
  fun_sound (E := pyxref1_SubNat.E k) (fn := Try.f72) (c := codeOf Try.f72) (pyxref1_SubNat.ok k) mixed rfl Try.func72 (by kernel_rfl) (by kernel_rfl) (allL_of (l := [loopAt Try.f72 4]) (by kernel_rfl) (allL_cons (key := 4) (by kernel_rfl) rfl (pyxref1_SubNat.l4.sound k) allL_nil)) (pyxref1_SubNat.D k) pyxref1_SubNat.mk pyxref1_SubNat.re (by kernel_rfl) (by kernel_rfl) pyxref1_SubNat.fit pyxref1_SubNat.fitR (pyxref1_SubNat.eq k)
/-! ### pyx/pyxref1.DivNat: function 36 -/
noncomputable def pyxref1_DivNat.l7.once (k : Nat) (x : (List Int × List Int × List Int × Int × List Int)) : Option ((List Int × List Int × List Int × Int × List Int) ⊕ ((List Int × List Int × List Int × Int × List Int))) := match x with | (x7, x8, x10, x11, x9) => (pyxref1_CmpNat.f k x10 x8).bind fun t12 => (cond (decide (t12 ≥ 0)) ((pyxref1_SubNat.f k x10 x8).bind fun t13 => (cond (inb x11 (List.length x9)) (cond (Nat.blt (Int.toNat x11) (List.length x9)) (cond (inb x11 (List.length x9)) (cond (Nat.blt (Int.toNat x11) (List.length x9)) (some (.inl (x7, x8, t13, x11, List.set x9 (Int.toNat x11) (IntKind.wrap .i64 ((List.getD x9 (Int.toNat x11) 0) + 1))))) none) none) none) none)) (some (.inr (x7, x8, x10, x11, x9))))
noncomputable def pyxref1_DivNat.l4.once (k : Nat) (x : (List Int × List Int × List Int × Int × List Int)) : Option ((List Int × List Int × List Int × Int × List Int) ⊕ ((List Int × List Int))) := match x with | (x1, x2, x4, x5, x3) => cond (decide (x5 ≥ 0)) (cond (inb x5 (List.length x1)) (cond (okLen (List.length [List.getD x1 (Int.toNat x5) 0] + List.length x4) 8) ((pyxref1_trim.f k ([List.getD x1 (Int.toNat x5) 0] ++ x4)).bind fun t6 => ((iter (pyxref1_DivNat.l7.once k) k (x1, x2, t6, x5, x3)).bind fun y19 => (some (.inl (y19.1, y19.2.1, y19.2.2.1, IntKind.wrap .i64 (y19.2.2.2.1 - 1), y19.2.2.2.2))))) none) none) (some (.inr (x4, x3)))
noncomputable def pyxref1_DivNat.f (k : Nat) (a0 : List Int) (a1 : List Int) : Option (List Int × List Int) := cond ((decide (0 ≤ (List.length a0 : Int)) && decide ((List.length a0 : Int) = (List.length a0 : Int))) && decide ((List.length a0 : Int) * 8 ≤ 140737488355328)) ((iter (pyxref1_DivNat.l4.once k) k (a0, a1, ([] : List Int), IntKind.wrap .i64 ((List.length a0 : Int) - 1), List.replicate (Int.toNat (List.length a0 : Int)) (0 : Int))).bind fun y22 => ((pyxref1_trim.f k y22.2).bind fun t23 => (some (t23, y22.1)))) none
noncomputable def pyxref1_DivNat.un (s : St U) : Option (List Int × List Int) := match s.get 0, s.get 1 with | .row C.i64 x1, .row C.i64 x2 => some (x1, x2) | _, _ => none
noncomputable def pyxref1_DivNat.mk (x : (List Int × List Int)) : St U := ⟨[(0, .row C.i64 x.1), (1, .row C.i64 x.2)], []⟩
noncomputable def pyxref1_DivNat.fin (y : (List Int × List Int)) : St U := ⟨[(0, .tup [.row C.i64 y.1, .row C.i64 y.2])], []⟩
noncomputable def pyxref1_DivNat.D (k : Nat) : FDen U := { X := (List Int × List Int), Y := (List Int × List Int), nt := 43, gh := [], un := pyxref1_DivNat.un, f := fun x => pyxref1_DivNat.f k (x.1) (x.2), fin := pyxref1_DivNat.fin, cl := true, clo := fun _ _ => rfl }
noncomputable def pyxref1_DivNat.re (s : St U) : Option (List Int × List Int) := match s.get 0 with | .tup [.row C.i64 x1, .row C.i64 x2] => some (x1, x2) | _ => none
noncomputable def pyxref1_DivNat.l7.mk (x : (List Int × List Int × List Int × Int × List Int)) : St U := match x with | (x7, x8, x10, x11, x9) => ⟨[(0, .row C.i64 x7), (1, .row C.i64 x8), (6, .vs 1007006), (7, .row C.i64 x10), (8, .flat (.int .i64 x11))], [(1007006, .vec C.i64 x9)]⟩
noncomputable def pyxref1_DivNat.l7.un (s : St U) : Option (List Int × List Int × List Int × Int × List Int) := (row_i64 (s.get 0)).bind fun q0 => ((row_i64 (s.get 1)).bind fun q1 => ((vec_i64 s.o (s.get 6)).bind fun q2 => ((row_i64 (s.get 7)).bind fun q3 => (match s.get 8 with | .flat (.int .i64 x11) => some (q0, q1, q3, x11, q2.2) | _ => none))))
noncomputable def pyxref1_DivNat.l7.fin (y : (List Int × List Int × List Int × Int × List Int)) : Out U := match y with | (x14, x15, x17, x18, x16) => .exit 2 ⟨[(0, .row C.i64 x14), (1, .row C.i64 x15), (6, .vs 1007006), (7, .row C.i64 x17), (8, .flat (.int .i64 x18))], [(1007006, .vec C.i64 x16)]⟩
noncomputable def pyxref1_DivNat.l7.finK {ρ : Type} (y : (List Int × List Int × List Int × Int × List Int)) (K : Out U → Option ρ) : Option ρ := match y with | (x14, x15, x17, x18, x16) => K (.exit 2 ⟨[(0, .row C.i64 x14), (1, .row C.i64 x15), (6, .vs 1007006), (7, .row C.i64 x17), (8, .flat (.int .i64 x18))], [(1007006, .vec C.i64 x16)]⟩)
theorem pyxref1_DivNat.l7.finK_eq {ρ : Type} (y : (List Int × List Int × List Int × Int × List Int)) (K : Out U → Option ρ) : pyxref1_DivNat.l7.finK y K = K (pyxref1_DivNat.l7.fin y) := by
  unfold pyxref1_DivNat.l7.finK pyxref1_DivNat.l7.fin
  first | rfl | (split <;> rfl)
noncomputable def pyxref1_DivNat.l7.re : Out U → Option ((List Int × List Int × List Int × Int × List Int)) | .exit 2 s => ((row_i64 (s.get 0)).bind fun q0 => ((row_i64 (s.get 1)).bind fun q1 => ((vec_i64 s.o (s.get 6)).bind fun q2 => ((row_i64 (s.get 7)).bind fun q3 => (match s.get 8 with | .flat (.int .i64 x18) => some (q0, q1, q3, x18, q2.2) | _ => none))))) | _ => none
noncomputable def pyxref1_DivNat.l7.L (k : Nat) : LDen U := { X := (List Int × List Int × List Int × Int × List Int), Y := (List Int × List Int × List Int × Int × List Int), un := pyxref1_DivNat.l7.un, f := iter (pyxref1_DivNat.l7.once k) k, fin := pyxref1_DivNat.l7.fin, finK := pyxref1_DivNat.l7.finK, finK_eq := pyxref1_DivNat.l7.finK_eq }
noncomputable def pyxref1_DivNat.l4.mk (x : (List Int × List Int × List Int × Int × List Int)) : St U := match x with | (x1, x2, x4, x5, x3) => ⟨[(0, .row C.i64 x1), (1, .row C.i64 x2), (6, .vs 1004006), (7, .row C.i64 x4), (8, .flat (.int .i64 x5))], [(1004006, .vec C.i64 x3)]⟩
noncomputable def pyxref1_DivNat.l4.un (s : St U) : Option (List Int × List Int × List Int × Int × List Int) := (row_i64 (s.get 0)).bind fun q0 => ((row_i64 (s.get 1)).bind fun q1 => ((vec_i64 s.o (s.get 6)).bind fun q2 => ((row_i64 (s.get 7)).bind fun q3 => (match s.get 8 with | .flat (.int .i64 x5) => some (q0, q1, q3, x5, q2.2) | _ => none))))
noncomputable def pyxref1_DivNat.l4.fin (y : (List Int × List Int)) : Out U := match y with | (x21, x20) => .exit 0 ⟨[(6, .vs 1004006), (7, .row C.i64 x21)], [(1004006, .vec C.i64 x20)]⟩
noncomputable def pyxref1_DivNat.l4.finK {ρ : Type} (y : (List Int × List Int)) (K : Out U → Option ρ) : Option ρ := match y with | (x21, x20) => K (.exit 0 ⟨[(6, .vs 1004006), (7, .row C.i64 x21)], [(1004006, .vec C.i64 x20)]⟩)
theorem pyxref1_DivNat.l4.finK_eq {ρ : Type} (y : (List Int × List Int)) (K : Out U → Option ρ) : pyxref1_DivNat.l4.finK y K = K (pyxref1_DivNat.l4.fin y) := by
  unfold pyxref1_DivNat.l4.finK pyxref1_DivNat.l4.fin
  first | rfl | (split <;> rfl)
noncomputable def pyxref1_DivNat.l4.re : Out U → Option ((List Int × List Int)) | .exit 0 s => ((vec_i64 s.o (s.get 6)).bind fun q0 => ((row_i64 (s.get 7)).bind fun q1 => (some (q1, q0.2)))) | _ => none
noncomputable def pyxref1_DivNat.l4.L (k : Nat) : LDen U := { X := (List Int × List Int × List Int × Int × List Int), Y := (List Int × List Int), un := pyxref1_DivNat.l4.un, f := iter (pyxref1_DivNat.l4.once k) k, fin := pyxref1_DivNat.l4.fin, finK := pyxref1_DivNat.l4.finK, finK_eq := pyxref1_DivNat.l4.finK_eq }
noncomputable def pyxref1_DivNat.jl : List (Nat × JDen U) := []
noncomputable def pyxref1_DivNat.fl (k : Nat) : List (Nat × FDen U) := [(71, pyxref1_trim.D k), (33, pyxref1_CmpNat.D k), (72, pyxref1_SubNat.D k)]
noncomputable def pyxref1_DivNat.ll (k : Nat) : List (Nat × LDen U) := [(7, pyxref1_DivNat.l7.L k), (4, pyxref1_DivNat.l4.L k)]
noncomputable def pyxref1_DivNat.E (k : Nat) : Env U := { P := Try.prog, D := DD, fd := lk (pyxref1_DivNat.fl k), ld := lk (pyxref1_DivNat.ll k), jd := lk pyxref1_DivNat.jl, mode := lk [], elc := lk ec, mpc := lk mc, rts := Try.f36.resultTypes.toList, dyn := fun t => false, vecs := fun d => Nat.beq d 11, results := Try.f36.results.toList, gh := [], own := false, io := fun g i => false }
theorem pyxref1_DivNat.ok (k : Nat) : EnvOk (pyxref1_DivNat.E k) := envOk lawful (pyxref1_DivNat.fl k) (pyxref1_DivNat.ll k) pyxref1_DivNat.jl _ _ _ _ _ _ _ _ _ _ (by
  intro p hp
  simp only [pyxref1_DivNat.fl, List.mem_cons, List.not_mem_nil, or_false] at hp
  rcases hp with rfl | rfl | rfl
  · exact ⟨pyxref1_trim.sound k, enter_of Try.func71 (by kernel_rfl) (by kernel_rfl)⟩
  · exact ⟨pyxref1_CmpNat.sound k, enter_of Try.func33 (by kernel_rfl) (by kernel_rfl)⟩
  · exact ⟨pyxref1_SubNat.sound k, enter_of Try.func72 (by kernel_rfl) (by kernel_rfl)⟩) (by
  intro p hp
  simp [pyxref1_DivNat.jl] at hp)
theorem pyxref1_DivNat.l7.eq (k : Nat) (x : (List Int × List Int × List Int × Int × List Int)) : evC (pyxref1_DivNat.E k) (loopAt Try.f36 7) (pyxref1_DivNat.l7.mk x) (headK pyxref1_DivNat.l7.un pyxref1_DivNat.l7.re) = pyxref1_DivNat.l7.once k x := by kernel_rfl
theorem pyxref1_DivNat.l7.fit (s : St U) (x : (List Int × List Int × List Int × Int × List Int)) (h : pyxref1_DivNat.l7.un s = some x) : Fits s (pyxref1_DivNat.l7.mk x) := by
  unfold pyxref1_DivNat.l7.un at h
  obtain ⟨q0, eq0, h1⟩ := Option.bind_eq_some_iff.1 h
  obtain ⟨q1, eq1, h2⟩ := Option.bind_eq_some_iff.1 h1
  obtain ⟨q2, eq2, h3⟩ := Option.bind_eq_some_iff.1 h2
  obtain ⟨q3, eq3, h4⟩ := Option.bind_eq_some_iff.1 h3
  split at h4
  · cases h4
    refine fits_ren [(1007006, q2.1)] ?_ ?_ ren_one rfl
    · exact List.forall_mem_cons.2 ⟨FV.one (row_i64_fit eq0), List.forall_mem_cons.2 ⟨FV.one (row_i64_fit eq1), List.forall_mem_cons.2 ⟨FV.one (vec_i64_fit eq2 rfl).1, List.forall_mem_cons.2 ⟨FV.one (row_i64_fit eq3), List.forall_mem_cons.2 ⟨FV.one (FV.same (by assumption) rfl), fun _ hp => (List.not_mem_nil hp).elim⟩⟩⟩⟩⟩
    · exact List.forall_mem_cons.2 ⟨(vec_i64_fit eq2 rfl).2, fun _ hp => (List.not_mem_nil hp).elim⟩
  · cases h4
theorem pyxref1_DivNat.l7.fitO (o : Out U) (y : (List Int × List Int × List Int × Int × List Int)) (h : pyxref1_DivNat.l7.re o = some y) : FitsO o (pyxref1_DivNat.l7.fin y) := by
  unfold pyxref1_DivNat.l7.re at h
  split at h
  · obtain ⟨q0, eq0, h1⟩ := Option.bind_eq_some_iff.1 h
    obtain ⟨q1, eq1, h2⟩ := Option.bind_eq_some_iff.1 h1
    obtain ⟨q2, eq2, h3⟩ := Option.bind_eq_some_iff.1 h2
    obtain ⟨q3, eq3, h4⟩ := Option.bind_eq_some_iff.1 h3
    split at h4
    · cases h4
      refine fitsO_exit (fits_ren [(1007006, q2.1)] ?_ ?_ ren_one rfl)
      · exact List.forall_mem_cons.2 ⟨FV.one (row_i64_fit eq0), List.forall_mem_cons.2 ⟨FV.one (row_i64_fit eq1), List.forall_mem_cons.2 ⟨FV.one (vec_i64_fit eq2 rfl).1, List.forall_mem_cons.2 ⟨FV.one (row_i64_fit eq3), List.forall_mem_cons.2 ⟨FV.one (FV.same (by assumption) rfl), fun _ hp => (List.not_mem_nil hp).elim⟩⟩⟩⟩⟩
      · exact List.forall_mem_cons.2 ⟨(vec_i64_fit eq2 rfl).2, fun _ hp => (List.not_mem_nil hp).elim⟩
    · cases h4
  · cases h
theorem pyxref1_DivNat.l7.sound (k : Nat) : LSound (pyxref1_DivNat.E k) Try.f36.ntmps Try.f36 (loopAt Try.f36 7) (pyxref1_DivNat.l7.L k) :=
  loop_sound (pyxref1_DivNat.ok k) mixed rfl (by kernel_rfl) (allL_of (l := []) (by kernel_rfl) allL_nil) pyxref1_DivNat.l7.un pyxref1_DivNat.l7.mk pyxref1_DivNat.l7.fin pyxref1_DivNat.l7.re (pyxref1_DivNat.l7.once k) k pyxref1_DivNat.l7.fit pyxref1_DivNat.l7.fitO (pyxref1_DivNat.l7.eq k) pyxref1_DivNat.l7.finK pyxref1_DivNat.l7.finK_eq
theorem pyxref1_DivNat.l4.eq (k : Nat) (x : (List Int × List Int × List Int × Int × List Int)) : evC (pyxref1_DivNat.E k) (loopAt Try.f36 4) (pyxref1_DivNat.l4.mk x) (headK pyxref1_DivNat.l4.un pyxref1_DivNat.l4.re) = pyxref1_DivNat.l4.once k x := by kernel_rfl
theorem pyxref1_DivNat.l4.fit (s : St U) (x : (List Int × List Int × List Int × Int × List Int)) (h : pyxref1_DivNat.l4.un s = some x) : Fits s (pyxref1_DivNat.l4.mk x) := by
  unfold pyxref1_DivNat.l4.un at h
  obtain ⟨q0, eq0, h1⟩ := Option.bind_eq_some_iff.1 h
  obtain ⟨q1, eq1, h2⟩ := Option.bind_eq_some_iff.1 h1
  obtain ⟨q2, eq2, h3⟩ := Option.bind_eq_some_iff.1 h2
  obtain ⟨q3, eq3, h4⟩ := Option.bind_eq_some_iff.1 h3
  split at h4
  · cases h4
    refine fits_ren [(1004006, q2.1)] ?_ ?_ ren_one rfl
    · exact List.forall_mem_cons.2 ⟨FV.one (row_i64_fit eq0), List.forall_mem_cons.2 ⟨FV.one (row_i64_fit eq1), List.forall_mem_cons.2 ⟨FV.one (vec_i64_fit eq2 rfl).1, List.forall_mem_cons.2 ⟨FV.one (row_i64_fit eq3), List.forall_mem_cons.2 ⟨FV.one (FV.same (by assumption) rfl), fun _ hp => (List.not_mem_nil hp).elim⟩⟩⟩⟩⟩
    · exact List.forall_mem_cons.2 ⟨(vec_i64_fit eq2 rfl).2, fun _ hp => (List.not_mem_nil hp).elim⟩
  · cases h4
theorem pyxref1_DivNat.l4.fitO (o : Out U) (y : (List Int × List Int)) (h : pyxref1_DivNat.l4.re o = some y) : FitsO o (pyxref1_DivNat.l4.fin y) := by
  unfold pyxref1_DivNat.l4.re at h
  split at h
  · obtain ⟨q0, eq0, h1⟩ := Option.bind_eq_some_iff.1 h
    obtain ⟨q1, eq1, h2⟩ := Option.bind_eq_some_iff.1 h1
    cases h2
    refine fitsO_exit (fits_ren [(1004006, q0.1)] ?_ ?_ ren_one rfl)
    · exact List.forall_mem_cons.2 ⟨FV.one (vec_i64_fit eq0 rfl).1, List.forall_mem_cons.2 ⟨FV.one (row_i64_fit eq1), fun _ hp => (List.not_mem_nil hp).elim⟩⟩
    · exact List.forall_mem_cons.2 ⟨(vec_i64_fit eq0 rfl).2, fun _ hp => (List.not_mem_nil hp).elim⟩
  · cases h
theorem pyxref1_DivNat.l4.sound (k : Nat) : LSound (pyxref1_DivNat.E k) Try.f36.ntmps Try.f36 (loopAt Try.f36 4) (pyxref1_DivNat.l4.L k) :=
  loop_sound (pyxref1_DivNat.ok k) mixed rfl (by kernel_rfl) (allL_of (l := [loopAt Try.f36 7]) (by kernel_rfl) (allL_cons (key := 7) (by kernel_rfl) rfl (pyxref1_DivNat.l7.sound k) allL_nil)) pyxref1_DivNat.l4.un pyxref1_DivNat.l4.mk pyxref1_DivNat.l4.fin pyxref1_DivNat.l4.re (pyxref1_DivNat.l4.once k) k pyxref1_DivNat.l4.fit pyxref1_DivNat.l4.fitO (pyxref1_DivNat.l4.eq k) pyxref1_DivNat.l4.finK pyxref1_DivNat.l4.finK_eq
theorem pyxref1_DivNat.eq (k : Nat) (x : (List Int × List Int)) : runF (pyxref1_DivNat.E k) (codeOf Try.f36) (pyxref1_DivNat.mk x) pyxref1_DivNat.re = (pyxref1_DivNat.D k).f x := by kernel_rfl
theorem pyxref1_DivNat.fit (s : St U) (x : (List Int × List Int)) (h : pyxref1_DivNat.un s = some x) : Fits s (pyxref1_DivNat.mk x) := by
  unfold pyxref1_DivNat.un at h
  split at h
  · cases h
    refine fits_ren [] ?_ ?_ ren_nil rfl
    · exact List.forall_mem_cons.2 ⟨FV.one (FV.same (by assumption) rfl), List.forall_mem_cons.2 ⟨FV.one (FV.same (by assumption) rfl), fun _ hp => (List.not_mem_nil hp).elim⟩⟩
    · exact fun _ hp => (List.not_mem_nil hp).elim
  · cases h
theorem pyxref1_DivNat.fitR (s : St U) (y : (List Int × List Int)) (h : pyxref1_DivNat.re s = some y) : Fits s (pyxref1_DivNat.fin y) := by
  unfold pyxref1_DivNat.re at h
  split at h
  · cases h
    refine fits_ren [] ?_ ?_ ren_nil rfl
    · exact List.forall_mem_cons.2 ⟨FV.tup (by assumption) (FTs.cons (FVA.one (FV.same rfl rfl)) (FTs.cons (FVA.one (FV.same rfl rfl)) (FTs.nil))), fun _ hp => (List.not_mem_nil hp).elim⟩
    · exact fun _ hp => (List.not_mem_nil hp).elim
  · cases h
theorem pyxref1_DivNat.sound (k : Nat) : Sound Try.prog DD 36 (pyxref1_DivNat.D k) :=
  fun_sound (E := pyxref1_DivNat.E k) (fn := Try.f36) (c := codeOf Try.f36) (pyxref1_DivNat.ok k) mixed rfl Try.func36 (by kernel_rfl) (by kernel_rfl) (allL_of (l := [loopAt Try.f36 4]) (by kernel_rfl) (allL_cons (key := 4) (by kernel_rfl) rfl (pyxref1_DivNat.l4.sound k) allL_nil)) (pyxref1_DivNat.D k) pyxref1_DivNat.mk pyxref1_DivNat.re (by kernel_rfl) (by kernel_rfl) pyxref1_DivNat.fit pyxref1_DivNat.fitR (pyxref1_DivNat.eq k)
/-! ### pyx/pyxref1.short: function 69 -/
noncomputable def pyxref1_short.l3.once (k : Nat) (x : (List Int × Int × Int)) : Option ((List Int × Int × Int) ⊕ (Int)) := match x with | (x1, x2, x3) => cond (decide (x3 ≥ 0)) (cond (inb x3 (List.length x1)) (some (.inl (x1, IntKind.wrap .u64 ((IntKind.wrap .u64 (10 * x2)) + (IntKind.wrap .u64 (List.getD x1 (Int.toNat x3) 0))), IntKind.wrap .i64 (x3 - 1)))) none) (some (.inr x2))
noncomputable def pyxref1_short.f (k : Nat) (a0 : List Int) : Option Int := (iter (pyxref1_short.l3.once k) k (a0, 0, IntKind.wrap .i64 ((List.length a0 : Int) - 1))).bind fun y5 => (some y5)
noncomputable def pyxref1_short.un (s : St U) : Option (List Int) := match s.get 0 with | .row C.i64 x1 => some x1 | _ => none
noncomputable def pyxref1_short.mk (x : List Int) : St U := ⟨[(0, .row C.i64 x)], []⟩
noncomputable def pyxref1_short.fin (y : Int) : St U := ⟨[(0, .flat (.int .u64 y))], []⟩
noncomputable def pyxref1_short.D (k : Nat) : FDen U := { X := List Int, Y := Int, nt := 21, gh := [], un := pyxref1_short.un, f := fun x => pyxref1_short.f k (x), fin := pyxref1_short.fin, cl := true, clo := fun _ _ => rfl }
noncomputable def pyxref1_short.re (s : St U) : Option Int := match s.get 0 with | .flat (.int .u64 x1) => some x1 | _ => none
noncomputable def pyxref1_short.l3.mk (x : (List Int × Int × Int)) : St U := match x with | (x1, x2, x3) => ⟨[(0, .row C.i64 x1), (3, .flat (.int .u64 x2)), (4, .flat (.int .i64 x3))], []⟩
noncomputable def pyxref1_short.l3.un (s : St U) : Option (List Int × Int × Int) := (row_i64 (s.get 0)).bind fun q0 => (match s.get 3, s.get 4 with | .flat (.int .u64 x2), .flat (.int .i64 x3) => some (q0, x2, x3) | _, _ => none)
noncomputable def pyxref1_short.l3.fin (y : Int) : Out U := match y with | x4 => .exit 0 ⟨[(3, .flat (.int .u64 x4))], []⟩
noncomputable def pyxref1_short.l3.finK {ρ : Type} (y : Int) (K : Out U → Option ρ) : Option ρ := match y with | x4 => K (.exit 0 ⟨[(3, .flat (.int .u64 x4))], []⟩)
theorem pyxref1_short.l3.finK_eq {ρ : Type} (y : Int) (K : Out U → Option ρ) : pyxref1_short.l3.finK y K = K (pyxref1_short.l3.fin y) := by
  unfold pyxref1_short.l3.finK pyxref1_short.l3.fin
  first | rfl | (split <;> rfl)
noncomputable def pyxref1_short.l3.re : Out U → Option (Int) | .exit 0 s => (match s.get 3 with | .flat (.int .u64 x4) => some x4 | _ => none) | _ => none
noncomputable def pyxref1_short.l3.L (k : Nat) : LDen U := { X := (List Int × Int × Int), Y := Int, un := pyxref1_short.l3.un, f := iter (pyxref1_short.l3.once k) k, fin := pyxref1_short.l3.fin, finK := pyxref1_short.l3.finK, finK_eq := pyxref1_short.l3.finK_eq }
noncomputable def pyxref1_short.jl : List (Nat × JDen U) := []
noncomputable def pyxref1_short.fl (k : Nat) : List (Nat × FDen U) := []
noncomputable def pyxref1_short.ll (k : Nat) : List (Nat × LDen U) := [(3, pyxref1_short.l3.L k)]
noncomputable def pyxref1_short.E (k : Nat) : Env U := { P := Try.prog, D := DD, fd := lk (pyxref1_short.fl k), ld := lk (pyxref1_short.ll k), jd := lk pyxref1_short.jl, mode := lk [], elc := lk ec, mpc := lk mc, rts := Try.f69.resultTypes.toList, dyn := fun t => false, vecs := fun d => false, results := Try.f69.results.toList, gh := [], own := false, io := fun g i => false }
theorem pyxref1_short.ok (k : Nat) : EnvOk (pyxref1_short.E k) := envOk lawful (pyxref1_short.fl k) (pyxref1_short.ll k) pyxref1_short.jl _ _ _ _ _ _ _ _ _ _ (by
  intro p hp
  simp [pyxref1_short.fl] at hp) (by
  intro p hp
  simp [pyxref1_short.jl] at hp)
theorem pyxref1_short.l3.eq (k : Nat) (x : (List Int × Int × Int)) : evC (pyxref1_short.E k) (loopAt Try.f69 3) (pyxref1_short.l3.mk x) (headK pyxref1_short.l3.un pyxref1_short.l3.re) = pyxref1_short.l3.once k x := by kernel_rfl
theorem pyxref1_short.l3.fit (s : St U) (x : (List Int × Int × Int)) (h : pyxref1_short.l3.un s = some x) : Fits s (pyxref1_short.l3.mk x) := by
  unfold pyxref1_short.l3.un at h
  obtain ⟨q0, eq0, h1⟩ := Option.bind_eq_some_iff.1 h
  split at h1
  · cases h1
    refine fits_ren [] ?_ ?_ ren_nil rfl
    · exact List.forall_mem_cons.2 ⟨FV.one (row_i64_fit eq0), List.forall_mem_cons.2 ⟨FV.one (FV.same (by assumption) rfl), List.forall_mem_cons.2 ⟨FV.one (FV.same (by assumption) rfl), fun _ hp => (List.not_mem_nil hp).elim⟩⟩⟩
    · exact fun _ hp => (List.not_mem_nil hp).elim
  · cases h1
theorem pyxref1_short.l3.fitO (o : Out U) (y : Int) (h : pyxref1_short.l3.re o = some y) : FitsO o (pyxref1_short.l3.fin y) := by
  unfold pyxref1_short.l3.re at h
  split at h
  · split at h
    · cases h
      refine fitsO_exit (fits_ren [] ?_ ?_ ren_nil rfl)
      · exact List.forall_mem_cons.2 ⟨FV.one (FV.same (by assumption) rfl), fun _ hp => (List.not_mem_nil hp).elim⟩
      · exact fun _ hp => (List.not_mem_nil hp).elim
    · cases h
  · cases h
theorem pyxref1_short.l3.sound (k : Nat) : LSound (pyxref1_short.E k) Try.f69.ntmps Try.f69 (loopAt Try.f69 3) (pyxref1_short.l3.L k) :=
  loop_sound (pyxref1_short.ok k) mixed rfl (by kernel_rfl) (allL_of (l := []) (by kernel_rfl) allL_nil) pyxref1_short.l3.un pyxref1_short.l3.mk pyxref1_short.l3.fin pyxref1_short.l3.re (pyxref1_short.l3.once k) k pyxref1_short.l3.fit pyxref1_short.l3.fitO (pyxref1_short.l3.eq k) pyxref1_short.l3.finK pyxref1_short.l3.finK_eq
theorem pyxref1_short.eq (k : Nat) (x : List Int) : runF (pyxref1_short.E k) (codeOf Try.f69) (pyxref1_short.mk x) pyxref1_short.re = (pyxref1_short.D k).f x := by kernel_rfl
theorem pyxref1_short.fit (s : St U) (x : List Int) (h : pyxref1_short.un s = some x) : Fits s (pyxref1_short.mk x) := by
  unfold pyxref1_short.un at h
  split at h
  · cases h
    refine fits_ren [] ?_ ?_ ren_nil rfl
    · exact List.forall_mem_cons.2 ⟨FV.one (FV.same (by assumption) rfl), fun _ hp => (List.not_mem_nil hp).elim⟩
    · exact fun _ hp => (List.not_mem_nil hp).elim
  · cases h
theorem pyxref1_short.fitR (s : St U) (y : Int) (h : pyxref1_short.re s = some y) : Fits s (pyxref1_short.fin y) := by
  unfold pyxref1_short.re at h
  split at h
  · cases h
    refine fits_ren [] ?_ ?_ ren_nil rfl
    · exact List.forall_mem_cons.2 ⟨FV.one (FV.same (by assumption) rfl), fun _ hp => (List.not_mem_nil hp).elim⟩
    · exact fun _ hp => (List.not_mem_nil hp).elim
  · cases h
theorem pyxref1_short.sound (k : Nat) : Sound Try.prog DD 69 (pyxref1_short.D k) :=
  fun_sound (E := pyxref1_short.E k) (fn := Try.f69) (c := codeOf Try.f69) (pyxref1_short.ok k) mixed rfl Try.func69 (by kernel_rfl) (by kernel_rfl) (allL_of (l := [loopAt Try.f69 3]) (by kernel_rfl) (allL_cons (key := 3) (by kernel_rfl) rfl (pyxref1_short.l3.sound k) allL_nil)) (pyxref1_short.D k) pyxref1_short.mk pyxref1_short.re (by kernel_rfl) (by kernel_rfl) pyxref1_short.fit pyxref1_short.fitR (pyxref1_short.eq k)
/-! ### pyx/pyxref1.Words2: function 31 -/
noncomputable def pyxref1_Words2.f (k : Nat) (a0 : List Int) : Option ((Int × Int) × Bool) := (pyxref1_radix.f k).bind fun t1 => ((pyxref1_DivNat.f k a0 t1).bind fun t2 => ((pyxref1_radix.f k).bind fun t3 => ((pyxref1_CmpNat.f k t2.1 t3).bind fun t4 => (cond (decide (t4 ≥ 0)) (some ((0, 0), false)) ((pyxref1_short.f k t2.2).bind fun t5 => ((pyxref1_short.f k t2.1).bind fun t6 => (some ((t5, t6), true))))))))
noncomputable def pyxref1_Words2.un (s : St U) : Option (List Int) := match s.get 0 with | .row C.i64 x1 => some x1 | _ => none
noncomputable def pyxref1_Words2.mk (x : List Int) : St U := ⟨[(0, .row C.i64 x)], []⟩
noncomputable def pyxref1_Words2.fin (y : ((Int × Int) × Bool)) : St U := ⟨[(0, .tup [.agg [.flat (.int .u64 y.1.1), .flat (.int .u64 y.1.2)], .flat (.bool y.2)])], []⟩
noncomputable def pyxref1_Words2.D (k : Nat) : FDen U := { X := List Int, Y := ((Int × Int) × Bool), nt := 22, gh := [], un := pyxref1_Words2.un, f := fun x => pyxref1_Words2.f k (x), fin := pyxref1_Words2.fin, cl := true, clo := fun _ _ => rfl }
noncomputable def pyxref1_Words2.re (s : St U) : Option ((Int × Int) × Bool) := match s.get 0 with | .tup [.agg [.flat (.int .u64 x1), .flat (.int .u64 x2)], .flat (.bool x3)] => some ((x1, x2), x3) | _ => none
noncomputable def pyxref1_Words2.jl : List (Nat × JDen U) := []
noncomputable def pyxref1_Words2.fl (k : Nat) : List (Nat × FDen U) := [(68, pyxref1_radix.D k), (36, pyxref1_DivNat.D k), (33, pyxref1_CmpNat.D k), (69, pyxref1_short.D k)]
noncomputable def pyxref1_Words2.ll (k : Nat) : List (Nat × LDen U) := []
noncomputable def pyxref1_Words2.E (k : Nat) : Env U := { P := Try.prog, D := DD, fd := lk (pyxref1_Words2.fl k), ld := lk (pyxref1_Words2.ll k), jd := lk pyxref1_Words2.jl, mode := lk [], elc := lk ec, mpc := lk mc, rts := Try.f31.resultTypes.toList, dyn := fun t => false, vecs := fun d => false, results := Try.f31.results.toList, gh := [], own := false, io := fun g i => false }
theorem pyxref1_Words2.ok (k : Nat) : EnvOk (pyxref1_Words2.E k) := envOk lawful (pyxref1_Words2.fl k) (pyxref1_Words2.ll k) pyxref1_Words2.jl _ _ _ _ _ _ _ _ _ _ (by
  intro p hp
  simp only [pyxref1_Words2.fl, List.mem_cons, List.not_mem_nil, or_false] at hp
  rcases hp with rfl | rfl | rfl | rfl
  · exact ⟨pyxref1_radix.sound k, enter_of Try.func68 (by kernel_rfl) (by kernel_rfl)⟩
  · exact ⟨pyxref1_DivNat.sound k, enter_of Try.func36 (by kernel_rfl) (by kernel_rfl)⟩
  · exact ⟨pyxref1_CmpNat.sound k, enter_of Try.func33 (by kernel_rfl) (by kernel_rfl)⟩
  · exact ⟨pyxref1_short.sound k, enter_of Try.func69 (by kernel_rfl) (by kernel_rfl)⟩) (by
  intro p hp
  simp [pyxref1_Words2.jl] at hp)
theorem pyxref1_Words2.eq (k : Nat) (x : List Int) : runF (pyxref1_Words2.E k) (codeOf Try.f31) (pyxref1_Words2.mk x) pyxref1_Words2.re = (pyxref1_Words2.D k).f x := by kernel_rfl
theorem pyxref1_Words2.fit (s : St U) (x : List Int) (h : pyxref1_Words2.un s = some x) : Fits s (pyxref1_Words2.mk x) := by
  unfold pyxref1_Words2.un at h
  split at h
  · cases h
    refine fits_ren [] ?_ ?_ ren_nil rfl
    · exact List.forall_mem_cons.2 ⟨FV.one (FV.same (by assumption) rfl), fun _ hp => (List.not_mem_nil hp).elim⟩
    · exact fun _ hp => (List.not_mem_nil hp).elim
  · cases h
theorem pyxref1_Words2.fitR (s : St U) (y : ((Int × Int) × Bool)) (h : pyxref1_Words2.re s = some y) : Fits s (pyxref1_Words2.fin y) := by
  unfold pyxref1_Words2.re at h
  split at h
  · cases h
    refine fits_ren [] ?_ ?_ ren_nil rfl
    · exact List.forall_mem_cons.2 ⟨FV.tup (by assumption) (FTs.cons (FVA.one (FV.same rfl rfl)) (FTs.cons (FVA.one (FV.same rfl rfl)) (FTs.nil))), fun _ hp => (List.not_mem_nil hp).elim⟩
    · exact fun _ hp => (List.not_mem_nil hp).elim
  · cases h
theorem pyxref1_Words2.sound (k : Nat) : Sound Try.prog DD 31 (pyxref1_Words2.D k) :=
  fun_sound (E := pyxref1_Words2.E k) (fn := Try.f31) (c := codeOf Try.f31) (pyxref1_Words2.ok k) mixed rfl Try.func31 (by kernel_rfl) (by kernel_rfl) (allL_of (l := []) (by kernel_rfl) allL_nil) (pyxref1_Words2.D k) pyxref1_Words2.mk pyxref1_Words2.re (by kernel_rfl) (by kernel_rfl) pyxref1_Words2.fit pyxref1_Words2.fitR (pyxref1_Words2.eq k)
/-! ### pyx/pyxref1.Make: function 83 -/
noncomputable def pyxref1_Make.f (k : Nat) (a0 : Bool) (a1 : List Int) (a2 : Int) : Option (Sapi_Dec × Int) := ((cond (decide ((List.length a1 : Int) > 30)) (some (a0, a1, a2, true, false, 0, 0, 0)) (cond (decide (a2 < 0)) (some (a0, a1, a2, true, false, 0, 0, 0)) (some (a0, a1, a2, decide (a2 > 9), false, 0, 0, 0)))) : Option (Bool × List Int × Int × Bool × Bool × Int × Int × Int)).bind fun y9 => (cond (y9.2.2.2.1) (some ((⟨false, (0, 0), 0⟩ : Sapi_Dec), 3)) ((pyxref1_Words2.f k y9.2.1).bind fun t10 => (cond (y9.1) (some ((⟨decide ((List.length y9.2.1 : Int) > 0), (t10.1.1, t10.1.2), y9.2.2.1⟩ : Sapi_Dec), 0)) (some ((⟨false, (t10.1.1, t10.1.2), y9.2.2.1⟩ : Sapi_Dec), 0)))))
noncomputable def pyxref1_Make.un (s : St U) : Option (Bool × List Int × Int) := match s.get 0, s.get 1, s.get 2 with | .flat (.bool x1), .row C.i64 x2, .flat (.int .i64 x3) => some (x1, x2, x3) | _, _, _ => none
noncomputable def pyxref1_Make.mk (x : (Bool × List Int × Int)) : St U := ⟨[(0, .flat (.bool x.1)), (1, .row C.i64 x.2.1), (2, .flat (.int .i64 x.2.2))], []⟩
noncomputable def pyxref1_Make.fin (y : (Sapi_Dec × Int)) : St U := ⟨[(0, .tup [.agg [.flat (.bool y.1.f_Neg), .flat (.int .u64 y.1.f_C.1), .flat (.int .u64 y.1.f_C.2), .flat (.int .i64 y.1.f_Scale)], .flat (.int .i64 y.2)])], []⟩
noncomputable def pyxref1_Make.D (k : Nat) : FDen U := { X := (Bool × List Int × Int), Y := (Sapi_Dec × Int), nt := 36, gh := [], un := pyxref1_Make.un, f := fun x => pyxref1_Make.f k (x.1) (x.2.1) (x.2.2), fin := pyxref1_Make.fin, cl := true, clo := fun _ _ => rfl }
noncomputable def pyxref1_Make.re (s : St U) : Option (Sapi_Dec × Int) := match s.get 0 with | .tup [.agg [.flat (.bool x1), .flat (.int .u64 x2), .flat (.int .u64 x3), .flat (.int .i64 x4)], .flat (.int .i64 x5)] => some ((⟨x1, (x2, x3), x4⟩ : Sapi_Dec), x5) | _ => none
noncomputable def pyxref1_Make.j1000.fin (y : (Bool × List Int × Int × Bool × Bool × Int × Int × Int)) : Out U := match y with | (x1, x2, x3, x8, x4, x5, x6, x7) => .norm ⟨[(6, .ptr 6 0), (0, .flat (.bool x1)), (1, .row C.i64 x2), (2, .flat (.int .i64 x3)), (20, .flat (.bool x8))], [(6, .lit [.flat (.bool x4), .flat (.int .u64 x5), .flat (.int .u64 x6), .flat (.int .i64 x7)])]⟩
noncomputable def pyxref1_Make.j1000.finK {ρ : Type} (y : (Bool × List Int × Int × Bool × Bool × Int × Int × Int)) (K : Out U → Option ρ) : Option ρ := match y with | (x1, x2, x3, x8, x4, x5, x6, x7) => K (.norm ⟨[(6, .ptr 6 0), (0, .flat (.bool x1)), (1, .row C.i64 x2), (2, .flat (.int .i64 x3)), (20, .flat (.bool x8))], [(6, .lit [.flat (.bool x4), .flat (.int .u64 x5), .flat (.int .u64 x6), .flat (.int .i64 x7)])]⟩)
theorem pyxref1_Make.j1000.finK_eq {ρ : Type} (y : (Bool × List Int × Int × Bool × Bool × Int × Int × Int)) (K : Out U → Option ρ) : pyxref1_Make.j1000.finK y K = K (pyxref1_Make.j1000.fin y) := by
  unfold pyxref1_Make.j1000.finK pyxref1_Make.j1000.fin
  first | rfl | (split <;> rfl)
noncomputable def pyxref1_Make.j1000.re : Out U → Option ((Bool × List Int × Int × Bool × Bool × Int × Int × Int)) | .norm s => ((row_i64 (s.get 1)).bind fun q0 => (match s.get 6, s.get 0, s.get 2, s.get 20, lk s.o 6 with | .ptr 6 0, .flat (.bool x1), .flat (.int .i64 x3), .flat (.bool x8), some (.lit [.flat (.bool x4), .flat (.int .u64 x5), .flat (.int .u64 x6), .flat (.int .i64 x7)]) => some (x1, q0, x3, x8, x4, x5, x6, x7) | _, _, _, _, _ => none)) | _ => none
noncomputable def pyxref1_Make.j1000.J : JDen U := { Y := (Bool × List Int × Int × Bool × Bool × Int × Int × Int), re := pyxref1_Make.j1000.re, fin := pyxref1_Make.j1000.fin, finK := pyxref1_Make.j1000.finK, finK_eq := pyxref1_Make.j1000.finK_eq }
theorem pyxref1_Make.j1000.fit (o : Out U) (y : (Bool × List Int × Int × Bool × Bool × Int × Int × Int)) (h : pyxref1_Make.j1000.re o = some y) : FitsO o (pyxref1_Make.j1000.fin y) := by
  unfold pyxref1_Make.j1000.re at h
  split at h
  · obtain ⟨q0, eq0, h1⟩ := Option.bind_eq_some_iff.1 h
    split at h1
    · cases h1
      refine fitsO_norm (fits_ren [] ?_ ?_ ren_nil rfl)
      · exact List.forall_mem_cons.2 ⟨FV.one (FV.ptr (by assumption)), List.forall_mem_cons.2 ⟨FV.one (FV.same (by assumption) rfl), List.forall_mem_cons.2 ⟨FV.one (row_i64_fit eq0), List.forall_mem_cons.2 ⟨FV.one (FV.same (by assumption) rfl), List.forall_mem_cons.2 ⟨FV.one (FV.same (by assumption) rfl), fun _ hp => (List.not_mem_nil hp).elim⟩⟩⟩⟩⟩
      · exact List.forall_mem_cons.2 ⟨(FO.same (show lk (St.o _) 6 = some _ from by assumption) rfl), fun _ hp => (List.not_mem_nil hp).elim⟩
    · cases h1
  · cases h
noncomputable def pyxref1_Make.jl : List (Nat × JDen U) := [(1000, pyxref1_Make.j1000.J)]
noncomputable def pyxref1_Make.fl (k : Nat) : List (Nat × FDen U) := [(31, pyxref1_Words2.D k)]
noncomputable def pyxref1_Make.ll (k : Nat) : List (Nat × LDen U) := []
noncomputable def pyxref1_Make.E (k : Nat) : Env U := { P := Try.prog, D := DD, fd := lk (pyxref1_Make.fl k), ld := lk (pyxref1_Make.ll k), jd := lk pyxref1_Make.jl, mode := lk [], elc := lk ec, mpc := lk mc, rts := Try.f83.resultTypes.toList, dyn := fun t => false, vecs := fun d => false, results := Try.f83.results.toList, gh := [], own := false, io := fun g i => false }
theorem pyxref1_Make.ok (k : Nat) : EnvOk (pyxref1_Make.E k) := envOk lawful (pyxref1_Make.fl k) (pyxref1_Make.ll k) pyxref1_Make.jl _ _ _ _ _ _ _ _ _ _ (by
  intro p hp
  simp only [pyxref1_Make.fl, List.mem_cons, List.not_mem_nil, or_false] at hp
  rcases hp with rfl
  · exact ⟨pyxref1_Words2.sound k, enter_of Try.func31 (by kernel_rfl) (by kernel_rfl)⟩) (by
  intro p hp
  simp only [pyxref1_Make.jl, List.mem_cons, List.not_mem_nil, or_false] at hp
  rcases hp with rfl
  · exact pyxref1_Make.j1000.fit)
theorem pyxref1_Make.eq (k : Nat) (x : (Bool × List Int × Int)) : runF (pyxref1_Make.E k) (codeOf Try.f83) (pyxref1_Make.mk x) pyxref1_Make.re = (pyxref1_Make.D k).f x := by kernel_rfl
theorem pyxref1_Make.fit (s : St U) (x : (Bool × List Int × Int)) (h : pyxref1_Make.un s = some x) : Fits s (pyxref1_Make.mk x) := by
  unfold pyxref1_Make.un at h
  split at h
  · cases h
    refine fits_ren [] ?_ ?_ ren_nil rfl
    · exact List.forall_mem_cons.2 ⟨FV.one (FV.same (by assumption) rfl), List.forall_mem_cons.2 ⟨FV.one (FV.same (by assumption) rfl), List.forall_mem_cons.2 ⟨FV.one (FV.same (by assumption) rfl), fun _ hp => (List.not_mem_nil hp).elim⟩⟩⟩
    · exact fun _ hp => (List.not_mem_nil hp).elim
  · cases h
theorem pyxref1_Make.fitR (s : St U) (y : (Sapi_Dec × Int)) (h : pyxref1_Make.re s = some y) : Fits s (pyxref1_Make.fin y) := by
  unfold pyxref1_Make.re at h
  split at h
  · cases h
    refine fits_ren [] ?_ ?_ ren_nil rfl
    · exact List.forall_mem_cons.2 ⟨FV.tup (by assumption) (FTs.cons (FVA.one (FV.same rfl rfl)) (FTs.cons (FVA.one (FV.same rfl rfl)) (FTs.nil))), fun _ hp => (List.not_mem_nil hp).elim⟩
    · exact fun _ hp => (List.not_mem_nil hp).elim
  · cases h
theorem pyxref1_Make.sound (k : Nat) : Sound Try.prog DD 83 (pyxref1_Make.D k) :=
  fun_sound (E := pyxref1_Make.E k) (fn := Try.f83) (c := codeOf Try.f83) (pyxref1_Make.ok k) mixed rfl Try.func83 (by kernel_rfl) (by kernel_rfl) (allL_of (l := []) (by kernel_rfl) allL_nil) (pyxref1_Make.D k) pyxref1_Make.mk pyxref1_Make.re (by kernel_rfl) (by kernel_rfl) pyxref1_Make.fit pyxref1_Make.fitR (pyxref1_Make.eq k)
end
end Go.Proofs.Ythknecaigoilmaa
