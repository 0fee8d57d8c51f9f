import Derived.Test.YtojkgadihooplaaF1
/-! Functions, told; their equations with the evaluator; that they are sound. Written by gen.py. -/
namespace Go.Proofs.Ytojkgadihooplaa
open Go Go.Ev
noncomputable section
set_option linter.unusedVariables false
set_option linter.unusedSimpArgs false
set_option maxRecDepth 100000
/-! ### pyx/chart.Retained: function 34 -/
noncomputable def chart_Retained.f (k : Nat)  : Option Int := some 8
noncomputable def chart_Retained.un : List (AV U) → Option Unit | [] => some () | _ => none
noncomputable def chart_Retained.mk (x : Unit) : List (AV U) := []
noncomputable def chart_Retained.D (k : Nat) : FDen U := { X := Unit, Y := Int, un := chart_Retained.un, f := fun x => chart_Retained.f k , fin := fun y => .flat (.int .i64 y) }
noncomputable def chart_Retained.re : AV U → Option Int | .flat (.int .i64 x1) => some x1 | _ => none
noncomputable def chart_Retained.jl : List (Nat × JDen U) := []
noncomputable def chart_Retained.fl (k : Nat) : List (Nat × FDen U) := []
noncomputable def chart_Retained.ll (k : Nat) : List (Nat × LDen U) := []
noncomputable def chart_Retained.E (k : Nat) : Env U := { P := Try.prog, D := DD, fd := lk (chart_Retained.fl k), ld := lk (chart_Retained.ll k), jd := lk chart_Retained.jl, mode := lk [], elc := lk ec, dyn := fun t => false, vecs := fun d => false, results := Try.f34.results.toList }
theorem chart_Retained.ok (k : Nat) : EnvOk (chart_Retained.E k) := envOk lawful (chart_Retained.fl k) (chart_Retained.ll k) chart_Retained.jl _ _ _ _ _ (by
  intro p hp
  simp [chart_Retained.fl] at hp) (by
  intro p hp
  simp [chart_Retained.jl] at hp)
theorem chart_Retained.eq (k : Nat) (x : Unit) : runF (chart_Retained.E k) (codeOf Try.f34) (chart_Retained.mk x) chart_Retained.re = (chart_Retained.D k).f x := by kernel_rfl
theorem chart_Retained.sound (k : Nat) : Sound Try.prog DD 34 (chart_Retained.D k) :=
  fun_sound (E := chart_Retained.E k) (fn := Try.f34) (c := codeOf Try.f34) (chart_Retained.ok k) mixed rfl Try.func34 (by kernel_rfl) (by kernel_rfl) (allL_of (l := []) (by kernel_rfl) allL_nil) (chart_Retained.D k) chart_Retained.mk chart_Retained.re
    (by intro args x h; replace h : chart_Retained.un args = some x := h; unfold chart_Retained.un at h; split at h; · cases h; rfl
        · cases h)
    (by intro v y h; unfold chart_Retained.re at h; split at h; · cases h; rfl
        · cases h)
    (fun _ => rfl) (fun x => Nat.le_of_ble_eq_true (by kernel_rfl)) (chart_Retained.eq k)
/-! ### pyx/pyxlaw11.known: function 15 -/
noncomputable def pyxlaw11_known.f (k : Nat)  : Option Bool := (chart_Kind.f k 9).bind fun t1 => (cond (t1 == 4) ((chart_Retained.f k).bind fun t2 => (some (t2 == 8))) (some false))
noncomputable def pyxlaw11_known.un : List (AV U) → Option Unit | [] => some () | _ => none
noncomputable def pyxlaw11_known.mk (x : Unit) : List (AV U) := []
noncomputable def pyxlaw11_known.D (k : Nat) : FDen U := { X := Unit, Y := Bool, un := pyxlaw11_known.un, f := fun x => pyxlaw11_known.f k , fin := fun y => .flat (.bool y) }
noncomputable def pyxlaw11_known.re : AV U → Option Bool | .flat (.bool x1) => some x1 | _ => none
noncomputable def pyxlaw11_known.jl : List (Nat × JDen U) := []
noncomputable def pyxlaw11_known.fl (k : Nat) : List (Nat × FDen U) := [(13, chart_Kind.D k), (34, chart_Retained.D k)]
noncomputable def pyxlaw11_known.ll (k : Nat) : List (Nat × LDen U) := []
noncomputable def pyxlaw11_known.E (k : Nat) : Env U := { P := Try.prog, D := DD, fd := lk (pyxlaw11_known.fl k), ld := lk (pyxlaw11_known.ll k), jd := lk pyxlaw11_known.jl, mode := lk [], elc := lk ec, dyn := fun t => false, vecs := fun d => false, results := Try.f15.results.toList }
theorem pyxlaw11_known.ok (k : Nat) : EnvOk (pyxlaw11_known.E k) := envOk lawful (pyxlaw11_known.fl k) (pyxlaw11_known.ll k) pyxlaw11_known.jl _ _ _ _ _ (by
  intro p hp
  simp only [pyxlaw11_known.fl, List.mem_cons, List.not_mem_nil, or_false] at hp
  rcases hp with rfl | rfl
  · exact ⟨chart_Kind.sound k, enter_of Try.func13 (by kernel_rfl) (by kernel_rfl)⟩
  · exact ⟨chart_Retained.sound k, enter_of Try.func34 (by kernel_rfl) (by kernel_rfl)⟩) (by
  intro p hp
  simp [pyxlaw11_known.jl] at hp)
theorem pyxlaw11_known.eq (k : Nat) (x : Unit) : runF (pyxlaw11_known.E k) (codeOf Try.f15) (pyxlaw11_known.mk x) pyxlaw11_known.re = (pyxlaw11_known.D k).f x := by kernel_rfl
theorem pyxlaw11_known.sound (k : Nat) : Sound Try.prog DD 15 (pyxlaw11_known.D k) :=
  fun_sound (E := pyxlaw11_known.E k) (fn := Try.f15) (c := codeOf Try.f15) (pyxlaw11_known.ok k) mixed rfl Try.func15 (by kernel_rfl) (by kernel_rfl) (allL_of (l := []) (by kernel_rfl) allL_nil) (pyxlaw11_known.D k) pyxlaw11_known.mk pyxlaw11_known.re
    (by intro args x h; replace h : pyxlaw11_known.un args = some x := h; unfold pyxlaw11_known.un at h; split at h; · cases h; rfl
        · cases h)
    (by intro v y h; unfold pyxlaw11_known.re at h; split at h; · cases h; rfl
        · cases h)
    (fun _ => rfl) (fun x => Nat.le_of_ble_eq_true (by kernel_rfl)) (pyxlaw11_known.eq k)
/-! ### pyx/pyxref11.Kind: function 16 -/
noncomputable def pyxref11_Kind.f (k : Nat) (a0 : Int) : Option Int := ((cond (decide (a0 < 0)) (some (a0, true)) (some (a0, decide (a0 ≥ 16)))) : Option (Int × Bool)).bind fun y3 => (cond (y3.2) (some 0) (cond (decide (y3.1 < 4)) (some 1) (cond (decide (y3.1 < 7)) (some 2) (cond (decide (y3.1 < 9)) (some 3) (some 4)))))
noncomputable def pyxref11_Kind.un : List (AV U) → Option Int | [.flat (.int .i64 x1)] => some x1 | _ => none
noncomputable def pyxref11_Kind.mk (x : Int) : List (AV U) := [.flat (.int .i64 x)]
noncomputable def pyxref11_Kind.D (k : Nat) : FDen U := { X := Int, Y := Int, un := pyxref11_Kind.un, f := fun x => pyxref11_Kind.f k (x), fin := fun y => .flat (.int .i64 y) }
noncomputable def pyxref11_Kind.re : AV U → Option Int | .flat (.int .i64 x1) => some x1 | _ => none
noncomputable def pyxref11_Kind.j1000.fin (y : (Int × Bool)) : Out U := match y with | (x1, x2) => .norm ⟨[(0, .flat (.int .i64 x1)), (3, .flat (.bool x2))], []⟩
noncomputable def pyxref11_Kind.j1000.finK {ρ : Type} (y : (Int × Bool)) (K : Out U → Option ρ) : Option ρ := match y with | (x1, x2) => K (.norm ⟨[(0, .flat (.int .i64 x1)), (3, .flat (.bool x2))], []⟩)
theorem pyxref11_Kind.j1000.finK_eq {ρ : Type} (y : (Int × Bool)) (K : Out U → Option ρ) : pyxref11_Kind.j1000.finK y K = K (pyxref11_Kind.j1000.fin y) := by
  unfold pyxref11_Kind.j1000.finK pyxref11_Kind.j1000.fin
  first | rfl | (split <;> rfl)
noncomputable def pyxref11_Kind.j1000.re : Out U → Option ((Int × Bool)) | .norm s => (match s.get 0, s.get 3 with | .flat (.int .i64 x1), .flat (.bool x2) => some (x1, x2) | _, _ => none) | _ => none
noncomputable def pyxref11_Kind.j1000.J : JDen U := { Y := (Int × Bool), re := pyxref11_Kind.j1000.re, fin := pyxref11_Kind.j1000.fin, finK := pyxref11_Kind.j1000.finK, finK_eq := pyxref11_Kind.j1000.finK_eq }
theorem pyxref11_Kind.j1000.fit (o : Out U) (y : (Int × Bool)) (h : pyxref11_Kind.j1000.re o = some y) : FitsO o (pyxref11_Kind.j1000.fin y) := by
  unfold pyxref11_Kind.j1000.re at h
  split at h
  · split at h
    · cases h
      refine fitsO_norm (fits_ren [] ?_ ?_ ren_nil rfl)
      · exact List.forall_mem_cons.2 ⟨FV.same (by assumption) (fun _ _ _ hh => by cases hh) (fun _ hh => by cases hh), List.forall_mem_cons.2 ⟨FV.same (by assumption) (fun _ _ _ hh => by cases hh) (fun _ hh => by cases hh), fun _ hp => (List.not_mem_nil hp).elim⟩⟩
      · exact fun _ hp => (List.not_mem_nil hp).elim
    · cases h
  · cases h
noncomputable def pyxref11_Kind.jl : List (Nat × JDen U) := [(1000, pyxref11_Kind.j1000.J)]
noncomputable def pyxref11_Kind.fl (k : Nat) : List (Nat × FDen U) := []
noncomputable def pyxref11_Kind.ll (k : Nat) : List (Nat × LDen U) := []
noncomputable def pyxref11_Kind.E (k : Nat) : Env U := { P := Try.prog, D := DD, fd := lk (pyxref11_Kind.fl k), ld := lk (pyxref11_Kind.ll k), jd := lk pyxref11_Kind.jl, mode := lk [], elc := lk ec, dyn := fun t => false, vecs := fun d => false, results := Try.f16.results.toList }
theorem pyxref11_Kind.ok (k : Nat) : EnvOk (pyxref11_Kind.E k) := envOk lawful (pyxref11_Kind.fl k) (pyxref11_Kind.ll k) pyxref11_Kind.jl _ _ _ _ _ (by
  intro p hp
  simp [pyxref11_Kind.fl] at hp) (by
  intro p hp
  simp only [pyxref11_Kind.jl, List.mem_cons, List.not_mem_nil, or_false] at hp
  rcases hp with rfl
  · exact pyxref11_Kind.j1000.fit)
theorem pyxref11_Kind.eq (k : Nat) (x : Int) : runF (pyxref11_Kind.E k) (codeOf Try.f16) (pyxref11_Kind.mk x) pyxref11_Kind.re = (pyxref11_Kind.D k).f x := by kernel_rfl
theorem pyxref11_Kind.sound (k : Nat) : Sound Try.prog DD 16 (pyxref11_Kind.D k) :=
  fun_sound (E := pyxref11_Kind.E k) (fn := Try.f16) (c := codeOf Try.f16) (pyxref11_Kind.ok k) mixed rfl Try.func16 (by kernel_rfl) (by kernel_rfl) (allL_of (l := []) (by kernel_rfl) allL_nil) (pyxref11_Kind.D k) pyxref11_Kind.mk pyxref11_Kind.re
    (by intro args x h; replace h : pyxref11_Kind.un args = some x := h; unfold pyxref11_Kind.un at h; split at h; · cases h; rfl
        · cases h)
    (by intro v y h; unfold pyxref11_Kind.re at h; split at h; · cases h; rfl
        · cases h)
    (fun _ => rfl) (fun x => Nat.le_of_ble_eq_true (by kernel_rfl)) (pyxref11_Kind.eq k)
/-! ### pyx/chart.IsWith: function 14 -/
noncomputable def chart_IsWith.f (k : Nat) (a0 : Int) : Option Bool := cond (a0 == 3) (some true) (some (a0 == 6))
noncomputable def chart_IsWith.un : List (AV U) → Option Int | [.flat (.int .i64 x1)] => some x1 | _ => none
noncomputable def chart_IsWith.mk (x : Int) : List (AV U) := [.flat (.int .i64 x)]
noncomputable def chart_IsWith.D (k : Nat) : FDen U := { X := Int, Y := Bool, un := chart_IsWith.un, f := fun x => chart_IsWith.f k (x), fin := fun y => .flat (.bool y) }
noncomputable def chart_IsWith.re : AV U → Option Bool | .flat (.bool x1) => some x1 | _ => none
noncomputable def chart_IsWith.jl : List (Nat × JDen U) := []
noncomputable def chart_IsWith.fl (k : Nat) : List (Nat × FDen U) := []
noncomputable def chart_IsWith.ll (k : Nat) : List (Nat × LDen U) := []
noncomputable def chart_IsWith.E (k : Nat) : Env U := { P := Try.prog, D := DD, fd := lk (chart_IsWith.fl k), ld := lk (chart_IsWith.ll k), jd := lk chart_IsWith.jl, mode := lk [], elc := lk ec, dyn := fun t => false, vecs := fun d => false, results := Try.f14.results.toList }
theorem chart_IsWith.ok (k : Nat) : EnvOk (chart_IsWith.E k) := envOk lawful (chart_IsWith.fl k) (chart_IsWith.ll k) chart_IsWith.jl _ _ _ _ _ (by
  intro p hp
  simp [chart_IsWith.fl] at hp) (by
  intro p hp
  simp [chart_IsWith.jl] at hp)
theorem chart_IsWith.eq (k : Nat) (x : Int) : runF (chart_IsWith.E k) (codeOf Try.f14) (chart_IsWith.mk x) chart_IsWith.re = (chart_IsWith.D k).f x := by kernel_rfl
theorem chart_IsWith.sound (k : Nat) : Sound Try.prog DD 14 (chart_IsWith.D k) :=
  fun_sound (E := chart_IsWith.E k) (fn := Try.f14) (c := codeOf Try.f14) (chart_IsWith.ok k) mixed rfl Try.func14 (by kernel_rfl) (by kernel_rfl) (allL_of (l := []) (by kernel_rfl) allL_nil) (chart_IsWith.D k) chart_IsWith.mk chart_IsWith.re
    (by intro args x h; replace h : chart_IsWith.un args = some x := h; unfold chart_IsWith.un at h; split at h; · cases h; rfl
        · cases h)
    (by intro v y h; unfold chart_IsWith.re at h; split at h; · cases h; rfl
        · cases h)
    (fun _ => rfl) (fun x => Nat.le_of_ble_eq_true (by kernel_rfl)) (chart_IsWith.eq k)
/-! ### pyx/pyxref11.IsWith: function 17 -/
noncomputable def pyxref11_IsWith.f (k : Nat) (a0 : Int) : Option Bool := cond (a0 == 3) (some true) (some (a0 == 6))
noncomputable def pyxref11_IsWith.un : List (AV U) → Option Int | [.flat (.int .i64 x1)] => some x1 | _ => none
noncomputable def pyxref11_IsWith.mk (x : Int) : List (AV U) := [.flat (.int .i64 x)]
noncomputable def pyxref11_IsWith.D (k : Nat) : FDen U := { X := Int, Y := Bool, un := pyxref11_IsWith.un, f := fun x => pyxref11_IsWith.f k (x), fin := fun y => .flat (.bool y) }
noncomputable def pyxref11_IsWith.re : AV U → Option Bool | .flat (.bool x1) => some x1 | _ => none
noncomputable def pyxref11_IsWith.jl : List (Nat × JDen U) := []
noncomputable def pyxref11_IsWith.fl (k : Nat) : List (Nat × FDen U) := []
noncomputable def pyxref11_IsWith.ll (k : Nat) : List (Nat × LDen U) := []
noncomputable def pyxref11_IsWith.E (k : Nat) : Env U := { P := Try.prog, D := DD, fd := lk (pyxref11_IsWith.fl k), ld := lk (pyxref11_IsWith.ll k), jd := lk pyxref11_IsWith.jl, mode := lk [], elc := lk ec, dyn := fun t => false, vecs := fun d => false, results := Try.f17.results.toList }
theorem pyxref11_IsWith.ok (k : Nat) : EnvOk (pyxref11_IsWith.E k) := envOk lawful (pyxref11_IsWith.fl k) (pyxref11_IsWith.ll k) pyxref11_IsWith.jl _ _ _ _ _ (by
  intro p hp
  simp [pyxref11_IsWith.fl] at hp) (by
  intro p hp
  simp [pyxref11_IsWith.jl] at hp)
theorem pyxref11_IsWith.eq (k : Nat) (x : Int) : runF (pyxref11_IsWith.E k) (codeOf Try.f17) (pyxref11_IsWith.mk x) pyxref11_IsWith.re = (pyxref11_IsWith.D k).f x := by kernel_rfl
theorem pyxref11_IsWith.sound (k : Nat) : Sound Try.prog DD 17 (pyxref11_IsWith.D k) :=
  fun_sound (E := pyxref11_IsWith.E k) (fn := Try.f17) (c := codeOf Try.f17) (pyxref11_IsWith.ok k) mixed rfl Try.func17 (by kernel_rfl) (by kernel_rfl) (allL_of (l := []) (by kernel_rfl) allL_nil) (pyxref11_IsWith.D k) pyxref11_IsWith.mk pyxref11_IsWith.re
    (by intro args x h; replace h : pyxref11_IsWith.un args = some x := h; unfold pyxref11_IsWith.un at h; split at h; · cases h; rfl
        · cases h)
    (by intro v y h; unfold pyxref11_IsWith.re at h; split at h; · cases h; rfl
        · cases h)
    (fun _ => rfl) (fun x => Nat.le_of_ble_eq_true (by kernel_rfl)) (pyxref11_IsWith.eq k)
/-! ### pyx/pyxlaw11.ChartTells: function 4 -/
noncomputable def pyxlaw11_ChartTells.f (k : Nat) (a0 : Int) : Option Bool := (pyxlaw11_known.f k).bind fun t1 => (cond (t1) ((chart_Kind.f k a0).bind fun t2 => ((pyxref11_Kind.f k a0).bind fun t3 => (cond (t2 == t3) ((chart_Kind.f k (Int.tmod a0 20)).bind fun t4 => ((pyxref11_Kind.f k (Int.tmod a0 20)).bind fun t5 => (cond (t4 == t5) ((chart_IsWith.f k a0).bind fun t6 => ((pyxref11_IsWith.f k a0).bind fun t7 => (cond (t6 == t7) ((chart_IsWith.f k (Int.tmod a0 20)).bind fun t8 => ((pyxref11_IsWith.f k (Int.tmod a0 20)).bind fun t9 => (cond (t8 == t9) ((chart_Kind.f k a0).bind fun t10 => (cond (decide (a0 < 0)) (some ((t10 == 0) == true)) (some ((t10 == 0) == (decide (a0 ≥ 16)))))) (some false)))) (some false)))) (some false)))) (some false)))) (some false))
noncomputable def pyxlaw11_ChartTells.un : List (AV U) → Option Int | [.flat (.int .i64 x1)] => some x1 | _ => none
noncomputable def pyxlaw11_ChartTells.mk (x : Int) : List (AV U) := [.flat (.int .i64 x)]
noncomputable def pyxlaw11_ChartTells.D (k : Nat) : FDen U := { X := Int, Y := Bool, un := pyxlaw11_ChartTells.un, f := fun x => pyxlaw11_ChartTells.f k (x), fin := fun y => .flat (.bool y) }
noncomputable def pyxlaw11_ChartTells.re : AV U → Option Bool | .flat (.bool x1) => some x1 | _ => none
noncomputable def pyxlaw11_ChartTells.jl : List (Nat × JDen U) := []
noncomputable def pyxlaw11_ChartTells.fl (k : Nat) : List (Nat × FDen U) := [(15, pyxlaw11_known.D k), (13, chart_Kind.D k), (16, pyxref11_Kind.D k), (14, chart_IsWith.D k), (17, pyxref11_IsWith.D k)]
noncomputable def pyxlaw11_ChartTells.ll (k : Nat) : List (Nat × LDen U) := []
noncomputable def pyxlaw11_ChartTells.E (k : Nat) : Env U := { P := Try.prog, D := DD, fd := lk (pyxlaw11_ChartTells.fl k), ld := lk (pyxlaw11_ChartTells.ll k), jd := lk pyxlaw11_ChartTells.jl, mode := lk [], elc := lk ec, dyn := fun t => false, vecs := fun d => false, results := Try.f4.results.toList }
theorem pyxlaw11_ChartTells.ok (k : Nat) : EnvOk (pyxlaw11_ChartTells.E k) := envOk lawful (pyxlaw11_ChartTells.fl k) (pyxlaw11_ChartTells.ll k) pyxlaw11_ChartTells.jl _ _ _ _ _ (by
  intro p hp
  simp only [pyxlaw11_ChartTells.fl, List.mem_cons, List.not_mem_nil, or_false] at hp
  rcases hp with rfl | rfl | rfl | rfl | rfl
  · exact ⟨pyxlaw11_known.sound k, enter_of Try.func15 (by kernel_rfl) (by kernel_rfl)⟩
  · exact ⟨chart_Kind.sound k, enter_of Try.func13 (by kernel_rfl) (by kernel_rfl)⟩
  · exact ⟨pyxref11_Kind.sound k, enter_of Try.func16 (by kernel_rfl) (by kernel_rfl)⟩
  · exact ⟨chart_IsWith.sound k, enter_of Try.func14 (by kernel_rfl) (by kernel_rfl)⟩
  · exact ⟨pyxref11_IsWith.sound k, enter_of Try.func17 (by kernel_rfl) (by kernel_rfl)⟩) (by
  intro p hp
  simp [pyxlaw11_ChartTells.jl] at hp)
theorem pyxlaw11_ChartTells.eq (k : Nat) (x : Int) : runF (pyxlaw11_ChartTells.E k) (codeOf Try.f4) (pyxlaw11_ChartTells.mk x) pyxlaw11_ChartTells.re = (pyxlaw11_ChartTells.D k).f x := by kernel_rfl
theorem pyxlaw11_ChartTells.sound (k : Nat) : Sound Try.prog DD 4 (pyxlaw11_ChartTells.D k) :=
  fun_sound (E := pyxlaw11_ChartTells.E k) (fn := Try.f4) (c := codeOf Try.f4) (pyxlaw11_ChartTells.ok k) mixed rfl Try.func4 (by kernel_rfl) (by kernel_rfl) (allL_of (l := []) (by kernel_rfl) allL_nil) (pyxlaw11_ChartTells.D k) pyxlaw11_ChartTells.mk pyxlaw11_ChartTells.re
    (by intro args x h; replace h : pyxlaw11_ChartTells.un args = some x := h; unfold pyxlaw11_ChartTells.un at h; split at h; · cases h; rfl
        · cases h)
    (by intro v y h; unfold pyxlaw11_ChartTells.re at h; split at h; · cases h; rfl
        · cases h)
    (fun _ => rfl) (fun x => Nat.le_of_ble_eq_true (by kernel_rfl)) (pyxlaw11_ChartTells.eq k)
/-! ### pyx/pyxlaw11.ChartKnown: function 3 -/
noncomputable def pyxlaw11_ChartKnown.l3.once (k : Nat) (x : (List Int × Int)) : Option ((List Int × Int) ⊕ (Unit ⊕ Bool)) := match x with | (x1, x2) => cond (decide (x2 < 18)) (cond (inb x2 18) ((((chart_Kind.f k (IntKind.wrap .i64 (x2 - 1))).bind fun t3 => (cond (t3 != (List.getD [List.getD x1 0 0, List.getD x1 1 0, List.getD x1 2 0, List.getD x1 3 0, List.getD x1 4 0, List.getD x1 5 0, List.getD x1 6 0, List.getD x1 7 0, List.getD x1 8 0, List.getD x1 9 0, List.getD x1 10 0, List.getD x1 11 0, List.getD x1 12 0, List.getD x1 13 0, List.getD x1 14 0, List.getD x1 15 0, List.getD x1 16 0, List.getD x1 17 0] (Int.toNat x2) 0)) (some (pack 18 0 x1, x2, true)) ((chart_IsWith.f k (IntKind.wrap .i64 (x2 - 1))).bind fun t7 => (cond (x2 == 4) (some (pack 18 0 x1, x2, !(t7 == true))) (some (pack 18 0 x1, x2, !(t7 == (x2 == 7)))))))) : Option (List Int × Int × Bool)).bind fun y8 => (cond (y8.2.2) (some (.inr (.inr false))) (some (.inl (pack 18 0 y8.1, IntKind.wrap .i64 (y8.2.1 + 1)))))) none) (some (.inr (.inl ())))
noncomputable def pyxlaw11_ChartKnown.f (k : Nat)  : Option Bool := (iter (pyxlaw11_ChartKnown.l3.once k) k ([List.getD [0, 1, 1, 1, 1, 2, 2, 2, 3, 3, 4, 4, 4, 4, 4, 4, 4, 0] 0 0, List.getD [0, 1, 1, 1, 1, 2, 2, 2, 3, 3, 4, 4, 4, 4, 4, 4, 4, 0] 1 0, List.getD [0, 1, 1, 1, 1, 2, 2, 2, 3, 3, 4, 4, 4, 4, 4, 4, 4, 0] 2 0, List.getD [0, 1, 1, 1, 1, 2, 2, 2, 3, 3, 4, 4, 4, 4, 4, 4, 4, 0] 3 0, List.getD [0, 1, 1, 1, 1, 2, 2, 2, 3, 3, 4, 4, 4, 4, 4, 4, 4, 0] 4 0, List.getD [0, 1, 1, 1, 1, 2, 2, 2, 3, 3, 4, 4, 4, 4, 4, 4, 4, 0] 5 0, List.getD [0, 1, 1, 1, 1, 2, 2, 2, 3, 3, 4, 4, 4, 4, 4, 4, 4, 0] 6 0, List.getD [0, 1, 1, 1, 1, 2, 2, 2, 3, 3, 4, 4, 4, 4, 4, 4, 4, 0] 7 0, List.getD [0, 1, 1, 1, 1, 2, 2, 2, 3, 3, 4, 4, 4, 4, 4, 4, 4, 0] 8 0, List.getD [0, 1, 1, 1, 1, 2, 2, 2, 3, 3, 4, 4, 4, 4, 4, 4, 4, 0] 9 0, List.getD [0, 1, 1, 1, 1, 2, 2, 2, 3, 3, 4, 4, 4, 4, 4, 4, 4, 0] 10 0, List.getD [0, 1, 1, 1, 1, 2, 2, 2, 3, 3, 4, 4, 4, 4, 4, 4, 4, 0] 11 0, List.getD [0, 1, 1, 1, 1, 2, 2, 2, 3, 3, 4, 4, 4, 4, 4, 4, 4, 0] 12 0, List.getD [0, 1, 1, 1, 1, 2, 2, 2, 3, 3, 4, 4, 4, 4, 4, 4, 4, 0] 13 0, List.getD [0, 1, 1, 1, 1, 2, 2, 2, 3, 3, 4, 4, 4, 4, 4, 4, 4, 0] 14 0, List.getD [0, 1, 1, 1, 1, 2, 2, 2, 3, 3, 4, 4, 4, 4, 4, 4, 4, 0] 15 0, List.getD [0, 1, 1, 1, 1, 2, 2, 2, 3, 3, 4, 4, 4, 4, 4, 4, 4, 0] 16 0, List.getD [0, 1, 1, 1, 1, 2, 2, 2, 3, 3, 4, 4, 4, 4, 4, 4, 4, 0] 17 0], 0)).bind fun | .inl y10 => ((pyxlaw11_known.f k).bind fun t11 => (cond (t11) (some true) (some false))) | .inr y12 => (some y12)
noncomputable def pyxlaw11_ChartKnown.un : List (AV U) → Option Unit | [] => some () | _ => none
noncomputable def pyxlaw11_ChartKnown.mk (x : Unit) : List (AV U) := []
noncomputable def pyxlaw11_ChartKnown.D (k : Nat) : FDen U := { X := Unit, Y := Bool, un := pyxlaw11_ChartKnown.un, f := fun x => pyxlaw11_ChartKnown.f k , fin := fun y => .flat (.bool y) }
noncomputable def pyxlaw11_ChartKnown.re : AV U → Option Bool | .flat (.bool x1) => some x1 | _ => none
noncomputable def pyxlaw11_ChartKnown.l3.mk (x : (List Int × Int)) : St U := match x with | (x1, x2) => ⟨[(5, .agg ((Cd.arr 18 0 (Cd.int .i64)).enc x1)), (6, .flat (.int .i64 x2))], []⟩
noncomputable def pyxlaw11_ChartKnown.l3.un (s : St U) : Option (List Int × Int) := (Cd.ofAgg (Cd.arr 18 0 (Cd.int .i64)) (s.get 5)).bind fun q0 => (match s.get 6 with | .flat (.int .i64 x2) => some (q0, x2) | _ => none)
noncomputable def pyxlaw11_ChartKnown.l3.fin (y : Unit ⊕ Bool) : Out U := match y with | .inl () => .exit 0 ⟨[], []⟩ | .inr z => .ret (.flat (.bool z))
noncomputable def pyxlaw11_ChartKnown.l3.finK {ρ : Type} (y : Unit ⊕ Bool) (K : Out U → Option ρ) : Option ρ := match y with | .inl () => K (.exit 0 ⟨[], []⟩) | .inr z => K (.ret (.flat (.bool z)))
theorem pyxlaw11_ChartKnown.l3.finK_eq {ρ : Type} (y : Unit ⊕ Bool) (K : Out U → Option ρ) : pyxlaw11_ChartKnown.l3.finK y K = K (pyxlaw11_ChartKnown.l3.fin y) := by
  unfold pyxlaw11_ChartKnown.l3.finK pyxlaw11_ChartKnown.l3.fin
  first | rfl | (split <;> rfl)
noncomputable def pyxlaw11_ChartKnown.l3.re : Out U → Option (Unit ⊕ Bool) | .exit 0 s => (some (.inl ())) | .ret v => (match v with | .flat (.bool x1) => some (.inr x1) | _ => none) | _ => none
noncomputable def pyxlaw11_ChartKnown.l3.L (k : Nat) : LDen U := { X := (List Int × Int), Y := Unit ⊕ Bool, un := pyxlaw11_ChartKnown.l3.un, f := iter (pyxlaw11_ChartKnown.l3.once k) k, fin := pyxlaw11_ChartKnown.l3.fin, finK := pyxlaw11_ChartKnown.l3.finK, finK_eq := pyxlaw11_ChartKnown.l3.finK_eq }
noncomputable def pyxlaw11_ChartKnown.j5000.fin (y : (List Int × Int × Bool)) : Out U := match y with | (x4, x5, x6) => .norm ⟨[(5, .agg ((Cd.arr 18 0 (Cd.int .i64)).enc x4)), (6, .flat (.int .i64 x5)), (26, .flat (.bool x6))], []⟩
noncomputable def pyxlaw11_ChartKnown.j5000.finK {ρ : Type} (y : (List Int × Int × Bool)) (K : Out U → Option ρ) : Option ρ := match y with | (x4, x5, x6) => K (.norm ⟨[(5, .agg ((Cd.arr 18 0 (Cd.int .i64)).enc x4)), (6, .flat (.int .i64 x5)), (26, .flat (.bool x6))], []⟩)
theorem pyxlaw11_ChartKnown.j5000.finK_eq {ρ : Type} (y : (List Int × Int × Bool)) (K : Out U → Option ρ) : pyxlaw11_ChartKnown.j5000.finK y K = K (pyxlaw11_ChartKnown.j5000.fin y) := by
  unfold pyxlaw11_ChartKnown.j5000.finK pyxlaw11_ChartKnown.j5000.fin
  first | rfl | (split <;> rfl)
noncomputable def pyxlaw11_ChartKnown.j5000.re : Out U → Option ((List Int × Int × Bool)) | .norm s => ((Cd.ofAgg (Cd.arr 18 0 (Cd.int .i64)) (s.get 5)).bind fun q0 => (match s.get 6, s.get 26 with | .flat (.int .i64 x5), .flat (.bool x6) => some (q0, x5, x6) | _, _ => none)) | _ => none
noncomputable def pyxlaw11_ChartKnown.j5000.J : JDen U := { Y := (List Int × Int × Bool), re := pyxlaw11_ChartKnown.j5000.re, fin := pyxlaw11_ChartKnown.j5000.fin, finK := pyxlaw11_ChartKnown.j5000.finK, finK_eq := pyxlaw11_ChartKnown.j5000.finK_eq }
theorem pyxlaw11_ChartKnown.j5000.fit (o : Out U) (y : (List Int × Int × Bool)) (h : pyxlaw11_ChartKnown.j5000.re o = some y) : FitsO o (pyxlaw11_ChartKnown.j5000.fin y) := by
  unfold pyxlaw11_ChartKnown.j5000.re at h
  split at h
  · obtain ⟨q0, eq0, h1⟩ := Option.bind_eq_some_iff.1 h
    split at h1
    · cases h1
      refine fitsO_norm (fits_ren [] ?_ ?_ ren_nil rfl)
      · exact List.forall_mem_cons.2 ⟨FV.same (Cd.ofAgg_ok eq0) (fun _ _ _ hh => by cases hh) (fun _ hh => by cases hh), List.forall_mem_cons.2 ⟨FV.same (by assumption) (fun _ _ _ hh => by cases hh) (fun _ hh => by cases hh), List.forall_mem_cons.2 ⟨FV.same (by assumption) (fun _ _ _ hh => by cases hh) (fun _ hh => by cases hh), fun _ hp => (List.not_mem_nil hp).elim⟩⟩⟩
      · exact fun _ hp => (List.not_mem_nil hp).elim
    · cases h1
  · cases h
noncomputable def pyxlaw11_ChartKnown.jl : List (Nat × JDen U) := [(5000, pyxlaw11_ChartKnown.j5000.J)]
noncomputable def pyxlaw11_ChartKnown.fl (k : Nat) : List (Nat × FDen U) := [(13, chart_Kind.D k), (14, chart_IsWith.D k), (15, pyxlaw11_known.D k)]
noncomputable def pyxlaw11_ChartKnown.ll (k : Nat) : List (Nat × LDen U) := [(3, pyxlaw11_ChartKnown.l3.L k)]
noncomputable def pyxlaw11_ChartKnown.E (k : Nat) : Env U := { P := Try.prog, D := DD, fd := lk (pyxlaw11_ChartKnown.fl k), ld := lk (pyxlaw11_ChartKnown.ll k), jd := lk pyxlaw11_ChartKnown.jl, mode := lk [(22, (18, C.i64))], elc := lk ec, dyn := fun t => false, vecs := fun d => false, results := Try.f3.results.toList }
theorem pyxlaw11_ChartKnown.ok (k : Nat) : EnvOk (pyxlaw11_ChartKnown.E k) := envOk lawful (pyxlaw11_ChartKnown.fl k) (pyxlaw11_ChartKnown.ll k) pyxlaw11_ChartKnown.jl _ _ _ _ _ (by
  intro p hp
  simp only [pyxlaw11_ChartKnown.fl, List.mem_cons, List.not_mem_nil, or_false] at hp
  rcases hp with rfl | rfl | rfl
  · exact ⟨chart_Kind.sound k, enter_of Try.func13 (by kernel_rfl) (by kernel_rfl)⟩
  · exact ⟨chart_IsWith.sound k, enter_of Try.func14 (by kernel_rfl) (by kernel_rfl)⟩
  · exact ⟨pyxlaw11_known.sound k, enter_of Try.func15 (by kernel_rfl) (by kernel_rfl)⟩) (by
  intro p hp
  simp only [pyxlaw11_ChartKnown.jl, List.mem_cons, List.not_mem_nil, or_false] at hp
  rcases hp with rfl
  · exact pyxlaw11_ChartKnown.j5000.fit)
theorem pyxlaw11_ChartKnown.l3.eq (k : Nat) (x : (List Int × Int)) : evC (pyxlaw11_ChartKnown.E k) (loopAt Try.f3 3) (pyxlaw11_ChartKnown.l3.mk x) (headK pyxlaw11_ChartKnown.l3.un pyxlaw11_ChartKnown.l3.re) = pyxlaw11_ChartKnown.l3.once k x := by kernel_rfl
theorem pyxlaw11_ChartKnown.l3.fit (s : St U) (x : (List Int × Int)) (h : pyxlaw11_ChartKnown.l3.un s = some x) : Fits s (pyxlaw11_ChartKnown.l3.mk x) := by
  unfold pyxlaw11_ChartKnown.l3.un at h
  obtain ⟨q0, eq0, h1⟩ := Option.bind_eq_some_iff.1 h
  split at h1
  · cases h1
    refine fits_ren [] ?_ ?_ ren_nil rfl
    · exact List.forall_mem_cons.2 ⟨FV.same (Cd.ofAgg_ok eq0) (fun _ _ _ hh => by cases hh) (fun _ hh => by cases hh), List.forall_mem_cons.2 ⟨FV.same (by assumption) (fun _ _ _ hh => by cases hh) (fun _ hh => by cases hh), fun _ hp => (List.not_mem_nil hp).elim⟩⟩
    · exact fun _ hp => (List.not_mem_nil hp).elim
  · cases h1
theorem pyxlaw11_ChartKnown.l3.fitO (o : Out U) (y : Unit ⊕ Bool) (h : pyxlaw11_ChartKnown.l3.re o = some y) : FitsO o (pyxlaw11_ChartKnown.l3.fin y) := by
  unfold pyxlaw11_ChartKnown.l3.re at h
  split at h
  · cases h
    refine fitsO_exit (fits_ren [] ?_ ?_ ren_nil rfl)
    · exact fun _ hp => (List.not_mem_nil hp).elim
    · exact fun _ hp => (List.not_mem_nil hp).elim
  · split at h
    · cases h; exact fitsO_ret
    · cases h
  · cases h
theorem pyxlaw11_ChartKnown.l3.sound (k : Nat) : LSound (pyxlaw11_ChartKnown.E k) Try.f3.ntmps Try.f3 (loopAt Try.f3 3) (pyxlaw11_ChartKnown.l3.L k) :=
  loop_sound (pyxlaw11_ChartKnown.ok k) mixed rfl (by kernel_rfl) (allL_of (l := []) (by kernel_rfl) allL_nil) pyxlaw11_ChartKnown.l3.un pyxlaw11_ChartKnown.l3.mk pyxlaw11_ChartKnown.l3.fin pyxlaw11_ChartKnown.l3.re (pyxlaw11_ChartKnown.l3.once k) k pyxlaw11_ChartKnown.l3.fit pyxlaw11_ChartKnown.l3.fitO (pyxlaw11_ChartKnown.l3.eq k) pyxlaw11_ChartKnown.l3.finK pyxlaw11_ChartKnown.l3.finK_eq
theorem pyxlaw11_ChartKnown.eq (k : Nat) (x : Unit) : runF (pyxlaw11_ChartKnown.E k) (codeOf Try.f3) (pyxlaw11_ChartKnown.mk x) pyxlaw11_ChartKnown.re = (pyxlaw11_ChartKnown.D k).f x := by kernel_rfl
theorem pyxlaw11_ChartKnown.sound (k : Nat) : Sound Try.prog DD 3 (pyxlaw11_ChartKnown.D k) :=
  fun_sound (E := pyxlaw11_ChartKnown.E k) (fn := Try.f3) (c := codeOf Try.f3) (pyxlaw11_ChartKnown.ok k) mixed rfl Try.func3 (by kernel_rfl) (by kernel_rfl) (allL_of (l := [loopAt Try.f3 3]) (by kernel_rfl) (allL_cons (key := 3) (by kernel_rfl) rfl (pyxlaw11_ChartKnown.l3.sound k) allL_nil)) (pyxlaw11_ChartKnown.D k) pyxlaw11_ChartKnown.mk pyxlaw11_ChartKnown.re
    (by intro args x h; replace h : pyxlaw11_ChartKnown.un args = some x := h; unfold pyxlaw11_ChartKnown.un at h; split at h; · cases h; rfl
        · cases h)
    (by intro v y h; unfold pyxlaw11_ChartKnown.re at h; split at h; · cases h; rfl
        · cases h)
    (fun _ => rfl) (fun x => Nat.le_of_ble_eq_true (by kernel_rfl)) (pyxlaw11_ChartKnown.eq k)
end
end Go.Proofs.Ytojkgadihooplaa
