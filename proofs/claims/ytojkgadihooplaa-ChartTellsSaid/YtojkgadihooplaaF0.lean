import Derived.Test.YtojkgadihooplaaU
/-! Functions, told; their equations with the evaluator; that they are sound. Written by gen.py. -/
namespace Go.Proofs.Ytojkgadihooplaa
open Go Go.Ev
noncomputable section
set_option linter.unusedVariables false
set_option linter.unusedSimpArgs false
set_option maxRecDepth 100000
/-! ### pyx/chart.Kind: function 13 -/
noncomputable def chart_Kind.f (k : Nat) (a0 : Int) : Option Int := cond (decide (a0 < 0)) (some 0) (cond (decide (a0 ≥ 16)) (some 0) (cond (decide (a0 ≤ 3)) (some 1) (cond (decide (a0 ≤ 6)) (some 2) (cond (decide (a0 ≤ 8)) (some 3) (some 4)))))
noncomputable def chart_Kind.un : List (AV U) → Option Int | [.flat (.int .i64 x1)] => some x1 | _ => none
noncomputable def chart_Kind.mk (x : Int) : List (AV U) := [.flat (.int .i64 x)]
noncomputable def chart_Kind.D (k : Nat) : FDen U := { X := Int, Y := Int, un := chart_Kind.un, f := fun x => chart_Kind.f k (x), fin := fun y => .flat (.int .i64 y) }
noncomputable def chart_Kind.re : AV U → Option Int | .flat (.int .i64 x1) => some x1 | _ => none
noncomputable def chart_Kind.fl (k : Nat) : List (Nat × FDen U) := []
noncomputable def chart_Kind.ll (k : Nat) : List (Nat × LDen U) := []
noncomputable def chart_Kind.E (k : Nat) : Env U := { P := Try.prog, D := DD, fd := lk (chart_Kind.fl k), ld := lk (chart_Kind.ll k), mode := lk [], results := Try.f13.results.toList }
theorem chart_Kind.ok (k : Nat) : EnvOk (chart_Kind.E k) := envOk lawful (chart_Kind.fl k) (chart_Kind.ll k) _ _ (by
  intro p hp
  simp [chart_Kind.fl] at hp)
theorem chart_Kind.eq (k : Nat) (x : Int) : runF (chart_Kind.E k) (codeOf Try.f13) (chart_Kind.mk x) chart_Kind.re = (chart_Kind.D k).f x := by kernel_rfl
theorem chart_Kind.sound (k : Nat) : Sound Try.prog DD 13 (chart_Kind.D k) :=
  fun_sound (E := chart_Kind.E k) (fn := Try.f13) (c := codeOf Try.f13) (chart_Kind.ok k) mixed rfl Try.func13 (by kernel_rfl) (by kernel_rfl) (allL_of (l := []) (by kernel_rfl) allL_nil) (chart_Kind.D k) chart_Kind.mk chart_Kind.re
    (by intro args x h; replace h : chart_Kind.un args = some x := h; unfold chart_Kind.un at h; split at h; · cases h; rfl
        · cases h)
    (by intro v y h; unfold chart_Kind.re at h; split at h; · cases h; rfl
        · cases h)
    (fun _ => rfl) (fun x => Nat.le_of_ble_eq_true (by kernel_rfl)) (chart_Kind.eq k)
/-! ### pyx/chart.IsWith: function 14 -/
noncomputable def chart_IsWith.f (k : Nat) (a0 : Int) : Option Bool := cond (a0 == 3) (some true) (some (a0 == 6))
noncomputable def chart_IsWith.un : List (AV U) → Option Int | [.flat (.int .i64 x1)] => some x1 | _ => none
noncomputable def chart_IsWith.mk (x : Int) : List (AV U) := [.flat (.int .i64 x)]
noncomputable def chart_IsWith.D (k : Nat) : FDen U := { X := Int, Y := Bool, un := chart_IsWith.un, f := fun x => chart_IsWith.f k (x), fin := fun y => .flat (.bool y) }
noncomputable def chart_IsWith.re : AV U → Option Bool | .flat (.bool x1) => some x1 | _ => none
noncomputable def chart_IsWith.fl (k : Nat) : List (Nat × FDen U) := []
noncomputable def chart_IsWith.ll (k : Nat) : List (Nat × LDen U) := []
noncomputable def chart_IsWith.E (k : Nat) : Env U := { P := Try.prog, D := DD, fd := lk (chart_IsWith.fl k), ld := lk (chart_IsWith.ll k), mode := lk [], results := Try.f14.results.toList }
theorem chart_IsWith.ok (k : Nat) : EnvOk (chart_IsWith.E k) := envOk lawful (chart_IsWith.fl k) (chart_IsWith.ll k) _ _ (by
  intro p hp
  simp [chart_IsWith.fl] at hp)
theorem chart_IsWith.eq (k : Nat) (x : Int) : runF (chart_IsWith.E k) (codeOf Try.f14) (chart_IsWith.mk x) chart_IsWith.re = (chart_IsWith.D k).f x := by kernel_rfl
theorem chart_IsWith.sound (k : Nat) : Sound Try.prog DD 14 (chart_IsWith.D k) :=
  fun_sound (E := chart_IsWith.E k) (fn := Try.f14) (c := codeOf Try.f14) (chart_IsWith.ok k) mixed rfl Try.func14 (by kernel_rfl) (by kernel_rfl) (allL_of (l := []) (by kernel_rfl) allL_nil) (chart_IsWith.D k) chart_IsWith.mk chart_IsWith.re
    (by intro args x h; replace h : chart_IsWith.un args = some x := h; unfold chart_IsWith.un at h; split at h; · cases h; rfl
        · cases h)
    (by intro v y h; unfold chart_IsWith.re at h; split at h; · cases h; rfl
        · cases h)
    (fun _ => rfl) (fun x => Nat.le_of_ble_eq_true (by kernel_rfl)) (chart_IsWith.eq k)
/-! ### pyx/chart.Retained: function 34 -/
noncomputable def chart_Retained.f (k : Nat)  : Option Int := some 8
noncomputable def chart_Retained.un : List (AV U) → Option Unit | [] => some () | _ => none
noncomputable def chart_Retained.mk (x : Unit) : List (AV U) := []
noncomputable def chart_Retained.D (k : Nat) : FDen U := { X := Unit, Y := Int, un := chart_Retained.un, f := fun x => chart_Retained.f k , fin := fun y => .flat (.int .i64 y) }
noncomputable def chart_Retained.re : AV U → Option Int | .flat (.int .i64 x1) => some x1 | _ => none
noncomputable def chart_Retained.fl (k : Nat) : List (Nat × FDen U) := []
noncomputable def chart_Retained.ll (k : Nat) : List (Nat × LDen U) := []
noncomputable def chart_Retained.E (k : Nat) : Env U := { P := Try.prog, D := DD, fd := lk (chart_Retained.fl k), ld := lk (chart_Retained.ll k), mode := lk [], results := Try.f34.results.toList }
theorem chart_Retained.ok (k : Nat) : EnvOk (chart_Retained.E k) := envOk lawful (chart_Retained.fl k) (chart_Retained.ll k) _ _ (by
  intro p hp
  simp [chart_Retained.fl] at hp)
theorem chart_Retained.eq (k : Nat) (x : Unit) : runF (chart_Retained.E k) (codeOf Try.f34) (chart_Retained.mk x) chart_Retained.re = (chart_Retained.D k).f x := by kernel_rfl
theorem chart_Retained.sound (k : Nat) : Sound Try.prog DD 34 (chart_Retained.D k) :=
  fun_sound (E := chart_Retained.E k) (fn := Try.f34) (c := codeOf Try.f34) (chart_Retained.ok k) mixed rfl Try.func34 (by kernel_rfl) (by kernel_rfl) (allL_of (l := []) (by kernel_rfl) allL_nil) (chart_Retained.D k) chart_Retained.mk chart_Retained.re
    (by intro args x h; replace h : chart_Retained.un args = some x := h; unfold chart_Retained.un at h; split at h; · cases h; rfl
        · cases h)
    (by intro v y h; unfold chart_Retained.re at h; split at h; · cases h; rfl
        · cases h)
    (fun _ => rfl) (fun x => Nat.le_of_ble_eq_true (by kernel_rfl)) (chart_Retained.eq k)
/-! ### pyx/pyxlaw11.known: function 15 -/
noncomputable def pyxlaw11_known.f (k : Nat)  : Option Bool := (chart_Kind.f k 9).bind fun t1 => (cond (t1 == 4) ((chart_Retained.f k).bind fun t2 => (some (t2 == 8))) (some false))
noncomputable def pyxlaw11_known.un : List (AV U) → Option Unit | [] => some () | _ => none
noncomputable def pyxlaw11_known.mk (x : Unit) : List (AV U) := []
noncomputable def pyxlaw11_known.D (k : Nat) : FDen U := { X := Unit, Y := Bool, un := pyxlaw11_known.un, f := fun x => pyxlaw11_known.f k , fin := fun y => .flat (.bool y) }
noncomputable def pyxlaw11_known.re : AV U → Option Bool | .flat (.bool x1) => some x1 | _ => none
noncomputable def pyxlaw11_known.fl (k : Nat) : List (Nat × FDen U) := [(13, chart_Kind.D k), (34, chart_Retained.D k)]
noncomputable def pyxlaw11_known.ll (k : Nat) : List (Nat × LDen U) := []
noncomputable def pyxlaw11_known.E (k : Nat) : Env U := { P := Try.prog, D := DD, fd := lk (pyxlaw11_known.fl k), ld := lk (pyxlaw11_known.ll k), mode := lk [], results := Try.f15.results.toList }
theorem pyxlaw11_known.ok (k : Nat) : EnvOk (pyxlaw11_known.E k) := envOk lawful (pyxlaw11_known.fl k) (pyxlaw11_known.ll k) _ _ (by
  intro p hp
  simp only [pyxlaw11_known.fl, List.mem_cons, List.not_mem_nil, or_false] at hp
  rcases hp with rfl | rfl
  · exact ⟨chart_Kind.sound k, enter_of Try.func13 (by kernel_rfl) (by kernel_rfl)⟩
  · exact ⟨chart_Retained.sound k, enter_of Try.func34 (by kernel_rfl) (by kernel_rfl)⟩)
theorem pyxlaw11_known.eq (k : Nat) (x : Unit) : runF (pyxlaw11_known.E k) (codeOf Try.f15) (pyxlaw11_known.mk x) pyxlaw11_known.re = (pyxlaw11_known.D k).f x := by kernel_rfl
theorem pyxlaw11_known.sound (k : Nat) : Sound Try.prog DD 15 (pyxlaw11_known.D k) :=
  fun_sound (E := pyxlaw11_known.E k) (fn := Try.f15) (c := codeOf Try.f15) (pyxlaw11_known.ok k) mixed rfl Try.func15 (by kernel_rfl) (by kernel_rfl) (allL_of (l := []) (by kernel_rfl) allL_nil) (pyxlaw11_known.D k) pyxlaw11_known.mk pyxlaw11_known.re
    (by intro args x h; replace h : pyxlaw11_known.un args = some x := h; unfold pyxlaw11_known.un at h; split at h; · cases h; rfl
        · cases h)
    (by intro v y h; unfold pyxlaw11_known.re at h; split at h; · cases h; rfl
        · cases h)
    (fun _ => rfl) (fun x => Nat.le_of_ble_eq_true (by kernel_rfl)) (pyxlaw11_known.eq k)
/-! ### pyx/pyxlaw11.ChartKnown: function 3 -/
noncomputable def pyxlaw11_ChartKnown.l3.once (k : Nat) (x : (Int × Int × Int × Int × Int × Int × Int × Int × Int × Int × Int × Int × Int × Int × Int × Int × Int × Int × Int)) : Option ((Int × Int × Int × Int × Int × Int × Int × Int × Int × Int × Int × Int × Int × Int × Int × Int × Int × Int × Int) ⊕ (Unit ⊕ Bool)) := match x with | (x1, x2, x3, x4, x5, x6, x7, x8, x9, x10, x11, x12, x13, x14, x15, x16, x17, x18, x19) => cond (decide (x19 < 18)) (cond (inb x19 18) ((chart_Kind.f k (IntKind.wrap .i64 (x19 - 1))).bind fun t20 => (cond (t20 != (List.getD [x1, x2, x3, x4, x5, x6, x7, x8, x9, x10, x11, x12, x13, x14, x15, x16, x17, x18] (Int.toNat x19) 0)) (some (.inr (.inr false))) ((chart_IsWith.f k (IntKind.wrap .i64 (x19 - 1))).bind fun t21 => (cond (x19 == 4) (cond (!(t21 == true)) (some (.inr (.inr false))) (some (.inl (x1, x2, x3, x4, x5, x6, x7, x8, x9, x10, x11, x12, x13, x14, x15, x16, x17, x18, IntKind.wrap .i64 (x19 + 1))))) (cond (!(t21 == (x19 == 7))) (some (.inr (.inr false))) (some (.inl (x1, x2, x3, x4, x5, x6, x7, x8, x9, x10, x11, x12, x13, x14, x15, x16, x17, x18, IntKind.wrap .i64 (x19 + 1))))))))) none) (some (.inr (.inl ())))
noncomputable def pyxlaw11_ChartKnown.f (k : Nat)  : Option Bool := (iter (pyxlaw11_ChartKnown.l3.once k) k (List.getD [0, 1, 1, 1, 1, 2, 2, 2, 3, 3, 4, 4, 4, 4, 4, 4, 4, 0] 0 0, List.getD [0, 1, 1, 1, 1, 2, 2, 2, 3, 3, 4, 4, 4, 4, 4, 4, 4, 0] 1 0, List.getD [0, 1, 1, 1, 1, 2, 2, 2, 3, 3, 4, 4, 4, 4, 4, 4, 4, 0] 2 0, List.getD [0, 1, 1, 1, 1, 2, 2, 2, 3, 3, 4, 4, 4, 4, 4, 4, 4, 0] 3 0, List.getD [0, 1, 1, 1, 1, 2, 2, 2, 3, 3, 4, 4, 4, 4, 4, 4, 4, 0] 4 0, List.getD [0, 1, 1, 1, 1, 2, 2, 2, 3, 3, 4, 4, 4, 4, 4, 4, 4, 0] 5 0, List.getD [0, 1, 1, 1, 1, 2, 2, 2, 3, 3, 4, 4, 4, 4, 4, 4, 4, 0] 6 0, List.getD [0, 1, 1, 1, 1, 2, 2, 2, 3, 3, 4, 4, 4, 4, 4, 4, 4, 0] 7 0, List.getD [0, 1, 1, 1, 1, 2, 2, 2, 3, 3, 4, 4, 4, 4, 4, 4, 4, 0] 8 0, List.getD [0, 1, 1, 1, 1, 2, 2, 2, 3, 3, 4, 4, 4, 4, 4, 4, 4, 0] 9 0, List.getD [0, 1, 1, 1, 1, 2, 2, 2, 3, 3, 4, 4, 4, 4, 4, 4, 4, 0] 10 0, List.getD [0, 1, 1, 1, 1, 2, 2, 2, 3, 3, 4, 4, 4, 4, 4, 4, 4, 0] 11 0, List.getD [0, 1, 1, 1, 1, 2, 2, 2, 3, 3, 4, 4, 4, 4, 4, 4, 4, 0] 12 0, List.getD [0, 1, 1, 1, 1, 2, 2, 2, 3, 3, 4, 4, 4, 4, 4, 4, 4, 0] 13 0, List.getD [0, 1, 1, 1, 1, 2, 2, 2, 3, 3, 4, 4, 4, 4, 4, 4, 4, 0] 14 0, List.getD [0, 1, 1, 1, 1, 2, 2, 2, 3, 3, 4, 4, 4, 4, 4, 4, 4, 0] 15 0, List.getD [0, 1, 1, 1, 1, 2, 2, 2, 3, 3, 4, 4, 4, 4, 4, 4, 4, 0] 16 0, List.getD [0, 1, 1, 1, 1, 2, 2, 2, 3, 3, 4, 4, 4, 4, 4, 4, 4, 0] 17 0, 0)).bind fun | .inl y23 => ((pyxlaw11_known.f k).bind fun t24 => (cond (t24) (some true) (some false))) | .inr y25 => (some y25)
noncomputable def pyxlaw11_ChartKnown.un : List (AV U) → Option Unit | [] => some () | _ => none
noncomputable def pyxlaw11_ChartKnown.mk (x : Unit) : List (AV U) := []
noncomputable def pyxlaw11_ChartKnown.D (k : Nat) : FDen U := { X := Unit, Y := Bool, un := pyxlaw11_ChartKnown.un, f := fun x => pyxlaw11_ChartKnown.f k , fin := fun y => .flat (.bool y) }
noncomputable def pyxlaw11_ChartKnown.re : AV U → Option Bool | .flat (.bool x1) => some x1 | _ => none
noncomputable def pyxlaw11_ChartKnown.l3.mk (x : (Int × Int × Int × Int × Int × Int × Int × Int × Int × Int × Int × Int × Int × Int × Int × Int × Int × Int × Int)) : St U := match x with | (x1, x2, x3, x4, x5, x6, x7, x8, x9, x10, x11, x12, x13, x14, x15, x16, x17, x18, x19) => ⟨[(5, .agg [.flat (.int .i64 x1), .flat (.int .i64 x2), .flat (.int .i64 x3), .flat (.int .i64 x4), .flat (.int .i64 x5), .flat (.int .i64 x6), .flat (.int .i64 x7), .flat (.int .i64 x8), .flat (.int .i64 x9), .flat (.int .i64 x10), .flat (.int .i64 x11), .flat (.int .i64 x12), .flat (.int .i64 x13), .flat (.int .i64 x14), .flat (.int .i64 x15), .flat (.int .i64 x16), .flat (.int .i64 x17), .flat (.int .i64 x18)]), (6, .flat (.int .i64 x19))], []⟩
noncomputable def pyxlaw11_ChartKnown.l3.un (s : St U) : Option (Int × Int × Int × Int × Int × Int × Int × Int × Int × Int × Int × Int × Int × Int × Int × Int × Int × Int × Int) := match s.get 5, s.get 6 with | .agg [.flat (.int .i64 x1), .flat (.int .i64 x2), .flat (.int .i64 x3), .flat (.int .i64 x4), .flat (.int .i64 x5), .flat (.int .i64 x6), .flat (.int .i64 x7), .flat (.int .i64 x8), .flat (.int .i64 x9), .flat (.int .i64 x10), .flat (.int .i64 x11), .flat (.int .i64 x12), .flat (.int .i64 x13), .flat (.int .i64 x14), .flat (.int .i64 x15), .flat (.int .i64 x16), .flat (.int .i64 x17), .flat (.int .i64 x18)], .flat (.int .i64 x19) => some (x1, x2, x3, x4, x5, x6, x7, x8, x9, x10, x11, x12, x13, x14, x15, x16, x17, x18, x19) | _, _ => none
noncomputable def pyxlaw11_ChartKnown.l3.fin (y : Unit ⊕ Bool) : Out U := match y with | .inl () => .exit 0 ⟨[], []⟩ | .inr z => .ret (.flat (.bool z))
noncomputable def pyxlaw11_ChartKnown.l3.finK {ρ : Type} (y : Unit ⊕ Bool) (K : Out U → Option ρ) : Option ρ := match y with | .inl () => K (.exit 0 ⟨[], []⟩) | .inr z => K (.ret (.flat (.bool z)))
theorem pyxlaw11_ChartKnown.l3.finK_eq {ρ : Type} (y : Unit ⊕ Bool) (K : Out U → Option ρ) : pyxlaw11_ChartKnown.l3.finK y K = K (pyxlaw11_ChartKnown.l3.fin y) := by
  unfold pyxlaw11_ChartKnown.l3.finK pyxlaw11_ChartKnown.l3.fin
  split <;> rfl
noncomputable def pyxlaw11_ChartKnown.l3.re : Out U → Option (Unit ⊕ Bool) | .exit 0 s => some (.inl ()) | .ret v => (match v with | .flat (.bool x1) => some (.inr x1) | _ => none) | _ => none
noncomputable def pyxlaw11_ChartKnown.l3.L (k : Nat) : LDen U := { X := (Int × Int × Int × Int × Int × Int × Int × Int × Int × Int × Int × Int × Int × Int × Int × Int × Int × Int × Int), Y := Unit ⊕ Bool, un := pyxlaw11_ChartKnown.l3.un, f := iter (pyxlaw11_ChartKnown.l3.once k) k, fin := pyxlaw11_ChartKnown.l3.fin, finK := pyxlaw11_ChartKnown.l3.finK, finK_eq := pyxlaw11_ChartKnown.l3.finK_eq }
noncomputable def pyxlaw11_ChartKnown.fl (k : Nat) : List (Nat × FDen U) := [(13, chart_Kind.D k), (14, chart_IsWith.D k), (15, pyxlaw11_known.D k)]
noncomputable def pyxlaw11_ChartKnown.ll (k : Nat) : List (Nat × LDen U) := [(3, pyxlaw11_ChartKnown.l3.L k)]
noncomputable def pyxlaw11_ChartKnown.E (k : Nat) : Env U := { P := Try.prog, D := DD, fd := lk (pyxlaw11_ChartKnown.fl k), ld := lk (pyxlaw11_ChartKnown.ll k), mode := lk [(22, (18, C.i64))], results := Try.f3.results.toList }
theorem pyxlaw11_ChartKnown.ok (k : Nat) : EnvOk (pyxlaw11_ChartKnown.E k) := envOk lawful (pyxlaw11_ChartKnown.fl k) (pyxlaw11_ChartKnown.ll k) _ _ (by
  intro p hp
  simp only [pyxlaw11_ChartKnown.fl, List.mem_cons, List.not_mem_nil, or_false] at hp
  rcases hp with rfl | rfl | rfl
  · exact ⟨chart_Kind.sound k, enter_of Try.func13 (by kernel_rfl) (by kernel_rfl)⟩
  · exact ⟨chart_IsWith.sound k, enter_of Try.func14 (by kernel_rfl) (by kernel_rfl)⟩
  · exact ⟨pyxlaw11_known.sound k, enter_of Try.func15 (by kernel_rfl) (by kernel_rfl)⟩)
theorem pyxlaw11_ChartKnown.l3.eq (k : Nat) (x : (Int × Int × Int × Int × Int × Int × Int × Int × Int × Int × Int × Int × Int × Int × Int × Int × Int × Int × Int)) : evC (pyxlaw11_ChartKnown.E k) (loopAt Try.f3 3) (pyxlaw11_ChartKnown.l3.mk x) (headK pyxlaw11_ChartKnown.l3.un pyxlaw11_ChartKnown.l3.re) = pyxlaw11_ChartKnown.l3.once k x := by kernel_rfl
theorem pyxlaw11_ChartKnown.l3.fit (s : St U) (x : (Int × Int × Int × Int × Int × Int × Int × Int × Int × Int × Int × Int × Int × Int × Int × Int × Int × Int × Int)) (h : pyxlaw11_ChartKnown.l3.un s = some x) : Fits s (pyxlaw11_ChartKnown.l3.mk x) := by
  unfold pyxlaw11_ChartKnown.l3.un at h
  split at h
  · cases h
    exact fits_mk (by simp [pyxlaw11_ChartKnown.l3.mk, *]) (by simp [pyxlaw11_ChartKnown.l3.mk, *]) rfl
  · cases h
theorem pyxlaw11_ChartKnown.l3.fitO (o : Out U) (y : Unit ⊕ Bool) (h : pyxlaw11_ChartKnown.l3.re o = some y) : FitsO o (pyxlaw11_ChartKnown.l3.fin y) := by
  unfold pyxlaw11_ChartKnown.l3.re at h
  split at h
  · cases h
    exact fitsO_exit (fits_mk (by simp [*]) (by simp [*]) rfl)
  · split at h
    · cases h; exact fitsO_ret
    · cases h
  · cases h
theorem pyxlaw11_ChartKnown.l3.sound (k : Nat) : LSound (pyxlaw11_ChartKnown.E k) Try.f3.ntmps Try.f3 (loopAt Try.f3 3) (pyxlaw11_ChartKnown.l3.L k) :=
  loop_sound (pyxlaw11_ChartKnown.ok k) mixed rfl (by kernel_rfl) (allL_of (l := []) (by kernel_rfl) allL_nil) pyxlaw11_ChartKnown.l3.un pyxlaw11_ChartKnown.l3.mk pyxlaw11_ChartKnown.l3.fin pyxlaw11_ChartKnown.l3.re (pyxlaw11_ChartKnown.l3.once k) k pyxlaw11_ChartKnown.l3.fit pyxlaw11_ChartKnown.l3.fitO (pyxlaw11_ChartKnown.l3.eq k) pyxlaw11_ChartKnown.l3.finK pyxlaw11_ChartKnown.l3.finK_eq
theorem pyxlaw11_ChartKnown.eq (k : Nat) (x : Unit) : runF (pyxlaw11_ChartKnown.E k) (codeOf Try.f3) (pyxlaw11_ChartKnown.mk x) pyxlaw11_ChartKnown.re = (pyxlaw11_ChartKnown.D k).f x := by kernel_rfl
theorem pyxlaw11_ChartKnown.sound (k : Nat) : Sound Try.prog DD 3 (pyxlaw11_ChartKnown.D k) :=
  fun_sound (E := pyxlaw11_ChartKnown.E k) (fn := Try.f3) (c := codeOf Try.f3) (pyxlaw11_ChartKnown.ok k) mixed rfl Try.func3 (by kernel_rfl) (by kernel_rfl) (allL_of (l := [loopAt Try.f3 3]) (by kernel_rfl) (allL_cons (key := 3) (by kernel_rfl) rfl (pyxlaw11_ChartKnown.l3.sound k) allL_nil)) (pyxlaw11_ChartKnown.D k) pyxlaw11_ChartKnown.mk pyxlaw11_ChartKnown.re
    (by intro args x h; replace h : pyxlaw11_ChartKnown.un args = some x := h; unfold pyxlaw11_ChartKnown.un at h; split at h; · cases h; rfl
        · cases h)
    (by intro v y h; unfold pyxlaw11_ChartKnown.re at h; split at h; · cases h; rfl
        · cases h)
    (fun _ => rfl) (fun x => Nat.le_of_ble_eq_true (by kernel_rfl)) (pyxlaw11_ChartKnown.eq k)
/-! ### pyx/pyxref11.Kind: function 16 -/
noncomputable def pyxref11_Kind.f (k : Nat) (a0 : Int) : Option Int := cond (decide (a0 < 0)) (some 0) (cond (decide (a0 ≥ 16)) (some 0) (cond (decide (a0 < 4)) (some 1) (cond (decide (a0 < 7)) (some 2) (cond (decide (a0 < 9)) (some 3) (some 4)))))
noncomputable def pyxref11_Kind.un : List (AV U) → Option Int | [.flat (.int .i64 x1)] => some x1 | _ => none
noncomputable def pyxref11_Kind.mk (x : Int) : List (AV U) := [.flat (.int .i64 x)]
noncomputable def pyxref11_Kind.D (k : Nat) : FDen U := { X := Int, Y := Int, un := pyxref11_Kind.un, f := fun x => pyxref11_Kind.f k (x), fin := fun y => .flat (.int .i64 y) }
noncomputable def pyxref11_Kind.re : AV U → Option Int | .flat (.int .i64 x1) => some x1 | _ => none
noncomputable def pyxref11_Kind.fl (k : Nat) : List (Nat × FDen U) := []
noncomputable def pyxref11_Kind.ll (k : Nat) : List (Nat × LDen U) := []
noncomputable def pyxref11_Kind.E (k : Nat) : Env U := { P := Try.prog, D := DD, fd := lk (pyxref11_Kind.fl k), ld := lk (pyxref11_Kind.ll k), mode := lk [], results := Try.f16.results.toList }
theorem pyxref11_Kind.ok (k : Nat) : EnvOk (pyxref11_Kind.E k) := envOk lawful (pyxref11_Kind.fl k) (pyxref11_Kind.ll k) _ _ (by
  intro p hp
  simp [pyxref11_Kind.fl] at hp)
theorem pyxref11_Kind.eq (k : Nat) (x : Int) : runF (pyxref11_Kind.E k) (codeOf Try.f16) (pyxref11_Kind.mk x) pyxref11_Kind.re = (pyxref11_Kind.D k).f x := by kernel_rfl
theorem pyxref11_Kind.sound (k : Nat) : Sound Try.prog DD 16 (pyxref11_Kind.D k) :=
  fun_sound (E := pyxref11_Kind.E k) (fn := Try.f16) (c := codeOf Try.f16) (pyxref11_Kind.ok k) mixed rfl Try.func16 (by kernel_rfl) (by kernel_rfl) (allL_of (l := []) (by kernel_rfl) allL_nil) (pyxref11_Kind.D k) pyxref11_Kind.mk pyxref11_Kind.re
    (by intro args x h; replace h : pyxref11_Kind.un args = some x := h; unfold pyxref11_Kind.un at h; split at h; · cases h; rfl
        · cases h)
    (by intro v y h; unfold pyxref11_Kind.re at h; split at h; · cases h; rfl
        · cases h)
    (fun _ => rfl) (fun x => Nat.le_of_ble_eq_true (by kernel_rfl)) (pyxref11_Kind.eq k)
/-! ### pyx/pyxref11.IsWith: function 17 -/
noncomputable def pyxref11_IsWith.f (k : Nat) (a0 : Int) : Option Bool := cond (a0 == 3) (some true) (some (a0 == 6))
noncomputable def pyxref11_IsWith.un : List (AV U) → Option Int | [.flat (.int .i64 x1)] => some x1 | _ => none
noncomputable def pyxref11_IsWith.mk (x : Int) : List (AV U) := [.flat (.int .i64 x)]
noncomputable def pyxref11_IsWith.D (k : Nat) : FDen U := { X := Int, Y := Bool, un := pyxref11_IsWith.un, f := fun x => pyxref11_IsWith.f k (x), fin := fun y => .flat (.bool y) }
noncomputable def pyxref11_IsWith.re : AV U → Option Bool | .flat (.bool x1) => some x1 | _ => none
noncomputable def pyxref11_IsWith.fl (k : Nat) : List (Nat × FDen U) := []
noncomputable def pyxref11_IsWith.ll (k : Nat) : List (Nat × LDen U) := []
noncomputable def pyxref11_IsWith.E (k : Nat) : Env U := { P := Try.prog, D := DD, fd := lk (pyxref11_IsWith.fl k), ld := lk (pyxref11_IsWith.ll k), mode := lk [], results := Try.f17.results.toList }
theorem pyxref11_IsWith.ok (k : Nat) : EnvOk (pyxref11_IsWith.E k) := envOk lawful (pyxref11_IsWith.fl k) (pyxref11_IsWith.ll k) _ _ (by
  intro p hp
  simp [pyxref11_IsWith.fl] at hp)
theorem pyxref11_IsWith.eq (k : Nat) (x : Int) : runF (pyxref11_IsWith.E k) (codeOf Try.f17) (pyxref11_IsWith.mk x) pyxref11_IsWith.re = (pyxref11_IsWith.D k).f x := by kernel_rfl
theorem pyxref11_IsWith.sound (k : Nat) : Sound Try.prog DD 17 (pyxref11_IsWith.D k) :=
  fun_sound (E := pyxref11_IsWith.E k) (fn := Try.f17) (c := codeOf Try.f17) (pyxref11_IsWith.ok k) mixed rfl Try.func17 (by kernel_rfl) (by kernel_rfl) (allL_of (l := []) (by kernel_rfl) allL_nil) (pyxref11_IsWith.D k) pyxref11_IsWith.mk pyxref11_IsWith.re
    (by intro args x h; replace h : pyxref11_IsWith.un args = some x := h; unfold pyxref11_IsWith.un at h; split at h; · cases h; rfl
        · cases h)
    (by intro v y h; unfold pyxref11_IsWith.re at h; split at h; · cases h; rfl
        · cases h)
    (fun _ => rfl) (fun x => Nat.le_of_ble_eq_true (by kernel_rfl)) (pyxref11_IsWith.eq k)
/-! ### pyx/pyxlaw11.ChartTells: function 4 -/
noncomputable def pyxlaw11_ChartTells.f (k : Nat) (a0 : Int) : Option Bool := (pyxlaw11_known.f k).bind fun t1 => (cond (t1) ((chart_Kind.f k a0).bind fun t2 => ((pyxref11_Kind.f k a0).bind fun t3 => (cond (t2 == t3) ((chart_Kind.f k (Int.tmod a0 20)).bind fun t4 => ((pyxref11_Kind.f k (Int.tmod a0 20)).bind fun t5 => (cond (t4 == t5) ((chart_IsWith.f k a0).bind fun t6 => ((pyxref11_IsWith.f k a0).bind fun t7 => (cond (t6 == t7) ((chart_IsWith.f k (Int.tmod a0 20)).bind fun t8 => ((pyxref11_IsWith.f k (Int.tmod a0 20)).bind fun t9 => (cond (t8 == t9) ((chart_Kind.f k a0).bind fun t10 => (cond (decide (a0 < 0)) (some ((t10 == 0) == true)) (some ((t10 == 0) == (decide (a0 ≥ 16)))))) (some false)))) (some false)))) (some false)))) (some false)))) (some false))
noncomputable def pyxlaw11_ChartTells.un : List (AV U) → Option Int | [.flat (.int .i64 x1)] => some x1 | _ => none
noncomputable def pyxlaw11_ChartTells.mk (x : Int) : List (AV U) := [.flat (.int .i64 x)]
noncomputable def pyxlaw11_ChartTells.D (k : Nat) : FDen U := { X := Int, Y := Bool, un := pyxlaw11_ChartTells.un, f := fun x => pyxlaw11_ChartTells.f k (x), fin := fun y => .flat (.bool y) }
noncomputable def pyxlaw11_ChartTells.re : AV U → Option Bool | .flat (.bool x1) => some x1 | _ => none
noncomputable def pyxlaw11_ChartTells.fl (k : Nat) : List (Nat × FDen U) := [(15, pyxlaw11_known.D k), (13, chart_Kind.D k), (16, pyxref11_Kind.D k), (14, chart_IsWith.D k), (17, pyxref11_IsWith.D k)]
noncomputable def pyxlaw11_ChartTells.ll (k : Nat) : List (Nat × LDen U) := []
noncomputable def pyxlaw11_ChartTells.E (k : Nat) : Env U := { P := Try.prog, D := DD, fd := lk (pyxlaw11_ChartTells.fl k), ld := lk (pyxlaw11_ChartTells.ll k), mode := lk [], results := Try.f4.results.toList }
theorem pyxlaw11_ChartTells.ok (k : Nat) : EnvOk (pyxlaw11_ChartTells.E k) := envOk lawful (pyxlaw11_ChartTells.fl k) (pyxlaw11_ChartTells.ll k) _ _ (by
  intro p hp
  simp only [pyxlaw11_ChartTells.fl, List.mem_cons, List.not_mem_nil, or_false] at hp
  rcases hp with rfl | rfl | rfl | rfl | rfl
  · exact ⟨pyxlaw11_known.sound k, enter_of Try.func15 (by kernel_rfl) (by kernel_rfl)⟩
  · exact ⟨chart_Kind.sound k, enter_of Try.func13 (by kernel_rfl) (by kernel_rfl)⟩
  · exact ⟨pyxref11_Kind.sound k, enter_of Try.func16 (by kernel_rfl) (by kernel_rfl)⟩
  · exact ⟨chart_IsWith.sound k, enter_of Try.func14 (by kernel_rfl) (by kernel_rfl)⟩
  · exact ⟨pyxref11_IsWith.sound k, enter_of Try.func17 (by kernel_rfl) (by kernel_rfl)⟩)
theorem pyxlaw11_ChartTells.eq (k : Nat) (x : Int) : runF (pyxlaw11_ChartTells.E k) (codeOf Try.f4) (pyxlaw11_ChartTells.mk x) pyxlaw11_ChartTells.re = (pyxlaw11_ChartTells.D k).f x := by kernel_rfl
theorem pyxlaw11_ChartTells.sound (k : Nat) : Sound Try.prog DD 4 (pyxlaw11_ChartTells.D k) :=
  fun_sound (E := pyxlaw11_ChartTells.E k) (fn := Try.f4) (c := codeOf Try.f4) (pyxlaw11_ChartTells.ok k) mixed rfl Try.func4 (by kernel_rfl) (by kernel_rfl) (allL_of (l := []) (by kernel_rfl) allL_nil) (pyxlaw11_ChartTells.D k) pyxlaw11_ChartTells.mk pyxlaw11_ChartTells.re
    (by intro args x h; replace h : pyxlaw11_ChartTells.un args = some x := h; unfold pyxlaw11_ChartTells.un at h; split at h; · cases h; rfl
        · cases h)
    (by intro v y h; unfold pyxlaw11_ChartTells.re at h; split at h; · cases h; rfl
        · cases h)
    (fun _ => rfl) (fun x => Nat.le_of_ble_eq_true (by kernel_rfl)) (pyxlaw11_ChartTells.eq k)
/-! ### pyx/period.is: function 35 -/
noncomputable def period_is.f (k : Nat) (a0 : Int) : Option Bool := cond (decide (a0 ≥ 0)) (some (decide (a0 < 12))) (some false)
noncomputable def period_is.un : List (AV U) → Option Int | [.flat (.int .i64 x1)] => some x1 | _ => none
noncomputable def period_is.mk (x : Int) : List (AV U) := [.flat (.int .i64 x)]
noncomputable def period_is.D (k : Nat) : FDen U := { X := Int, Y := Bool, un := period_is.un, f := fun x => period_is.f k (x), fin := fun y => .flat (.bool y) }
noncomputable def period_is.re : AV U → Option Bool | .flat (.bool x1) => some x1 | _ => none
noncomputable def period_is.fl (k : Nat) : List (Nat × FDen U) := []
noncomputable def period_is.ll (k : Nat) : List (Nat × LDen U) := []
noncomputable def period_is.E (k : Nat) : Env U := { P := Try.prog, D := DD, fd := lk (period_is.fl k), ld := lk (period_is.ll k), mode := lk [], results := Try.f35.results.toList }
theorem period_is.ok (k : Nat) : EnvOk (period_is.E k) := envOk lawful (period_is.fl k) (period_is.ll k) _ _ (by
  intro p hp
  simp [period_is.fl] at hp)
theorem period_is.eq (k : Nat) (x : Int) : runF (period_is.E k) (codeOf Try.f35) (period_is.mk x) period_is.re = (period_is.D k).f x := by kernel_rfl
theorem period_is.sound (k : Nat) : Sound Try.prog DD 35 (period_is.D k) :=
  fun_sound (E := period_is.E k) (fn := Try.f35) (c := codeOf Try.f35) (period_is.ok k) mixed rfl Try.func35 (by kernel_rfl) (by kernel_rfl) (allL_of (l := []) (by kernel_rfl) allL_nil) (period_is.D k) period_is.mk period_is.re
    (by intro args x h; replace h : period_is.un args = some x := h; unfold period_is.un at h; split at h; · cases h; rfl
        · cases h)
    (by intro v y h; unfold period_is.re at h; split at h; · cases h; rfl
        · cases h)
    (fun _ => rfl) (fun x => Nat.le_of_ble_eq_true (by kernel_rfl)) (period_is.eq k)
/-! ### pyx/pyxhand.Pick: function 22 -/
noncomputable def pyxhand_Pick.f (k : Nat) (a0 : Int) (a1 : Int) : Option Int := cond (a1 == 0) none (cond (decide ((Int.tmod a0 a1) < 0)) (some (IntKind.wrap .i64 ((Int.tmod a0 a1) + a1))) (some (Int.tmod a0 a1)))
noncomputable def pyxhand_Pick.un : List (AV U) → Option (Int × Int) | [.flat (.int .i64 x1), .flat (.int .i64 x2)] => some (x1, x2) | _ => none
noncomputable def pyxhand_Pick.mk (x : (Int × Int)) : List (AV U) := [.flat (.int .i64 x.1), .flat (.int .i64 x.2)]
noncomputable def pyxhand_Pick.D (k : Nat) : FDen U := { X := (Int × Int), Y := Int, un := pyxhand_Pick.un, f := fun x => pyxhand_Pick.f k (x.1) (x.2), fin := fun y => .flat (.int .i64 y) }
noncomputable def pyxhand_Pick.re : AV U → Option Int | .flat (.int .i64 x1) => some x1 | _ => none
noncomputable def pyxhand_Pick.fl (k : Nat) : List (Nat × FDen U) := []
noncomputable def pyxhand_Pick.ll (k : Nat) : List (Nat × LDen U) := []
noncomputable def pyxhand_Pick.E (k : Nat) : Env U := { P := Try.prog, D := DD, fd := lk (pyxhand_Pick.fl k), ld := lk (pyxhand_Pick.ll k), mode := lk [], results := Try.f22.results.toList }
theorem pyxhand_Pick.ok (k : Nat) : EnvOk (pyxhand_Pick.E k) := envOk lawful (pyxhand_Pick.fl k) (pyxhand_Pick.ll k) _ _ (by
  intro p hp
  simp [pyxhand_Pick.fl] at hp)
theorem pyxhand_Pick.eq (k : Nat) (x : (Int × Int)) : runF (pyxhand_Pick.E k) (codeOf Try.f22) (pyxhand_Pick.mk x) pyxhand_Pick.re = (pyxhand_Pick.D k).f x := by kernel_rfl
theorem pyxhand_Pick.sound (k : Nat) : Sound Try.prog DD 22 (pyxhand_Pick.D k) :=
  fun_sound (E := pyxhand_Pick.E k) (fn := Try.f22) (c := codeOf Try.f22) (pyxhand_Pick.ok k) mixed rfl Try.func22 (by kernel_rfl) (by kernel_rfl) (allL_of (l := []) (by kernel_rfl) allL_nil) (pyxhand_Pick.D k) pyxhand_Pick.mk pyxhand_Pick.re
    (by intro args x h; replace h : pyxhand_Pick.un args = some x := h; unfold pyxhand_Pick.un at h; split at h; · cases h; rfl
        · cases h)
    (by intro v y h; unfold pyxhand_Pick.re at h; split at h; · cases h; rfl
        · cases h)
    (fun _ => rfl) (fun x => Nat.le_of_ble_eq_true (by kernel_rfl)) (pyxhand_Pick.eq k)
end
end Go.Proofs.Ytojkgadihooplaa
