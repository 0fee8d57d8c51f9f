import Derived.Test.YtojkgadihooplaaU
/-! Functions, told; their equations with the evaluator; that they are sound. Written by gen.py. -/
namespace Go.Proofs.Ytojkgadihooplaa
open Go Go.Ev
noncomputable section
set_option linter.unusedVariables false
set_option linter.unusedSimpArgs false
set_option maxRecDepth 100000
/-! ### pyx/chart.Kind: function 13 -/
noncomputable def chart_Kind.f (k : Nat) (a0 : Int) : Option Int := cond (decide (a0 < 0)) (some 0) (cond (decide (a0 ≥ 16)) (some 0) (cond (decide (a0 ≤ 3)) (some 1) (cond (decide (a0 ≤ 6)) (some 2) (cond (decide (a0 ≤ 8)) (some 3) (some 4)))))
noncomputable def chart_Kind.un : List (AV U) → Option Int | [.flat (.int .i64 x1)] => some x1 | _ => none
noncomputable def chart_Kind.mk (x : Int) : List (AV U) := [.flat (.int .i64 x)]
noncomputable def chart_Kind.D (k : Nat) : FDen U := { X := Int, Y := Int, un := chart_Kind.un, f := fun x => chart_Kind.f k (x), fin := fun y => .flat (.int .i64 y) }
noncomputable def chart_Kind.re : AV U → Option Int | .flat (.int .i64 x1) => some x1 | _ => none
noncomputable def chart_Kind.fl (k : Nat) : List (Nat × FDen U) := []
noncomputable def chart_Kind.ll (k : Nat) : List (Nat × LDen U) := []
noncomputable def chart_Kind.E (k : Nat) : Env U := { P := Try.prog, D := DD, fd := lk (chart_Kind.fl k), ld := lk (chart_Kind.ll k), mode := lk [], elc := lk ec, results := Try.f13.results.toList }
theorem chart_Kind.ok (k : Nat) : EnvOk (chart_Kind.E k) := envOk lawful (chart_Kind.fl k) (chart_Kind.ll k) _ _ _ (by
  intro p hp
  simp [chart_Kind.fl] at hp)
theorem chart_Kind.eq (k : Nat) (x : Int) : runF (chart_Kind.E k) (codeOf Try.f13) (chart_Kind.mk x) chart_Kind.re = (chart_Kind.D k).f x := by kernel_rfl
theorem chart_Kind.sound (k : Nat) : Sound Try.prog DD 13 (chart_Kind.D k) :=
  fun_sound (E := chart_Kind.E k) (fn := Try.f13) (c := codeOf Try.f13) (chart_Kind.ok k) mixed rfl Try.func13 (by kernel_rfl) (by kernel_rfl) (allL_of (l := []) (by kernel_rfl) allL_nil) (chart_Kind.D k) chart_Kind.mk chart_Kind.re
    (by intro args x h; replace h : chart_Kind.un args = some x := h; unfold chart_Kind.un at h; split at h; · cases h; rfl
        · cases h)
    (by intro v y h; unfold chart_Kind.re at h; split at h; · cases h; rfl
        · cases h)
    (fun _ => rfl) (fun x => Nat.le_of_ble_eq_true (by kernel_rfl)) (chart_Kind.eq k)
/-! ### pyx/chart.IsWith: function 14 -/
noncomputable def chart_IsWith.f (k : Nat) (a0 : Int) : Option Bool := cond (a0 == 3) (some true) (some (a0 == 6))
noncomputable def chart_IsWith.un : List (AV U) → Option Int | [.flat (.int .i64 x1)] => some x1 | _ => none
noncomputable def chart_IsWith.mk (x : Int) : List (AV U) := [.flat (.int .i64 x)]
noncomputable def chart_IsWith.D (k : Nat) : FDen U := { X := Int, Y := Bool, un := chart_IsWith.un, f := fun x => chart_IsWith.f k (x), fin := fun y => .flat (.bool y) }
noncomputable def chart_IsWith.re : AV U → Option Bool | .flat (.bool x1) => some x1 | _ => none
noncomputable def chart_IsWith.fl (k : Nat) : List (Nat × FDen U) := []
noncomputable def chart_IsWith.ll (k : Nat) : List (Nat × LDen U) := []
noncomputable def chart_IsWith.E (k : Nat) : Env U := { P := Try.prog, D := DD, fd := lk (chart_IsWith.fl k), ld := lk (chart_IsWith.ll k), mode := lk [], elc := lk ec, results := Try.f14.results.toList }
theorem chart_IsWith.ok (k : Nat) : EnvOk (chart_IsWith.E k) := envOk lawful (chart_IsWith.fl k) (chart_IsWith.ll k) _ _ _ (by
  intro p hp
  simp [chart_IsWith.fl] at hp)
theorem chart_IsWith.eq (k : Nat) (x : Int) : runF (chart_IsWith.E k) (codeOf Try.f14) (chart_IsWith.mk x) chart_IsWith.re = (chart_IsWith.D k).f x := by kernel_rfl
theorem chart_IsWith.sound (k : Nat) : Sound Try.prog DD 14 (chart_IsWith.D k) :=
  fun_sound (E := chart_IsWith.E k) (fn := Try.f14) (c := codeOf Try.f14) (chart_IsWith.ok k) mixed rfl Try.func14 (by kernel_rfl) (by kernel_rfl) (allL_of (l := []) (by kernel_rfl) allL_nil) (chart_IsWith.D k) chart_IsWith.mk chart_IsWith.re
    (by intro args x h; replace h : chart_IsWith.un args = some x := h; unfold chart_IsWith.un at h; split at h; · cases h; rfl
        · cases h)
    (by intro v y h; unfold chart_IsWith.re at h; split at h; · cases h; rfl
        · cases h)
    (fun _ => rfl) (fun x => Nat.le_of_ble_eq_true (by kernel_rfl)) (chart_IsWith.eq k)
/-! ### pyx/chart.Retained: function 34 -/
noncomputable def chart_Retained.f (k : Nat)  : Option Int := some 8
noncomputable def chart_Retained.un : List (AV U) → Option Unit | [] => some () | _ => none
noncomputable def chart_Retained.mk (x : Unit) : List (AV U) := []
noncomputable def chart_Retained.D (k : Nat) : FDen U := { X := Unit, Y := Int, un := chart_Retained.un, f := fun x => chart_Retained.f k , fin := fun y => .flat (.int .i64 y) }
noncomputable def chart_Retained.re : AV U → Option Int | .flat (.int .i64 x1) => some x1 | _ => none
noncomputable def chart_Retained.fl (k : Nat) : List (Nat × FDen U) := []
noncomputable def chart_Retained.ll (k : Nat) : List (Nat × LDen U) := []
noncomputable def chart_Retained.E (k : Nat) : Env U := { P := Try.prog, D := DD, fd := lk (chart_Retained.fl k), ld := lk (chart_Retained.ll k), mode := lk [], elc := lk ec, results := Try.f34.results.toList }
theorem chart_Retained.ok (k : Nat) : EnvOk (chart_Retained.E k) := envOk lawful (chart_Retained.fl k) (chart_Retained.ll k) _ _ _ (by
  intro p hp
  simp [chart_Retained.fl] at hp)
theorem chart_Retained.eq (k : Nat) (x : Unit) : runF (chart_Retained.E k) (codeOf Try.f34) (chart_Retained.mk x) chart_Retained.re = (chart_Retained.D k).f x := by kernel_rfl
theorem chart_Retained.sound (k : Nat) : Sound Try.prog DD 34 (chart_Retained.D k) :=
  fun_sound (E := chart_Retained.E k) (fn := Try.f34) (c := codeOf Try.f34) (chart_Retained.ok k) mixed rfl Try.func34 (by kernel_rfl) (by kernel_rfl) (allL_of (l := []) (by kernel_rfl) allL_nil) (chart_Retained.D k) chart_Retained.mk chart_Retained.re
    (by intro args x h; replace h : chart_Retained.un args = some x := h; unfold chart_Retained.un at h; split at h; · cases h; rfl
        · cases h)
    (by intro v y h; unfold chart_Retained.re at h; split at h; · cases h; rfl
        · cases h)
    (fun _ => rfl) (fun x => Nat.le_of_ble_eq_true (by kernel_rfl)) (chart_Retained.eq k)
/-! ### pyx/pyxlaw11.known: function 15 -/
noncomputable def pyxlaw11_known.f (k : Nat)  : Option Bool := (chart_Kind.f k 9).bind fun t1 => (cond (t1 == 4) ((chart_Retained.f k).bind fun t2 => (some (t2 == 8))) (some false))
noncomputable def pyxlaw11_known.un : List (AV U) → Option Unit | [] => some () | _ => none
noncomputable def pyxlaw11_known.mk (x : Unit) : List (AV U) := []
noncomputable def pyxlaw11_known.D (k : Nat) : FDen U := { X := Unit, Y := Bool, un := pyxlaw11_known.un, f := fun x => pyxlaw11_known.f k , fin := fun y => .flat (.bool y) }
noncomputable def pyxlaw11_known.re : AV U → Option Bool | .flat (.bool x1) => some x1 | _ => none
noncomputable def pyxlaw11_known.fl (k : Nat) : List (Nat × FDen U) := [(13, chart_Kind.D k), (34, chart_Retained.D k)]
noncomputable def pyxlaw11_known.ll (k : Nat) : List (Nat × LDen U) := []
noncomputable def pyxlaw11_known.E (k : Nat) : Env U := { P := Try.prog, D := DD, fd := lk (pyxlaw11_known.fl k), ld := lk (pyxlaw11_known.ll k), mode := lk [], elc := lk ec, results := Try.f15.results.toList }
theorem pyxlaw11_known.ok (k : Nat) : EnvOk (pyxlaw11_known.E k) := envOk lawful (pyxlaw11_known.fl k) (pyxlaw11_known.ll k) _ _ _ (by
  intro p hp
  simp only [pyxlaw11_known.fl, List.mem_cons, List.not_mem_nil, or_false] at hp
  rcases hp with rfl | rfl
  · exact ⟨chart_Kind.sound k, enter_of Try.func13 (by kernel_rfl) (by kernel_rfl)⟩
  · exact ⟨chart_Retained.sound k, enter_of Try.func34 (by kernel_rfl) (by kernel_rfl)⟩)
theorem pyxlaw11_known.eq (k : Nat) (x : Unit) : runF (pyxlaw11_known.E k) (codeOf Try.f15) (pyxlaw11_known.mk x) pyxlaw11_known.re = (pyxlaw11_known.D k).f x := by kernel_rfl
theorem pyxlaw11_known.sound (k : Nat) : Sound Try.prog DD 15 (pyxlaw11_known.D k) :=
  fun_sound (E := pyxlaw11_known.E k) (fn := Try.f15) (c := codeOf Try.f15) (pyxlaw11_known.ok k) mixed rfl Try.func15 (by kernel_rfl) (by kernel_rfl) (allL_of (l := []) (by kernel_rfl) allL_nil) (pyxlaw11_known.D k) pyxlaw11_known.mk pyxlaw11_known.re
    (by intro args x h; replace h : pyxlaw11_known.un args = some x := h; unfold pyxlaw11_known.un at h; split at h; · cases h; rfl
        · cases h)
    (by intro v y h; unfold pyxlaw11_known.re at h; split at h; · cases h; rfl
        · cases h)
    (fun _ => rfl) (fun x => Nat.le_of_ble_eq_true (by kernel_rfl)) (pyxlaw11_known.eq k)
/-! ### pyx/pyxlaw11.ChartKnown: function 3 -/
noncomputable def pyxlaw11_ChartKnown.l3.once (k : Nat) (x : (Int × Int × Int × Int × Int × Int × Int × Int × Int × Int × Int × Int × Int × Int × Int × Int × Int × Int × Int)) : Option ((Int × Int × Int × Int × Int × Int × Int × Int × Int × Int × Int × Int × Int × Int × Int × Int × Int × Int × Int) ⊕ (Unit ⊕ Bool)) := match x with | (x1, x2, x3, x4, x5, x6, x7, x8, x9, x10, x11, x12, x13, x14, x15, x16, x17, x18, x19) => cond (decide (x19 < 18)) (cond (inb x19 18) ((chart_Kind.f k (IntKind.wrap .i64 (x19 - 1))).bind fun t20 => (cond (t20 != (List.getD [x1, x2, x3, x4, x5, x6, x7, x8, x9, x10, x11, x12, x13, x14, x15, x16, x17, x18] (Int.toNat x19) 0)) (some (.inr (.inr false))) ((chart_IsWith.f k (IntKind.wrap .i64 (x19 - 1))).bind fun t21 => (cond (x19 == 4) (cond (!(t21 == true)) (some (.inr (.inr false))) (some (.inl (x1, x2, x3, x4, x5, x6, x7, x8, x9, x10, x11, x12, x13, x14, x15, x16, x17, x18, IntKind.wrap .i64 (x19 + 1))))) (cond (!(t21 == (x19 == 7))) (some (.inr (.inr false))) (some (.inl (x1, x2, x3, x4, x5, x6, x7, x8, x9, x10, x11, x12, x13, x14, x15, x16, x17, x18, IntKind.wrap .i64 (x19 + 1))))))))) none) (some (.inr (.inl ())))
noncomputable def pyxlaw11_ChartKnown.f (k : Nat)  : Option Bool := (iter (pyxlaw11_ChartKnown.l3.once k) k (List.getD [0, 1, 1, 1, 1, 2, 2, 2, 3, 3, 4, 4, 4, 4, 4, 4, 4, 0] 0 0, List.getD [0, 1, 1, 1, 1, 2, 2, 2, 3, 3, 4, 4, 4, 4, 4, 4, 4, 0] 1 0, List.getD [0, 1, 1, 1, 1, 2, 2, 2, 3, 3, 4, 4, 4, 4, 4, 4, 4, 0] 2 0, List.getD [0, 1, 1, 1, 1, 2, 2, 2, 3, 3, 4, 4, 4, 4, 4, 4, 4, 0] 3 0, List.getD [0, 1, 1, 1, 1, 2, 2, 2, 3, 3, 4, 4, 4, 4, 4, 4, 4, 0] 4 0, List.getD [0, 1, 1, 1, 1, 2, 2, 2, 3, 3, 4, 4, 4, 4, 4, 4, 4, 0] 5 0, List.getD [0, 1, 1, 1, 1, 2, 2, 2, 3, 3, 4, 4, 4, 4, 4, 4, 4, 0] 6 0, List.getD [0, 1, 1, 1, 1, 2, 2, 2, 3, 3, 4, 4, 4, 4, 4, 4, 4, 0] 7 0, List.getD [0, 1, 1, 1, 1, 2, 2, 2, 3, 3, 4, 4, 4, 4, 4, 4, 4, 0] 8 0, List.getD [0, 1, 1, 1, 1, 2, 2, 2, 3, 3, 4, 4, 4, 4, 4, 4, 4, 0] 9 0, List.getD [0, 1, 1, 1, 1, 2, 2, 2, 3, 3, 4, 4, 4, 4, 4, 4, 4, 0] 10 0, List.getD [0, 1, 1, 1, 1, 2, 2, 2, 3, 3, 4, 4, 4, 4, 4, 4, 4, 0] 11 0, List.getD [0, 1, 1, 1, 1, 2, 2, 2, 3, 3, 4, 4, 4, 4, 4, 4, 4, 0] 12 0, List.getD [0, 1, 1, 1, 1, 2, 2, 2, 3, 3, 4, 4, 4, 4, 4, 4, 4, 0] 13 0, List.getD [0, 1, 1, 1, 1, 2, 2, 2, 3, 3, 4, 4, 4, 4, 4, 4, 4, 0] 14 0, List.getD [0, 1, 1, 1, 1, 2, 2, 2, 3, 3, 4, 4, 4, 4, 4, 4, 4, 0] 15 0, List.getD [0, 1, 1, 1, 1, 2, 2, 2, 3, 3, 4, 4, 4, 4, 4, 4, 4, 0] 16 0, List.getD [0, 1, 1, 1, 1, 2, 2, 2, 3, 3, 4, 4, 4, 4, 4, 4, 4, 0] 17 0, 0)).bind fun | .inl y23 => ((pyxlaw11_known.f k).bind fun t24 => (cond (t24) (some true) (some false))) | .inr y25 => (some y25)
noncomputable def pyxlaw11_ChartKnown.un : List (AV U) → Option Unit | [] => some () | _ => none
noncomputable def pyxlaw11_ChartKnown.mk (x : Unit) : List (AV U) := []
noncomputable def pyxlaw11_ChartKnown.D (k : Nat) : FDen U := { X := Unit, Y := Bool, un := pyxlaw11_ChartKnown.un, f := fun x => pyxlaw11_ChartKnown.f k , fin := fun y => .flat (.bool y) }
noncomputable def pyxlaw11_ChartKnown.re : AV U → Option Bool | .flat (.bool x1) => some x1 | _ => none
noncomputable def pyxlaw11_ChartKnown.l3.mk (x : (Int × Int × Int × Int × Int × Int × Int × Int × Int × Int × Int × Int × Int × Int × Int × Int × Int × Int × Int)) : St U := match x with | (x1, x2, x3, x4, x5, x6, x7, x8, x9, x10, x11, x12, x13, x14, x15, x16, x17, x18, x19) => ⟨[(5, .agg [.flat (.int .i64 x1), .flat (.int .i64 x2), .flat (.int .i64 x3), .flat (.int .i64 x4), .flat (.int .i64 x5), .flat (.int .i64 x6), .flat (.int .i64 x7), .flat (.int .i64 x8), .flat (.int .i64 x9), .flat (.int .i64 x10), .flat (.int .i64 x11), .flat (.int .i64 x12), .flat (.int .i64 x13), .flat (.int .i64 x14), .flat (.int .i64 x15), .flat (.int .i64 x16), .flat (.int .i64 x17), .flat (.int .i64 x18)]), (6, .flat (.int .i64 x19))], []⟩
noncomputable def pyxlaw11_ChartKnown.l3.un (s : St U) : Option (Int × Int × Int × Int × Int × Int × Int × Int × Int × Int × Int × Int × Int × Int × Int × Int × Int × Int × Int) := match s.get 5, s.get 6 with | .agg [.flat (.int .i64 x1), .flat (.int .i64 x2), .flat (.int .i64 x3), .flat (.int .i64 x4), .flat (.int .i64 x5), .flat (.int .i64 x6), .flat (.int .i64 x7), .flat (.int .i64 x8), .flat (.int .i64 x9), .flat (.int .i64 x10), .flat (.int .i64 x11), .flat (.int .i64 x12), .flat (.int .i64 x13), .flat (.int .i64 x14), .flat (.int .i64 x15), .flat (.int .i64 x16), .flat (.int .i64 x17), .flat (.int .i64 x18)], .flat (.int .i64 x19) => some (x1, x2, x3, x4, x5, x6, x7, x8, x9, x10, x11, x12, x13, x14, x15, x16, x17, x18, x19) | _, _ => none
noncomputable def pyxlaw11_ChartKnown.l3.fin (y : Unit ⊕ Bool) : Out U := match y with | .inl () => .exit 0 ⟨[], []⟩ | .inr z => .ret (.flat (.bool z))
noncomputable def pyxlaw11_ChartKnown.l3.finK {ρ : Type} (y : Unit ⊕ Bool) (K : Out U → Option ρ) : Option ρ := match y with | .inl () => K (.exit 0 ⟨[], []⟩) | .inr z => K (.ret (.flat (.bool z)))
theorem pyxlaw11_ChartKnown.l3.finK_eq {ρ : Type} (y : Unit ⊕ Bool) (K : Out U → Option ρ) : pyxlaw11_ChartKnown.l3.finK y K = K (pyxlaw11_ChartKnown.l3.fin y) := by
  unfold pyxlaw11_ChartKnown.l3.finK pyxlaw11_ChartKnown.l3.fin
  first | rfl | (split <;> rfl)
noncomputable def pyxlaw11_ChartKnown.l3.re : Out U → Option (Unit ⊕ Bool) | .exit 0 s => (some (.inl ())) | .ret v => (match v with | .flat (.bool x1) => some (.inr x1) | _ => none) | _ => none
noncomputable def pyxlaw11_ChartKnown.l3.L (k : Nat) : LDen U := { X := (Int × Int × Int × Int × Int × Int × Int × Int × Int × Int × Int × Int × Int × Int × Int × Int × Int × Int × Int), Y := Unit ⊕ Bool, un := pyxlaw11_ChartKnown.l3.un, f := iter (pyxlaw11_ChartKnown.l3.once k) k, fin := pyxlaw11_ChartKnown.l3.fin, finK := pyxlaw11_ChartKnown.l3.finK, finK_eq := pyxlaw11_ChartKnown.l3.finK_eq }
noncomputable def pyxlaw11_ChartKnown.fl (k : Nat) : List (Nat × FDen U) := [(13, chart_Kind.D k), (14, chart_IsWith.D k), (15, pyxlaw11_known.D k)]
noncomputable def pyxlaw11_ChartKnown.ll (k : Nat) : List (Nat × LDen U) := [(3, pyxlaw11_ChartKnown.l3.L k)]
noncomputable def pyxlaw11_ChartKnown.E (k : Nat) : Env U := { P := Try.prog, D := DD, fd := lk (pyxlaw11_ChartKnown.fl k), ld := lk (pyxlaw11_ChartKnown.ll k), mode := lk [(22, (18, C.i64))], elc := lk ec, results := Try.f3.results.toList }
theorem pyxlaw11_ChartKnown.ok (k : Nat) : EnvOk (pyxlaw11_ChartKnown.E k) := envOk lawful (pyxlaw11_ChartKnown.fl k) (pyxlaw11_ChartKnown.ll k) _ _ _ (by
  intro p hp
  simp only [pyxlaw11_ChartKnown.fl, List.mem_cons, List.not_mem_nil, or_false] at hp
  rcases hp with rfl | rfl | rfl
  · exact ⟨chart_Kind.sound k, enter_of Try.func13 (by kernel_rfl) (by kernel_rfl)⟩
  · exact ⟨chart_IsWith.sound k, enter_of Try.func14 (by kernel_rfl) (by kernel_rfl)⟩
  · exact ⟨pyxlaw11_known.sound k, enter_of Try.func15 (by kernel_rfl) (by kernel_rfl)⟩)
theorem pyxlaw11_ChartKnown.l3.eq (k : Nat) (x : (Int × Int × Int × Int × Int × Int × Int × Int × Int × Int × Int × Int × Int × Int × Int × Int × Int × Int × Int)) : evC (pyxlaw11_ChartKnown.E k) (loopAt Try.f3 3) (pyxlaw11_ChartKnown.l3.mk x) (headK pyxlaw11_ChartKnown.l3.un pyxlaw11_ChartKnown.l3.re) = pyxlaw11_ChartKnown.l3.once k x := by kernel_rfl
theorem pyxlaw11_ChartKnown.l3.fit (s : St U) (x : (Int × Int × Int × Int × Int × Int × Int × Int × Int × Int × Int × Int × Int × Int × Int × Int × Int × Int × Int)) (h : pyxlaw11_ChartKnown.l3.un s = some x) : Fits s (pyxlaw11_ChartKnown.l3.mk x) := by
  unfold pyxlaw11_ChartKnown.l3.un at h
  split at h
  · cases h
    refine fits_ren [] ?_ ?_ ren_nil rfl
    · exact List.forall_mem_cons.2 ⟨FV.same (by assumption) (fun _ _ _ hh => by cases hh), List.forall_mem_cons.2 ⟨FV.same (by assumption) (fun _ _ _ hh => by cases hh), fun _ hp => (List.not_mem_nil hp).elim⟩⟩
    · exact fun _ hp => (List.not_mem_nil hp).elim
  · cases h
theorem pyxlaw11_ChartKnown.l3.fitO (o : Out U) (y : Unit ⊕ Bool) (h : pyxlaw11_ChartKnown.l3.re o = some y) : FitsO o (pyxlaw11_ChartKnown.l3.fin y) := by
  unfold pyxlaw11_ChartKnown.l3.re at h
  split at h
  · cases h
    refine fitsO_exit (fits_ren [] ?_ ?_ ren_nil rfl)
    · exact fun _ hp => (List.not_mem_nil hp).elim
    · exact fun _ hp => (List.not_mem_nil hp).elim
  · split at h
    · cases h; exact fitsO_ret
    · cases h
  · cases h
theorem pyxlaw11_ChartKnown.l3.sound (k : Nat) : LSound (pyxlaw11_ChartKnown.E k) Try.f3.ntmps Try.f3 (loopAt Try.f3 3) (pyxlaw11_ChartKnown.l3.L k) :=
  loop_sound (pyxlaw11_ChartKnown.ok k) mixed rfl (by kernel_rfl) (allL_of (l := []) (by kernel_rfl) allL_nil) pyxlaw11_ChartKnown.l3.un pyxlaw11_ChartKnown.l3.mk pyxlaw11_ChartKnown.l3.fin pyxlaw11_ChartKnown.l3.re (pyxlaw11_ChartKnown.l3.once k) k pyxlaw11_ChartKnown.l3.fit pyxlaw11_ChartKnown.l3.fitO (pyxlaw11_ChartKnown.l3.eq k) pyxlaw11_ChartKnown.l3.finK pyxlaw11_ChartKnown.l3.finK_eq
theorem pyxlaw11_ChartKnown.eq (k : Nat) (x : Unit) : runF (pyxlaw11_ChartKnown.E k) (codeOf Try.f3) (pyxlaw11_ChartKnown.mk x) pyxlaw11_ChartKnown.re = (pyxlaw11_ChartKnown.D k).f x := by kernel_rfl
theorem pyxlaw11_ChartKnown.sound (k : Nat) : Sound Try.prog DD 3 (pyxlaw11_ChartKnown.D k) :=
  fun_sound (E := pyxlaw11_ChartKnown.E k) (fn := Try.f3) (c := codeOf Try.f3) (pyxlaw11_ChartKnown.ok k) mixed rfl Try.func3 (by kernel_rfl) (by kernel_rfl) (allL_of (l := [loopAt Try.f3 3]) (by kernel_rfl) (allL_cons (key := 3) (by kernel_rfl) rfl (pyxlaw11_ChartKnown.l3.sound k) allL_nil)) (pyxlaw11_ChartKnown.D k) pyxlaw11_ChartKnown.mk pyxlaw11_ChartKnown.re
    (by intro args x h; replace h : pyxlaw11_ChartKnown.un args = some x := h; unfold pyxlaw11_ChartKnown.un at h; split at h; · cases h; rfl
        · cases h)
    (by intro v y h; unfold pyxlaw11_ChartKnown.re at h; split at h; · cases h; rfl
        · cases h)
    (fun _ => rfl) (fun x => Nat.le_of_ble_eq_true (by kernel_rfl)) (pyxlaw11_ChartKnown.eq k)
/-! ### pyx/pyxhand.Pick: function 22 -/
noncomputable def pyxhand_Pick.f (k : Nat) (a0 : Int) (a1 : Int) : Option Int := cond (a1 == 0) none (cond (decide ((Int.tmod a0 a1) < 0)) (some (IntKind.wrap .i64 ((Int.tmod a0 a1) + a1))) (some (Int.tmod a0 a1)))
noncomputable def pyxhand_Pick.un : List (AV U) → Option (Int × Int) | [.flat (.int .i64 x1), .flat (.int .i64 x2)] => some (x1, x2) | _ => none
noncomputable def pyxhand_Pick.mk (x : (Int × Int)) : List (AV U) := [.flat (.int .i64 x.1), .flat (.int .i64 x.2)]
noncomputable def pyxhand_Pick.D (k : Nat) : FDen U := { X := (Int × Int), Y := Int, un := pyxhand_Pick.un, f := fun x => pyxhand_Pick.f k (x.1) (x.2), fin := fun y => .flat (.int .i64 y) }
noncomputable def pyxhand_Pick.re : AV U → Option Int | .flat (.int .i64 x1) => some x1 | _ => none
noncomputable def pyxhand_Pick.fl (k : Nat) : List (Nat × FDen U) := []
noncomputable def pyxhand_Pick.ll (k : Nat) : List (Nat × LDen U) := []
noncomputable def pyxhand_Pick.E (k : Nat) : Env U := { P := Try.prog, D := DD, fd := lk (pyxhand_Pick.fl k), ld := lk (pyxhand_Pick.ll k), mode := lk [], elc := lk ec, results := Try.f22.results.toList }
theorem pyxhand_Pick.ok (k : Nat) : EnvOk (pyxhand_Pick.E k) := envOk lawful (pyxhand_Pick.fl k) (pyxhand_Pick.ll k) _ _ _ (by
  intro p hp
  simp [pyxhand_Pick.fl] at hp)
theorem pyxhand_Pick.eq (k : Nat) (x : (Int × Int)) : runF (pyxhand_Pick.E k) (codeOf Try.f22) (pyxhand_Pick.mk x) pyxhand_Pick.re = (pyxhand_Pick.D k).f x := by kernel_rfl
theorem pyxhand_Pick.sound (k : Nat) : Sound Try.prog DD 22 (pyxhand_Pick.D k) :=
  fun_sound (E := pyxhand_Pick.E k) (fn := Try.f22) (c := codeOf Try.f22) (pyxhand_Pick.ok k) mixed rfl Try.func22 (by kernel_rfl) (by kernel_rfl) (allL_of (l := []) (by kernel_rfl) allL_nil) (pyxhand_Pick.D k) pyxhand_Pick.mk pyxhand_Pick.re
    (by intro args x h; replace h : pyxhand_Pick.un args = some x := h; unfold pyxhand_Pick.un at h; split at h; · cases h; rfl
        · cases h)
    (by intro v y h; unfold pyxhand_Pick.re at h; split at h; · cases h; rfl
        · cases h)
    (fun _ => rfl) (fun x => Nat.le_of_ble_eq_true (by kernel_rfl)) (pyxhand_Pick.eq k)
/-! ### pyx/role.Right: function 28 -/
noncomputable def role_Right.l2.once (k : Nat) (x : (List Int × List Int × Int × Int)) : Option ((List Int × List Int × Int × Int) ⊕ ((List Int) ⊕ Bool)) := match x with | (x1, x2, x3, x4) => cond (decide (x4 < x3)) (cond (inb x4 (List.length x2)) (cond (decide ((List.getD x2 (Int.toNat x4) 0) < (-1))) (some (.inr (.inr false))) (cond (decide ((List.getD x2 (Int.toNat x4) 0) ≥ x4)) (some (.inr (.inr false))) (some (.inl (x1, x2, x3, IntKind.wrap .i64 (x4 + 1)))))) none) (some (.inr (.inl x1)))
noncomputable def role_Right.f (k : Nat) (a0 : List Int) : Option Bool := (iter (role_Right.l2.once k) k (a0, a0, (List.length a0 : Int), 0)).bind fun | .inl y7 => (some (decide ((List.length y7 : Int) ≤ 8))) | .inr y8 => (some y8)
noncomputable def role_Right.un : List (AV U) → Option (List Int) | [.row C.i64 x1] => some x1 | _ => none
noncomputable def role_Right.mk (x : List Int) : List (AV U) := [.row C.i64 x]
noncomputable def role_Right.D (k : Nat) : FDen U := { X := List Int, Y := Bool, un := role_Right.un, f := fun x => role_Right.f k (x), fin := fun y => .flat (.bool y) }
noncomputable def role_Right.re : AV U → Option Bool | .flat (.bool x1) => some x1 | _ => none
noncomputable def role_Right.l2.mk (x : (List Int × List Int × Int × Int)) : St U := match x with | (x1, x2, x3, x4) => ⟨[(0, .row C.i64 x1), (5, .row C.i64 x2), (6, .flat (.int .i64 x3)), (7, .flat (.int .i64 x4))], []⟩
noncomputable def role_Right.l2.un (s : St U) : Option (List Int × List Int × Int × Int) := (row_i64 (s.get 0)).bind fun q0 => ((row_i64 (s.get 5)).bind fun q1 => (match s.get 6, s.get 7 with | .flat (.int .i64 x3), .flat (.int .i64 x4) => some (q0, q1, x3, x4) | _, _ => none))
noncomputable def role_Right.l2.fin (y : (List Int) ⊕ Bool) : Out U := match y with | .inl x5 => .exit 0 ⟨[(0, .row C.i64 x5)], []⟩ | .inr z => .ret (.flat (.bool z))
noncomputable def role_Right.l2.finK {ρ : Type} (y : (List Int) ⊕ Bool) (K : Out U → Option ρ) : Option ρ := match y with | .inl x5 => K (.exit 0 ⟨[(0, .row C.i64 x5)], []⟩) | .inr z => K (.ret (.flat (.bool z)))
theorem role_Right.l2.finK_eq {ρ : Type} (y : (List Int) ⊕ Bool) (K : Out U → Option ρ) : role_Right.l2.finK y K = K (role_Right.l2.fin y) := by
  unfold role_Right.l2.finK role_Right.l2.fin
  first | rfl | (split <;> rfl)
noncomputable def role_Right.l2.re : Out U → Option ((List Int) ⊕ Bool) | .exit 0 s => ((row_i64 (s.get 0)).bind fun q0 => (some (.inl q0))) | .ret v => (match v with | .flat (.bool x1) => some (.inr x1) | _ => none) | _ => none
noncomputable def role_Right.l2.L (k : Nat) : LDen U := { X := (List Int × List Int × Int × Int), Y := (List Int) ⊕ Bool, un := role_Right.l2.un, f := iter (role_Right.l2.once k) k, fin := role_Right.l2.fin, finK := role_Right.l2.finK, finK_eq := role_Right.l2.finK_eq }
noncomputable def role_Right.fl (k : Nat) : List (Nat × FDen U) := []
noncomputable def role_Right.ll (k : Nat) : List (Nat × LDen U) := [(2, role_Right.l2.L k)]
noncomputable def role_Right.E (k : Nat) : Env U := { P := Try.prog, D := DD, fd := lk (role_Right.fl k), ld := lk (role_Right.ll k), mode := lk [], elc := lk ec, results := Try.f28.results.toList }
theorem role_Right.ok (k : Nat) : EnvOk (role_Right.E k) := envOk lawful (role_Right.fl k) (role_Right.ll k) _ _ _ (by
  intro p hp
  simp [role_Right.fl] at hp)
theorem role_Right.l2.eq (k : Nat) (x : (List Int × List Int × Int × Int)) : evC (role_Right.E k) (loopAt Try.f28 2) (role_Right.l2.mk x) (headK role_Right.l2.un role_Right.l2.re) = role_Right.l2.once k x := by kernel_rfl
theorem role_Right.l2.fit (s : St U) (x : (List Int × List Int × Int × Int)) (h : role_Right.l2.un s = some x) : Fits s (role_Right.l2.mk x) := by
  unfold role_Right.l2.un at h
  obtain ⟨q0, eq0, h1⟩ := Option.bind_eq_some_iff.1 h
  obtain ⟨q1, eq1, h2⟩ := Option.bind_eq_some_iff.1 h1
  split at h2
  · cases h2
    refine fits_ren [] ?_ ?_ ren_nil rfl
    · exact List.forall_mem_cons.2 ⟨row_i64_fit eq0, List.forall_mem_cons.2 ⟨row_i64_fit eq1, List.forall_mem_cons.2 ⟨FV.same (by assumption) (fun _ _ _ hh => by cases hh), List.forall_mem_cons.2 ⟨FV.same (by assumption) (fun _ _ _ hh => by cases hh), fun _ hp => (List.not_mem_nil hp).elim⟩⟩⟩⟩
    · exact fun _ hp => (List.not_mem_nil hp).elim
  · cases h2
theorem role_Right.l2.fitO (o : Out U) (y : (List Int) ⊕ Bool) (h : role_Right.l2.re o = some y) : FitsO o (role_Right.l2.fin y) := by
  unfold role_Right.l2.re at h
  split at h
  · obtain ⟨q0, eq0, h1⟩ := Option.bind_eq_some_iff.1 h
    cases h1
    refine fitsO_exit (fits_ren [] ?_ ?_ ren_nil rfl)
    · exact List.forall_mem_cons.2 ⟨row_i64_fit eq0, fun _ hp => (List.not_mem_nil hp).elim⟩
    · exact fun _ hp => (List.not_mem_nil hp).elim
  · split at h
    · cases h; exact fitsO_ret
    · cases h
  · cases h
theorem role_Right.l2.sound (k : Nat) : LSound (role_Right.E k) Try.f28.ntmps Try.f28 (loopAt Try.f28 2) (role_Right.l2.L k) :=
  loop_sound (role_Right.ok k) mixed rfl (by kernel_rfl) (allL_of (l := []) (by kernel_rfl) allL_nil) role_Right.l2.un role_Right.l2.mk role_Right.l2.fin role_Right.l2.re (role_Right.l2.once k) k role_Right.l2.fit role_Right.l2.fitO (role_Right.l2.eq k) role_Right.l2.finK role_Right.l2.finK_eq
theorem role_Right.eq (k : Nat) (x : List Int) : runF (role_Right.E k) (codeOf Try.f28) (role_Right.mk x) role_Right.re = (role_Right.D k).f x := by kernel_rfl
theorem role_Right.sound (k : Nat) : Sound Try.prog DD 28 (role_Right.D k) :=
  fun_sound (E := role_Right.E k) (fn := Try.f28) (c := codeOf Try.f28) (role_Right.ok k) mixed rfl Try.func28 (by kernel_rfl) (by kernel_rfl) (allL_of (l := [loopAt Try.f28 2]) (by kernel_rfl) (allL_cons (key := 2) (by kernel_rfl) rfl (role_Right.l2.sound k) allL_nil)) (role_Right.D k) role_Right.mk role_Right.re
    (by intro args x h; replace h : role_Right.un args = some x := h; unfold role_Right.un at h; split at h; · cases h; rfl
        · cases h)
    (by intro v y h; unfold role_Right.re at h; split at h; · cases h; rfl
        · cases h)
    (fun _ => rfl) (fun x => Nat.le_of_ble_eq_true (by kernel_rfl)) (role_Right.eq k)
/-! ### pyx/role.bit: function 37 -/
noncomputable def role_bit.f (k : Nat) (a0 : Int) : Option Int := cond (decide (IntKind.wrap .u64 (a0) < 0)) none (some (IntKind.wrap .u64 (1 * 2 ^ (min (Int.toNat (IntKind.wrap .u64 (a0))) 64))))
noncomputable def role_bit.un : List (AV U) → Option Int | [.flat (.int .i64 x1)] => some x1 | _ => none
noncomputable def role_bit.mk (x : Int) : List (AV U) := [.flat (.int .i64 x)]
noncomputable def role_bit.D (k : Nat) : FDen U := { X := Int, Y := Int, un := role_bit.un, f := fun x => role_bit.f k (x), fin := fun y => .flat (.int .u64 y) }
noncomputable def role_bit.re : AV U → Option Int | .flat (.int .u64 x1) => some x1 | _ => none
noncomputable def role_bit.fl (k : Nat) : List (Nat × FDen U) := []
noncomputable def role_bit.ll (k : Nat) : List (Nat × LDen U) := []
noncomputable def role_bit.E (k : Nat) : Env U := { P := Try.prog, D := DD, fd := lk (role_bit.fl k), ld := lk (role_bit.ll k), mode := lk [], elc := lk ec, results := Try.f37.results.toList }
theorem role_bit.ok (k : Nat) : EnvOk (role_bit.E k) := envOk lawful (role_bit.fl k) (role_bit.ll k) _ _ _ (by
  intro p hp
  simp [role_bit.fl] at hp)
theorem role_bit.eq (k : Nat) (x : Int) : runF (role_bit.E k) (codeOf Try.f37) (role_bit.mk x) role_bit.re = (role_bit.D k).f x := by kernel_rfl
theorem role_bit.sound (k : Nat) : Sound Try.prog DD 37 (role_bit.D k) :=
  fun_sound (E := role_bit.E k) (fn := Try.f37) (c := codeOf Try.f37) (role_bit.ok k) mixed rfl Try.func37 (by kernel_rfl) (by kernel_rfl) (allL_of (l := []) (by kernel_rfl) allL_nil) (role_bit.D k) role_bit.mk role_bit.re
    (by intro args x h; replace h : role_bit.un args = some x := h; unfold role_bit.un at h; split at h; · cases h; rfl
        · cases h)
    (by intro v y h; unfold role_bit.re at h; split at h; · cases h; rfl
        · cases h)
    (fun _ => rfl) (fun x => Nat.le_of_ble_eq_true (by kernel_rfl)) (role_bit.eq k)
/-! ### pyx/role.All: function 27 -/
noncomputable def role_All.l5.once (k : Nat) (x : (List Int × Int × Int)) : Option ((List Int × Int × Int) ⊕ (Int)) := match x with | (x3, x4, x5) => cond (decide (x5 ≥ 0)) ((role_bit.f k x5).bind fun t6 => (cond (decide ((bits .and .u64 x4 t6) > 0)) (cond (inb x5 (List.length x3)) (cond (decide ((List.getD x3 (Int.toNat x5) 0) ≥ 0)) (cond (inb x5 (List.length x3)) ((role_bit.f k (List.getD x3 (Int.toNat x5) 0)).bind fun t7 => (some (.inl (x3, bits .or .u64 x4 t7, IntKind.wrap .i64 (x5 - 1))))) none) (some (.inl (x3, x4, IntKind.wrap .i64 (x5 - 1))))) none) (some (.inl (x3, x4, IntKind.wrap .i64 (x5 - 1)))))) (some (.inr x4))
noncomputable def role_All.f (k : Nat) (a0 : List Int) (a1 : Int) : Option Int := (role_Right.f k a0).bind fun t1 => (cond (!t1) (some 0) ((role_bit.f k (List.length a0 : Int)).bind fun t2 => ((iter (role_All.l5.once k) k (a0, bits .and .u64 a1 (IntKind.wrap .u64 (t2 - 1)), IntKind.wrap .i64 ((List.length a0 : Int) - 1))).bind fun y9 => (some y9))))
noncomputable def role_All.un : List (AV U) → Option (List Int × Int) | [.row C.i64 x1, .flat (.int .u64 x2)] => some (x1, x2) | _ => none
noncomputable def role_All.mk (x : (List Int × Int)) : List (AV U) := [.row C.i64 x.1, .flat (.int .u64 x.2)]
noncomputable def role_All.D (k : Nat) : FDen U := { X := (List Int × Int), Y := Int, un := role_All.un, f := fun x => role_All.f k (x.1) (x.2), fin := fun y => .flat (.int .u64 y) }
noncomputable def role_All.re : AV U → Option Int | .flat (.int .u64 x1) => some x1 | _ => none
noncomputable def role_All.l5.mk (x : (List Int × Int × Int)) : St U := match x with | (x3, x4, x5) => ⟨[(0, .row C.i64 x3), (5, .flat (.int .u64 x4)), (6, .flat (.int .i64 x5))], []⟩
noncomputable def role_All.l5.un (s : St U) : Option (List Int × Int × Int) := (row_i64 (s.get 0)).bind fun q0 => (match s.get 5, s.get 6 with | .flat (.int .u64 x4), .flat (.int .i64 x5) => some (q0, x4, x5) | _, _ => none)
noncomputable def role_All.l5.fin (y : Int) : Out U := match y with | x8 => .exit 0 ⟨[(5, .flat (.int .u64 x8))], []⟩
noncomputable def role_All.l5.finK {ρ : Type} (y : Int) (K : Out U → Option ρ) : Option ρ := match y with | x8 => K (.exit 0 ⟨[(5, .flat (.int .u64 x8))], []⟩)
theorem role_All.l5.finK_eq {ρ : Type} (y : Int) (K : Out U → Option ρ) : role_All.l5.finK y K = K (role_All.l5.fin y) := by
  unfold role_All.l5.finK role_All.l5.fin
  first | rfl | (split <;> rfl)
noncomputable def role_All.l5.re : Out U → Option (Int) | .exit 0 s => (match s.get 5 with | .flat (.int .u64 x8) => some x8 | _ => none) | _ => none
noncomputable def role_All.l5.L (k : Nat) : LDen U := { X := (List Int × Int × Int), Y := Int, un := role_All.l5.un, f := iter (role_All.l5.once k) k, fin := role_All.l5.fin, finK := role_All.l5.finK, finK_eq := role_All.l5.finK_eq }
noncomputable def role_All.fl (k : Nat) : List (Nat × FDen U) := [(28, role_Right.D k), (37, role_bit.D k)]
noncomputable def role_All.ll (k : Nat) : List (Nat × LDen U) := [(5, role_All.l5.L k)]
noncomputable def role_All.E (k : Nat) : Env U := { P := Try.prog, D := DD, fd := lk (role_All.fl k), ld := lk (role_All.ll k), mode := lk [], elc := lk ec, results := Try.f27.results.toList }
theorem role_All.ok (k : Nat) : EnvOk (role_All.E k) := envOk lawful (role_All.fl k) (role_All.ll k) _ _ _ (by
  intro p hp
  simp only [role_All.fl, List.mem_cons, List.not_mem_nil, or_false] at hp
  rcases hp with rfl | rfl
  · exact ⟨role_Right.sound k, enter_of Try.func28 (by kernel_rfl) (by kernel_rfl)⟩
  · exact ⟨role_bit.sound k, enter_of Try.func37 (by kernel_rfl) (by kernel_rfl)⟩)
theorem role_All.l5.eq (k : Nat) (x : (List Int × Int × Int)) : evC (role_All.E k) (loopAt Try.f27 5) (role_All.l5.mk x) (headK role_All.l5.un role_All.l5.re) = role_All.l5.once k x := by kernel_rfl
theorem role_All.l5.fit (s : St U) (x : (List Int × Int × Int)) (h : role_All.l5.un s = some x) : Fits s (role_All.l5.mk x) := by
  unfold role_All.l5.un at h
  obtain ⟨q0, eq0, h1⟩ := Option.bind_eq_some_iff.1 h
  split at h1
  · cases h1
    refine fits_ren [] ?_ ?_ ren_nil rfl
    · exact List.forall_mem_cons.2 ⟨row_i64_fit eq0, List.forall_mem_cons.2 ⟨FV.same (by assumption) (fun _ _ _ hh => by cases hh), List.forall_mem_cons.2 ⟨FV.same (by assumption) (fun _ _ _ hh => by cases hh), fun _ hp => (List.not_mem_nil hp).elim⟩⟩⟩
    · exact fun _ hp => (List.not_mem_nil hp).elim
  · cases h1
theorem role_All.l5.fitO (o : Out U) (y : Int) (h : role_All.l5.re o = some y) : FitsO o (role_All.l5.fin y) := by
  unfold role_All.l5.re at h
  split at h
  · split at h
    · cases h
      refine fitsO_exit (fits_ren [] ?_ ?_ ren_nil rfl)
      · exact List.forall_mem_cons.2 ⟨FV.same (by assumption) (fun _ _ _ hh => by cases hh), fun _ hp => (List.not_mem_nil hp).elim⟩
      · exact fun _ hp => (List.not_mem_nil hp).elim
    · cases h
  · cases h
theorem role_All.l5.sound (k : Nat) : LSound (role_All.E k) Try.f27.ntmps Try.f27 (loopAt Try.f27 5) (role_All.l5.L k) :=
  loop_sound (role_All.ok k) mixed rfl (by kernel_rfl) (allL_of (l := []) (by kernel_rfl) allL_nil) role_All.l5.un role_All.l5.mk role_All.l5.fin role_All.l5.re (role_All.l5.once k) k role_All.l5.fit role_All.l5.fitO (role_All.l5.eq k) role_All.l5.finK role_All.l5.finK_eq
theorem role_All.eq (k : Nat) (x : (List Int × Int)) : runF (role_All.E k) (codeOf Try.f27) (role_All.mk x) role_All.re = (role_All.D k).f x := by kernel_rfl
theorem role_All.sound (k : Nat) : Sound Try.prog DD 27 (role_All.D k) :=
  fun_sound (E := role_All.E k) (fn := Try.f27) (c := codeOf Try.f27) (role_All.ok k) mixed rfl Try.func27 (by kernel_rfl) (by kernel_rfl) (allL_of (l := [loopAt Try.f27 5]) (by kernel_rfl) (allL_cons (key := 5) (by kernel_rfl) rfl (role_All.l5.sound k) allL_nil)) (role_All.D k) role_All.mk role_All.re
    (by intro args x h; replace h : role_All.un args = some x := h; unfold role_All.un at h; split at h; · cases h; rfl
        · cases h)
    (by intro v y h; unfold role_All.re at h; split at h; · cases h; rfl
        · cases h)
    (fun _ => rfl) (fun x => Nat.le_of_ble_eq_true (by kernel_rfl)) (role_All.eq k)
/-! ### pyx/pyxlaw9.known: function 26 -/
noncomputable def pyxlaw9_known.f (k : Nat)  : Option Bool := (role_All.f k [(-1), 0, 1] 4).bind fun t1 => (cond (t1 == 7) ((role_Right.f k [(-1), 0, 1]).bind fun t2 => (some t2)) (some false))
noncomputable def pyxlaw9_known.un : List (AV U) → Option Unit | [] => some () | _ => none
noncomputable def pyxlaw9_known.mk (x : Unit) : List (AV U) := []
noncomputable def pyxlaw9_known.D (k : Nat) : FDen U := { X := Unit, Y := Bool, un := pyxlaw9_known.un, f := fun x => pyxlaw9_known.f k , fin := fun y => .flat (.bool y) }
noncomputable def pyxlaw9_known.re : AV U → Option Bool | .flat (.bool x1) => some x1 | _ => none
noncomputable def pyxlaw9_known.fl (k : Nat) : List (Nat × FDen U) := [(27, role_All.D k), (28, role_Right.D k)]
noncomputable def pyxlaw9_known.ll (k : Nat) : List (Nat × LDen U) := []
noncomputable def pyxlaw9_known.E (k : Nat) : Env U := { P := Try.prog, D := DD, fd := lk (pyxlaw9_known.fl k), ld := lk (pyxlaw9_known.ll k), mode := lk [], elc := lk ec, results := Try.f26.results.toList }
theorem pyxlaw9_known.ok (k : Nat) : EnvOk (pyxlaw9_known.E k) := envOk lawful (pyxlaw9_known.fl k) (pyxlaw9_known.ll k) _ _ _ (by
  intro p hp
  simp only [pyxlaw9_known.fl, List.mem_cons, List.not_mem_nil, or_false] at hp
  rcases hp with rfl | rfl
  · exact ⟨role_All.sound k, enter_of Try.func27 (by kernel_rfl) (by kernel_rfl)⟩
  · exact ⟨role_Right.sound k, enter_of Try.func28 (by kernel_rfl) (by kernel_rfl)⟩)
theorem pyxlaw9_known.eq (k : Nat) (x : Unit) : runF (pyxlaw9_known.E k) (codeOf Try.f26) (pyxlaw9_known.mk x) pyxlaw9_known.re = (pyxlaw9_known.D k).f x := by kernel_rfl
theorem pyxlaw9_known.sound (k : Nat) : Sound Try.prog DD 26 (pyxlaw9_known.D k) :=
  fun_sound (E := pyxlaw9_known.E k) (fn := Try.f26) (c := codeOf Try.f26) (pyxlaw9_known.ok k) mixed rfl Try.func26 (by kernel_rfl) (by kernel_rfl) (allL_of (l := []) (by kernel_rfl) allL_nil) (pyxlaw9_known.D k) pyxlaw9_known.mk pyxlaw9_known.re
    (by intro args x h; replace h : pyxlaw9_known.un args = some x := h; unfold pyxlaw9_known.un at h; split at h; · cases h; rfl
        · cases h)
    (by intro v y h; unfold pyxlaw9_known.re at h; split at h; · cases h; rfl
        · cases h)
    (fun _ => rfl) (fun x => Nat.le_of_ble_eq_true (by kernel_rfl)) (pyxlaw9_known.eq k)
/-! ### pyx/role.Has: function 29 -/
noncomputable def role_Has.f (k : Nat) (a0 : List Int) (a1 : Int) (a2 : Int) : Option Bool := cond (decide (a2 ≥ 0)) (cond (decide (a2 < (List.length a0 : Int))) ((role_All.f k a0 a1).bind fun t1 => ((role_bit.f k a2).bind fun t2 => (some (decide ((bits .and .u64 t1 t2) > 0))))) (some false)) (some false)
noncomputable def role_Has.un : List (AV U) → Option (List Int × Int × Int) | [.row C.i64 x1, .flat (.int .u64 x2), .flat (.int .i64 x3)] => some (x1, x2, x3) | _ => none
noncomputable def role_Has.mk (x : (List Int × Int × Int)) : List (AV U) := [.row C.i64 x.1, .flat (.int .u64 x.2.1), .flat (.int .i64 x.2.2)]
noncomputable def role_Has.D (k : Nat) : FDen U := { X := (List Int × Int × Int), Y := Bool, un := role_Has.un, f := fun x => role_Has.f k (x.1) (x.2.1) (x.2.2), fin := fun y => .flat (.bool y) }
noncomputable def role_Has.re : AV U → Option Bool | .flat (.bool x1) => some x1 | _ => none
noncomputable def role_Has.fl (k : Nat) : List (Nat × FDen U) := [(27, role_All.D k), (37, role_bit.D k)]
noncomputable def role_Has.ll (k : Nat) : List (Nat × LDen U) := []
noncomputable def role_Has.E (k : Nat) : Env U := { P := Try.prog, D := DD, fd := lk (role_Has.fl k), ld := lk (role_Has.ll k), mode := lk [], elc := lk ec, results := Try.f29.results.toList }
theorem role_Has.ok (k : Nat) : EnvOk (role_Has.E k) := envOk lawful (role_Has.fl k) (role_Has.ll k) _ _ _ (by
  intro p hp
  simp only [role_Has.fl, List.mem_cons, List.not_mem_nil, or_false] at hp
  rcases hp with rfl | rfl
  · exact ⟨role_All.sound k, enter_of Try.func27 (by kernel_rfl) (by kernel_rfl)⟩
  · exact ⟨role_bit.sound k, enter_of Try.func37 (by kernel_rfl) (by kernel_rfl)⟩)
theorem role_Has.eq (k : Nat) (x : (List Int × Int × Int)) : runF (role_Has.E k) (codeOf Try.f29) (role_Has.mk x) role_Has.re = (role_Has.D k).f x := by kernel_rfl
theorem role_Has.sound (k : Nat) : Sound Try.prog DD 29 (role_Has.D k) :=
  fun_sound (E := role_Has.E k) (fn := Try.f29) (c := codeOf Try.f29) (role_Has.ok k) mixed rfl Try.func29 (by kernel_rfl) (by kernel_rfl) (allL_of (l := []) (by kernel_rfl) allL_nil) (role_Has.D k) role_Has.mk role_Has.re
    (by intro args x h; replace h : role_Has.un args = some x := h; unfold role_Has.un at h; split at h; · cases h; rfl
        · cases h)
    (by intro v y h; unfold role_Has.re at h; split at h; · cases h; rfl
        · cases h)
    (fun _ => rfl) (fun x => Nat.le_of_ble_eq_true (by kernel_rfl)) (role_Has.eq k)
/-! ### pyx/pyxlaw9.RoleChains: function 12 -/
noncomputable def pyxlaw9_RoleChains.l5.once (k : Nat) (x : (Int × Int × List Int × List Int × Int)) : Option ((Int × Int × List Int × List Int × Int) ⊕ ((Int × List Int × List Int))) := match x with | (x3, x4, x5, x6, x7) => cond (decide (x7 < x3)) (cond (okLen (List.length x5 + List.length [IntKind.wrap .i64 (x7 - 1)]) 8) (cond (okLen (List.length x6 + List.length [(-1)]) 8) (some (.inl (x3, x4, x5 ++ [IntKind.wrap .i64 (x7 - 1)], x6 ++ [(-1)], IntKind.wrap .i64 (x7 + 1)))) none) none) (some (.inr (x4, x5, x6)))
noncomputable def pyxlaw9_RoleChains.f (k : Nat) (a0 : Int) (a1 : Int) : Option Bool := (pyxhand_Pick.f k a0 8).bind fun t1 => ((pyxhand_Pick.f k a1 (IntKind.wrap .i64 (1 + t1))).bind fun t2 => ((iter (pyxlaw9_RoleChains.l5.once k) k (IntKind.wrap .i64 (1 + t1), t2, ([] : List Int), ([] : List Int), 0)).bind fun y11 => (cond (decide (IntKind.wrap .u64 (y11.1) < 0)) none ((pyxlaw9_known.f k).bind fun t12 => (cond (t12) ((role_All.f k y11.2.1 (IntKind.wrap .u64 (1 * 2 ^ (min (Int.toNat (IntKind.wrap .u64 (y11.1))) 64)))).bind fun t13 => (cond (t13 == (IntKind.wrap .u64 ((IntKind.wrap .u64 (2 * (IntKind.wrap .u64 (1 * 2 ^ (min (Int.toNat (IntKind.wrap .u64 (y11.1))) 64))))) - 1))) ((role_All.f k y11.2.2 (IntKind.wrap .u64 (1 * 2 ^ (min (Int.toNat (IntKind.wrap .u64 (y11.1))) 64)))).bind fun t14 => (cond (t14 == (IntKind.wrap .u64 (1 * 2 ^ (min (Int.toNat (IntKind.wrap .u64 (y11.1))) 64)))) ((role_Has.f k y11.2.1 (IntKind.wrap .u64 (1 * 2 ^ (min (Int.toNat (IntKind.wrap .u64 (y11.1))) 64))) 0).bind fun t15 => (cond (t15) ((role_Has.f k y11.2.2 (IntKind.wrap .u64 (1 * 2 ^ (min (Int.toNat (IntKind.wrap .u64 (y11.1))) 64))) 0).bind fun t16 => (some (t16 == (y11.1 == 0)))) (some false))) (some false))) (some false))) (some false))))))
noncomputable def pyxlaw9_RoleChains.un : List (AV U) → Option (Int × Int) | [.flat (.int .i64 x1), .flat (.int .i64 x2)] => some (x1, x2) | _ => none
noncomputable def pyxlaw9_RoleChains.mk (x : (Int × Int)) : List (AV U) := [.flat (.int .i64 x.1), .flat (.int .i64 x.2)]
noncomputable def pyxlaw9_RoleChains.D (k : Nat) : FDen U := { X := (Int × Int), Y := Bool, un := pyxlaw9_RoleChains.un, f := fun x => pyxlaw9_RoleChains.f k (x.1) (x.2), fin := fun y => .flat (.bool y) }
noncomputable def pyxlaw9_RoleChains.re : AV U → Option Bool | .flat (.bool x1) => some x1 | _ => none
noncomputable def pyxlaw9_RoleChains.l5.mk (x : (Int × Int × List Int × List Int × Int)) : St U := match x with | (x3, x4, x5, x6, x7) => ⟨[(0, .flat (.int .i64 x3)), (1, .flat (.int .i64 x4)), (5, .tip 1005005 C.i64 x5), (6, .tip 1005006 C.i64 x6), (7, .flat (.int .i64 x7))], [(1005005, .tip 1), (1005006, .tip 1)]⟩
noncomputable def pyxlaw9_RoleChains.l5.un (s : St U) : Option (Int × Int × List Int × List Int × Int) := (tip_i64 s.o 1 (s.get 5)).bind fun q0 => ((tip_i64 s.o 1 (s.get 6)).bind fun q1 => (cond (apart [q0.1, q1.1]) (match s.get 0, s.get 1, s.get 7 with | .flat (.int .i64 x3), .flat (.int .i64 x4), .flat (.int .i64 x7) => some (x3, x4, q0.2, q1.2, x7) | _, _, _ => none) none))
noncomputable def pyxlaw9_RoleChains.l5.fin (y : (Int × List Int × List Int)) : Out U := match y with | (x8, x9, x10) => .exit 0 ⟨[(1, .flat (.int .i64 x8)), (5, .tip 1005005 C.i64 x9), (6, .tip 1005006 C.i64 x10)], [(1005005, .tip 1), (1005006, .tip 1)]⟩
noncomputable def pyxlaw9_RoleChains.l5.finK {ρ : Type} (y : (Int × List Int × List Int)) (K : Out U → Option ρ) : Option ρ := match y with | (x8, x9, x10) => K (.exit 0 ⟨[(1, .flat (.int .i64 x8)), (5, .tip 1005005 C.i64 x9), (6, .tip 1005006 C.i64 x10)], [(1005005, .tip 1), (1005006, .tip 1)]⟩)
theorem pyxlaw9_RoleChains.l5.finK_eq {ρ : Type} (y : (Int × List Int × List Int)) (K : Out U → Option ρ) : pyxlaw9_RoleChains.l5.finK y K = K (pyxlaw9_RoleChains.l5.fin y) := by
  unfold pyxlaw9_RoleChains.l5.finK pyxlaw9_RoleChains.l5.fin
  first | rfl | (split <;> rfl)
noncomputable def pyxlaw9_RoleChains.l5.re : Out U → Option ((Int × List Int × List Int)) | .exit 0 s => ((tip_i64 s.o 1 (s.get 5)).bind fun q0 => ((tip_i64 s.o 1 (s.get 6)).bind fun q1 => (cond (apart [q0.1, q1.1]) (match s.get 1 with | .flat (.int .i64 x8) => some (x8, q0.2, q1.2) | _ => none) none))) | _ => none
noncomputable def pyxlaw9_RoleChains.l5.L (k : Nat) : LDen U := { X := (Int × Int × List Int × List Int × Int), Y := (Int × List Int × List Int), un := pyxlaw9_RoleChains.l5.un, f := iter (pyxlaw9_RoleChains.l5.once k) k, fin := pyxlaw9_RoleChains.l5.fin, finK := pyxlaw9_RoleChains.l5.finK, finK_eq := pyxlaw9_RoleChains.l5.finK_eq }
noncomputable def pyxlaw9_RoleChains.fl (k : Nat) : List (Nat × FDen U) := [(22, pyxhand_Pick.D k), (26, pyxlaw9_known.D k), (27, role_All.D k), (29, role_Has.D k)]
noncomputable def pyxlaw9_RoleChains.ll (k : Nat) : List (Nat × LDen U) := [(5, pyxlaw9_RoleChains.l5.L k)]
noncomputable def pyxlaw9_RoleChains.E (k : Nat) : Env U := { P := Try.prog, D := DD, fd := lk (pyxlaw9_RoleChains.fl k), ld := lk (pyxlaw9_RoleChains.ll k), mode := lk [], elc := lk ec, results := Try.f12.results.toList }
theorem pyxlaw9_RoleChains.ok (k : Nat) : EnvOk (pyxlaw9_RoleChains.E k) := envOk lawful (pyxlaw9_RoleChains.fl k) (pyxlaw9_RoleChains.ll k) _ _ _ (by
  intro p hp
  simp only [pyxlaw9_RoleChains.fl, List.mem_cons, List.not_mem_nil, or_false] at hp
  rcases hp with rfl | rfl | rfl | rfl
  · exact ⟨pyxhand_Pick.sound k, enter_of Try.func22 (by kernel_rfl) (by kernel_rfl)⟩
  · exact ⟨pyxlaw9_known.sound k, enter_of Try.func26 (by kernel_rfl) (by kernel_rfl)⟩
  · exact ⟨role_All.sound k, enter_of Try.func27 (by kernel_rfl) (by kernel_rfl)⟩
  · exact ⟨role_Has.sound k, enter_of Try.func29 (by kernel_rfl) (by kernel_rfl)⟩)
theorem pyxlaw9_RoleChains.l5.eq (k : Nat) (x : (Int × Int × List Int × List Int × Int)) : evC (pyxlaw9_RoleChains.E k) (loopAt Try.f12 5) (pyxlaw9_RoleChains.l5.mk x) (headK pyxlaw9_RoleChains.l5.un pyxlaw9_RoleChains.l5.re) = pyxlaw9_RoleChains.l5.once k x := by kernel_rfl
theorem pyxlaw9_RoleChains.l5.fit (s : St U) (x : (Int × Int × List Int × List Int × Int)) (h : pyxlaw9_RoleChains.l5.un s = some x) : Fits s (pyxlaw9_RoleChains.l5.mk x) := by
  unfold pyxlaw9_RoleChains.l5.un at h
  obtain ⟨q0, eq0, h1⟩ := Option.bind_eq_some_iff.1 h
  obtain ⟨q1, eq1, h2⟩ := Option.bind_eq_some_iff.1 h1
  obtain ⟨hap, h3⟩ := cond_none h2
  split at h3
  · cases h3
    refine fits_ren [(1005005, q0.1), (1005006, q1.1)] ?_ ?_ (ren_apart hap) rfl
    · exact List.forall_mem_cons.2 ⟨FV.same (by assumption) (fun _ _ _ hh => by cases hh), List.forall_mem_cons.2 ⟨FV.same (by assumption) (fun _ _ _ hh => by cases hh), List.forall_mem_cons.2 ⟨(tip_i64_fit eq0 rfl).1, List.forall_mem_cons.2 ⟨(tip_i64_fit eq1 rfl).1, List.forall_mem_cons.2 ⟨FV.same (by assumption) (fun _ _ _ hh => by cases hh), fun _ hp => (List.not_mem_nil hp).elim⟩⟩⟩⟩⟩
    · exact List.forall_mem_cons.2 ⟨(tip_i64_fit eq0 rfl).2, List.forall_mem_cons.2 ⟨(tip_i64_fit eq1 rfl).2, fun _ hp => (List.not_mem_nil hp).elim⟩⟩
  · cases h3
theorem pyxlaw9_RoleChains.l5.fitO (o : Out U) (y : (Int × List Int × List Int)) (h : pyxlaw9_RoleChains.l5.re o = some y) : FitsO o (pyxlaw9_RoleChains.l5.fin y) := by
  unfold pyxlaw9_RoleChains.l5.re at h
  split at h
  · obtain ⟨q0, eq0, h1⟩ := Option.bind_eq_some_iff.1 h
    obtain ⟨q1, eq1, h2⟩ := Option.bind_eq_some_iff.1 h1
    obtain ⟨hap, h3⟩ := cond_none h2
    split at h3
    · cases h3
      refine fitsO_exit (fits_ren [(1005005, q0.1), (1005006, q1.1)] ?_ ?_ (ren_apart hap) rfl)
      · exact List.forall_mem_cons.2 ⟨FV.same (by assumption) (fun _ _ _ hh => by cases hh), List.forall_mem_cons.2 ⟨(tip_i64_fit eq0 rfl).1, List.forall_mem_cons.2 ⟨(tip_i64_fit eq1 rfl).1, fun _ hp => (List.not_mem_nil hp).elim⟩⟩⟩
      · exact List.forall_mem_cons.2 ⟨(tip_i64_fit eq0 rfl).2, List.forall_mem_cons.2 ⟨(tip_i64_fit eq1 rfl).2, fun _ hp => (List.not_mem_nil hp).elim⟩⟩
    · cases h3
  · cases h
theorem pyxlaw9_RoleChains.l5.sound (k : Nat) : LSound (pyxlaw9_RoleChains.E k) Try.f12.ntmps Try.f12 (loopAt Try.f12 5) (pyxlaw9_RoleChains.l5.L k) :=
  loop_sound (pyxlaw9_RoleChains.ok k) mixed rfl (by kernel_rfl) (allL_of (l := []) (by kernel_rfl) allL_nil) pyxlaw9_RoleChains.l5.un pyxlaw9_RoleChains.l5.mk pyxlaw9_RoleChains.l5.fin pyxlaw9_RoleChains.l5.re (pyxlaw9_RoleChains.l5.once k) k pyxlaw9_RoleChains.l5.fit pyxlaw9_RoleChains.l5.fitO (pyxlaw9_RoleChains.l5.eq k) pyxlaw9_RoleChains.l5.finK pyxlaw9_RoleChains.l5.finK_eq
theorem pyxlaw9_RoleChains.eq (k : Nat) (x : (Int × Int)) : runF (pyxlaw9_RoleChains.E k) (codeOf Try.f12) (pyxlaw9_RoleChains.mk x) pyxlaw9_RoleChains.re = (pyxlaw9_RoleChains.D k).f x := by kernel_rfl
theorem pyxlaw9_RoleChains.sound (k : Nat) : Sound Try.prog DD 12 (pyxlaw9_RoleChains.D k) :=
  fun_sound (E := pyxlaw9_RoleChains.E k) (fn := Try.f12) (c := codeOf Try.f12) (pyxlaw9_RoleChains.ok k) mixed rfl Try.func12 (by kernel_rfl) (by kernel_rfl) (allL_of (l := [loopAt Try.f12 5]) (by kernel_rfl) (allL_cons (key := 5) (by kernel_rfl) rfl (pyxlaw9_RoleChains.l5.sound k) allL_nil)) (pyxlaw9_RoleChains.D k) pyxlaw9_RoleChains.mk pyxlaw9_RoleChains.re
    (by intro args x h; replace h : pyxlaw9_RoleChains.un args = some x := h; unfold pyxlaw9_RoleChains.un at h; split at h; · cases h; rfl
        · cases h)
    (by intro v y h; unfold pyxlaw9_RoleChains.re at h; split at h; · cases h; rfl
        · cases h)
    (fun _ => rfl) (fun x => Nat.le_of_ble_eq_true (by kernel_rfl)) (pyxlaw9_RoleChains.eq k)
end
end Go.Proofs.Ytojkgadihooplaa
