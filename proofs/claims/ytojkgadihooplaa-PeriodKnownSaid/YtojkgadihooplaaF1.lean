import Derived.Test.YtojkgadihooplaaF0
/-! Functions, told; their equations with the evaluator; that they are sound. Written by gen.py. -/
namespace Go.Proofs.Ytojkgadihooplaa
open Go Go.Ev
noncomputable section
set_option linter.unusedVariables false
set_option linter.unusedSimpArgs false
set_option maxRecDepth 100000
/-! ### pyx/period.IsOpen: function 21 -/
noncomputable def period_IsOpen.f (k : Nat) (a0 : Speriod_Table) (a1 : Int) : Option Bool := (period_is.f k a1).bind fun t1 => (cond (t1) (cond (inb a1 12) (cond (Nat.blt (Int.toNat a1) 12) (some (!(List.getD (pack 12 false a0.f_Closed) (Int.toNat a1) false))) none) none) (some false))
noncomputable def period_IsOpen.un : List (AV U) → Option (Speriod_Table × Int) | [.agg x1, .flat (.int .i64 x3)] => (cd_Speriod_Table.full x1).bind fun x2 => some (x2, x3) | _ => none
noncomputable def period_IsOpen.mk (x : (Speriod_Table × Int)) : List (AV U) := [.agg (cd_Speriod_Table.enc x.1), .flat (.int .i64 x.2)]
noncomputable def period_IsOpen.D (k : Nat) : FDen U := { X := (Speriod_Table × Int), Y := Bool, un := period_IsOpen.un, f := fun x => period_IsOpen.f k (x.1) (x.2), fin := fun y => .flat (.bool y) }
noncomputable def period_IsOpen.re : AV U → Option Bool | .flat (.bool x1) => some x1 | _ => none
noncomputable def period_IsOpen.jl : List (Nat × JDen U) := []
noncomputable def period_IsOpen.fl (k : Nat) : List (Nat × FDen U) := [(35, period_is.D k)]
noncomputable def period_IsOpen.ll (k : Nat) : List (Nat × LDen U) := []
noncomputable def period_IsOpen.E (k : Nat) : Env U := { P := Try.prog, D := DD, fd := lk (period_IsOpen.fl k), ld := lk (period_IsOpen.ll k), jd := lk period_IsOpen.jl, mode := lk [], elc := lk ec, dyn := fun t => Nat.beq t 26, vecs := fun d => false, results := Try.f21.results.toList }
theorem period_IsOpen.ok (k : Nat) : EnvOk (period_IsOpen.E k) := envOk lawful (period_IsOpen.fl k) (period_IsOpen.ll k) period_IsOpen.jl _ _ _ _ _ (by
  intro p hp
  simp only [period_IsOpen.fl, List.mem_cons, List.not_mem_nil, or_false] at hp
  rcases hp with rfl
  · exact ⟨period_is.sound k, enter_of Try.func35 (by kernel_rfl) (by kernel_rfl)⟩) (by
  intro p hp
  simp [period_IsOpen.jl] at hp)
theorem period_IsOpen.eq (k : Nat) (x : (Speriod_Table × Int)) : runF (period_IsOpen.E k) (codeOf Try.f21) (period_IsOpen.mk x) period_IsOpen.re = (period_IsOpen.D k).f x := by kernel_rfl
theorem period_IsOpen.sound (k : Nat) : Sound Try.prog DD 21 (period_IsOpen.D k) :=
  fun_sound (E := period_IsOpen.E k) (fn := Try.f21) (c := codeOf Try.f21) (period_IsOpen.ok k) mixed rfl Try.func21 (by kernel_rfl) (by kernel_rfl) (allL_of (l := []) (by kernel_rfl) allL_nil) (period_IsOpen.D k) period_IsOpen.mk period_IsOpen.re
    (by intro args x h; replace h : period_IsOpen.un args = some x := h; unfold period_IsOpen.un at h; split at h; · obtain ⟨x2, hb0, h0⟩ := Option.bind_eq_some_iff.1 h; have hc0 := Cd.full_ok hb0; clear h; subst hc0; cases h0; rfl
        · cases h)
    (by intro v y h; unfold period_IsOpen.re at h; split at h; · cases h; rfl
        · cases h)
    (fun _ => rfl) (fun x => Nat.le_of_ble_eq_true (by kernel_rfl)) (period_IsOpen.eq k)
/-! ### pyx/period.Close: function 18 -/
noncomputable def period_Close.f (k : Nat) (a0 : Speriod_Table) (a1 : Int) : Option (Speriod_Table × Int) := (((period_IsOpen.f k (⟨pack 12 false a0.f_Closed, pack 12 0 a0.f_Version⟩ : Speriod_Table) a1).bind fun t1 => (cond (!t1) (some (a1, true, (⟨pack 12 false a0.f_Closed, pack 12 0 a0.f_Version⟩ : Speriod_Table), (⟨[false, false, false, false, false, false, false, false, false, false, false, false], [0, 0, 0, 0, 0, 0, 0, 0, 0, 0, 0, 0]⟩ : Speriod_Table))) (cond (decide (a1 > 0)) (cond (inb (IntKind.wrap .i64 (a1 - 1)) 12) (cond (Nat.blt (Int.toNat (IntKind.wrap .i64 (a1 - 1))) 12) (some (a1, !(List.getD (pack 12 false a0.f_Closed) (Int.toNat (IntKind.wrap .i64 (a1 - 1))) false), (⟨pack 12 false a0.f_Closed, pack 12 0 a0.f_Version⟩ : Speriod_Table), (⟨[false, false, false, false, false, false, false, false, false, false, false, false], [0, 0, 0, 0, 0, 0, 0, 0, 0, 0, 0, 0]⟩ : Speriod_Table))) none) none) (some (a1, false, (⟨pack 12 false a0.f_Closed, pack 12 0 a0.f_Version⟩ : Speriod_Table), (⟨[false, false, false, false, false, false, false, false, false, false, false, false], [0, 0, 0, 0, 0, 0, 0, 0, 0, 0, 0, 0]⟩ : Speriod_Table)))))) : Option (Int × Bool × Speriod_Table × Speriod_Table)).bind fun y6 => (cond (y6.2.1) (some ((⟨[false, false, false, false, false, false, false, false, false, false, false, false], [0, 0, 0, 0, 0, 0, 0, 0, 0, 0, 0, 0]⟩ : Speriod_Table), 8)) (cond (inb y6.1 12) (cond (Nat.blt (Int.toNat y6.1) 12) (cond (inb y6.1 12) (cond (Nat.blt (Int.toNat y6.1) 12) (cond (inb y6.1 12) (cond (Nat.blt (Int.toNat y6.1) 12) (some ((⟨putAll (Int.toNat y6.1) true 0 (pack 12 false y6.2.2.1.f_Closed), putAll (Int.toNat y6.1) (IntKind.wrap .i64 ((List.getD (pack 12 0 y6.2.2.1.f_Version) (Int.toNat y6.1) 0) + 1)) 0 (pack 12 0 y6.2.2.1.f_Version)⟩ : Speriod_Table), 0)) none) none) none) none) none) none))
noncomputable def period_Close.un : List (AV U) → Option (Speriod_Table × Int) | [.agg x1, .flat (.int .i64 x3)] => (cd_Speriod_Table.full x1).bind fun x2 => some (x2, x3) | _ => none
noncomputable def period_Close.mk (x : (Speriod_Table × Int)) : List (AV U) := [.agg (cd_Speriod_Table.enc x.1), .flat (.int .i64 x.2)]
noncomputable def period_Close.D (k : Nat) : FDen U := { X := (Speriod_Table × Int), Y := (Speriod_Table × Int), un := period_Close.un, f := fun x => period_Close.f k (x.1) (x.2), fin := fun y => .tup [.agg (cd_Speriod_Table.enc y.1), .flat (.int .i64 y.2)] }
noncomputable def period_Close.re : AV U → Option (Speriod_Table × Int) | .tup [.agg x1, .flat (.int .i64 x3)] => (cd_Speriod_Table.full x1).bind fun x2 => some (x2, x3) | _ => none
noncomputable def period_Close.j1000.fin (y : (Int × Bool × Speriod_Table × Speriod_Table)) : Out U := match y with | (x2, x5, x3, x4) => .norm ⟨[(2, .ptr 2 0), (4, .ptr 4 0), (1, .flat (.int .i64 x2)), (21, .flat (.bool x5))], [(2, .lit (cd_Speriod_Table.enc x3)), (4, .lit (cd_Speriod_Table.enc x4))]⟩
noncomputable def period_Close.j1000.finK {ρ : Type} (y : (Int × Bool × Speriod_Table × Speriod_Table)) (K : Out U → Option ρ) : Option ρ := match y with | (x2, x5, x3, x4) => K (.norm ⟨[(2, .ptr 2 0), (4, .ptr 4 0), (1, .flat (.int .i64 x2)), (21, .flat (.bool x5))], [(2, .lit (cd_Speriod_Table.enc x3)), (4, .lit (cd_Speriod_Table.enc x4))]⟩)
theorem period_Close.j1000.finK_eq {ρ : Type} (y : (Int × Bool × Speriod_Table × Speriod_Table)) (K : Out U → Option ρ) : period_Close.j1000.finK y K = K (period_Close.j1000.fin y) := by
  unfold period_Close.j1000.finK period_Close.j1000.fin
  first | rfl | (split <;> rfl)
noncomputable def period_Close.j1000.re : Out U → Option ((Int × Bool × Speriod_Table × Speriod_Table)) | .norm s => ((Cd.ofLit cd_Speriod_Table s.o 2).bind fun q0 => ((Cd.ofLit cd_Speriod_Table s.o 4).bind fun q1 => (match s.get 2, s.get 4, s.get 1, s.get 21 with | .ptr 2 0, .ptr 4 0, .flat (.int .i64 x2), .flat (.bool x5) => some (x2, x5, q0, q1) | _, _, _, _ => none))) | _ => none
noncomputable def period_Close.j1000.J : JDen U := { Y := (Int × Bool × Speriod_Table × Speriod_Table), re := period_Close.j1000.re, fin := period_Close.j1000.fin, finK := period_Close.j1000.finK, finK_eq := period_Close.j1000.finK_eq }
theorem period_Close.j1000.fit (o : Out U) (y : (Int × Bool × Speriod_Table × Speriod_Table)) (h : period_Close.j1000.re o = some y) : FitsO o (period_Close.j1000.fin y) := by
  unfold period_Close.j1000.re at h
  split at h
  · obtain ⟨q0, eq0, h1⟩ := Option.bind_eq_some_iff.1 h
    obtain ⟨q1, eq1, h2⟩ := Option.bind_eq_some_iff.1 h1
    split at h2
    · cases h2
      refine fitsO_norm (fits_ren [] ?_ ?_ ren_nil rfl)
      · exact List.forall_mem_cons.2 ⟨FV.same (by assumption) (fun _ _ _ hh => by cases hh) (fun _ hh => by cases hh), List.forall_mem_cons.2 ⟨FV.same (by assumption) (fun _ _ _ hh => by cases hh) (fun _ hh => by cases hh), List.forall_mem_cons.2 ⟨FV.same (by assumption) (fun _ _ _ hh => by cases hh) (fun _ hh => by cases hh), List.forall_mem_cons.2 ⟨FV.same (by assumption) (fun _ _ _ hh => by cases hh) (fun _ hh => by cases hh), fun _ hp => (List.not_mem_nil hp).elim⟩⟩⟩⟩
      · exact List.forall_mem_cons.2 ⟨(Cd.ofLit_ok eq0), List.forall_mem_cons.2 ⟨(Cd.ofLit_ok eq1), fun _ hp => (List.not_mem_nil hp).elim⟩⟩
    · cases h2
  · cases h
noncomputable def period_Close.jl : List (Nat × JDen U) := [(1000, period_Close.j1000.J)]
noncomputable def period_Close.fl (k : Nat) : List (Nat × FDen U) := [(21, period_IsOpen.D k)]
noncomputable def period_Close.ll (k : Nat) : List (Nat × LDen U) := []
noncomputable def period_Close.E (k : Nat) : Env U := { P := Try.prog, D := DD, fd := lk (period_Close.fl k), ld := lk (period_Close.ll k), jd := lk period_Close.jl, mode := lk [], elc := lk ec, dyn := fun t => Nat.beq t 26 || Nat.beq t 27, vecs := fun d => false, results := Try.f18.results.toList }
theorem period_Close.ok (k : Nat) : EnvOk (period_Close.E k) := envOk lawful (period_Close.fl k) (period_Close.ll k) period_Close.jl _ _ _ _ _ (by
  intro p hp
  simp only [period_Close.fl, List.mem_cons, List.not_mem_nil, or_false] at hp
  rcases hp with rfl
  · exact ⟨period_IsOpen.sound k, enter_of Try.func21 (by kernel_rfl) (by kernel_rfl)⟩) (by
  intro p hp
  simp only [period_Close.jl, List.mem_cons, List.not_mem_nil, or_false] at hp
  rcases hp with rfl
  · exact period_Close.j1000.fit)
theorem period_Close.eq (k : Nat) (x : (Speriod_Table × Int)) : runF (period_Close.E k) (codeOf Try.f18) (period_Close.mk x) period_Close.re = (period_Close.D k).f x := by kernel_rfl
theorem period_Close.sound (k : Nat) : Sound Try.prog DD 18 (period_Close.D k) :=
  fun_sound (E := period_Close.E k) (fn := Try.f18) (c := codeOf Try.f18) (period_Close.ok k) mixed rfl Try.func18 (by kernel_rfl) (by kernel_rfl) (allL_of (l := []) (by kernel_rfl) allL_nil) (period_Close.D k) period_Close.mk period_Close.re
    (by intro args x h; replace h : period_Close.un args = some x := h; unfold period_Close.un at h; split at h; · obtain ⟨x2, hb0, h0⟩ := Option.bind_eq_some_iff.1 h; have hc0 := Cd.full_ok hb0; clear h; subst hc0; cases h0; rfl
        · cases h)
    (by intro v y h; unfold period_Close.re at h; split at h; · obtain ⟨x2, hb0, h0⟩ := Option.bind_eq_some_iff.1 h; have hc0 := Cd.full_ok hb0; clear h; subst hc0; cases h0; rfl
        · cases h)
    (fun _ => rfl) (fun x => Nat.le_of_ble_eq_true (by kernel_rfl)) (period_Close.eq k)
/-! ### pyx/period.Reopen: function 19 -/
noncomputable def period_Reopen.f (k : Nat) (a0 : Speriod_Table) (a1 : Int) : Option (Speriod_Table × Int) := (((period_is.f k a1).bind fun t1 => (cond (!t1) (some (a1, true, (⟨pack 12 false a0.f_Closed, pack 12 0 a0.f_Version⟩ : Speriod_Table), (⟨[false, false, false, false, false, false, false, false, false, false, false, false], [0, 0, 0, 0, 0, 0, 0, 0, 0, 0, 0, 0]⟩ : Speriod_Table))) (cond (inb a1 12) (cond (Nat.blt (Int.toNat a1) 12) (cond (!(List.getD (pack 12 false a0.f_Closed) (Int.toNat a1) false)) (some (a1, true, (⟨pack 12 false a0.f_Closed, pack 12 0 a0.f_Version⟩ : Speriod_Table), (⟨[false, false, false, false, false, false, false, false, false, false, false, false], [0, 0, 0, 0, 0, 0, 0, 0, 0, 0, 0, 0]⟩ : Speriod_Table))) ((period_is.f k (IntKind.wrap .i64 (a1 + 1))).bind fun t6 => (cond (t6) (cond (inb (IntKind.wrap .i64 (a1 + 1)) 12) (cond (Nat.blt (Int.toNat (IntKind.wrap .i64 (a1 + 1))) 12) (some (a1, List.getD (pack 12 false a0.f_Closed) (Int.toNat (IntKind.wrap .i64 (a1 + 1))) false, (⟨pack 12 false a0.f_Closed, pack 12 0 a0.f_Version⟩ : Speriod_Table), (⟨[false, false, false, false, false, false, false, false, false, false, false, false], [0, 0, 0, 0, 0, 0, 0, 0, 0, 0, 0, 0]⟩ : Speriod_Table))) none) none) (some (a1, false, (⟨pack 12 false a0.f_Closed, pack 12 0 a0.f_Version⟩ : Speriod_Table), (⟨[false, false, false, false, false, false, false, false, false, false, false, false], [0, 0, 0, 0, 0, 0, 0, 0, 0, 0, 0, 0]⟩ : Speriod_Table)))))) none) none))) : Option (Int × Bool × Speriod_Table × Speriod_Table)).bind fun y7 => (cond (y7.2.1) (some ((⟨[false, false, false, false, false, false, false, false, false, false, false, false], [0, 0, 0, 0, 0, 0, 0, 0, 0, 0, 0, 0]⟩ : Speriod_Table), 8)) (cond (inb y7.1 12) (cond (Nat.blt (Int.toNat y7.1) 12) (some ((⟨putAll (Int.toNat y7.1) false 0 (pack 12 false y7.2.2.1.f_Closed), pack 12 0 y7.2.2.1.f_Version⟩ : Speriod_Table), 0)) none) none))
noncomputable def period_Reopen.un : List (AV U) → Option (Speriod_Table × Int) | [.agg x1, .flat (.int .i64 x3)] => (cd_Speriod_Table.full x1).bind fun x2 => some (x2, x3) | _ => none
noncomputable def period_Reopen.mk (x : (Speriod_Table × Int)) : List (AV U) := [.agg (cd_Speriod_Table.enc x.1), .flat (.int .i64 x.2)]
noncomputable def period_Reopen.D (k : Nat) : FDen U := { X := (Speriod_Table × Int), Y := (Speriod_Table × Int), un := period_Reopen.un, f := fun x => period_Reopen.f k (x.1) (x.2), fin := fun y => .tup [.agg (cd_Speriod_Table.enc y.1), .flat (.int .i64 y.2)] }
noncomputable def period_Reopen.re : AV U → Option (Speriod_Table × Int) | .tup [.agg x1, .flat (.int .i64 x3)] => (cd_Speriod_Table.full x1).bind fun x2 => some (x2, x3) | _ => none
noncomputable def period_Reopen.j1000.fin (y : (Int × Bool × Speriod_Table × Speriod_Table)) : Out U := match y with | (x2, x5, x3, x4) => .norm ⟨[(2, .ptr 2 0), (4, .ptr 4 0), (1, .flat (.int .i64 x2)), (27, .flat (.bool x5))], [(2, .lit (cd_Speriod_Table.enc x3)), (4, .lit (cd_Speriod_Table.enc x4))]⟩
noncomputable def period_Reopen.j1000.finK {ρ : Type} (y : (Int × Bool × Speriod_Table × Speriod_Table)) (K : Out U → Option ρ) : Option ρ := match y with | (x2, x5, x3, x4) => K (.norm ⟨[(2, .ptr 2 0), (4, .ptr 4 0), (1, .flat (.int .i64 x2)), (27, .flat (.bool x5))], [(2, .lit (cd_Speriod_Table.enc x3)), (4, .lit (cd_Speriod_Table.enc x4))]⟩)
theorem period_Reopen.j1000.finK_eq {ρ : Type} (y : (Int × Bool × Speriod_Table × Speriod_Table)) (K : Out U → Option ρ) : period_Reopen.j1000.finK y K = K (period_Reopen.j1000.fin y) := by
  unfold period_Reopen.j1000.finK period_Reopen.j1000.fin
  first | rfl | (split <;> rfl)
noncomputable def period_Reopen.j1000.re : Out U → Option ((Int × Bool × Speriod_Table × Speriod_Table)) | .norm s => ((Cd.ofLit cd_Speriod_Table s.o 2).bind fun q0 => ((Cd.ofLit cd_Speriod_Table s.o 4).bind fun q1 => (match s.get 2, s.get 4, s.get 1, s.get 27 with | .ptr 2 0, .ptr 4 0, .flat (.int .i64 x2), .flat (.bool x5) => some (x2, x5, q0, q1) | _, _, _, _ => none))) | _ => none
noncomputable def period_Reopen.j1000.J : JDen U := { Y := (Int × Bool × Speriod_Table × Speriod_Table), re := period_Reopen.j1000.re, fin := period_Reopen.j1000.fin, finK := period_Reopen.j1000.finK, finK_eq := period_Reopen.j1000.finK_eq }
theorem period_Reopen.j1000.fit (o : Out U) (y : (Int × Bool × Speriod_Table × Speriod_Table)) (h : period_Reopen.j1000.re o = some y) : FitsO o (period_Reopen.j1000.fin y) := by
  unfold period_Reopen.j1000.re at h
  split at h
  · obtain ⟨q0, eq0, h1⟩ := Option.bind_eq_some_iff.1 h
    obtain ⟨q1, eq1, h2⟩ := Option.bind_eq_some_iff.1 h1
    split at h2
    · cases h2
      refine fitsO_norm (fits_ren [] ?_ ?_ ren_nil rfl)
      · exact List.forall_mem_cons.2 ⟨FV.same (by assumption) (fun _ _ _ hh => by cases hh) (fun _ hh => by cases hh), List.forall_mem_cons.2 ⟨FV.same (by assumption) (fun _ _ _ hh => by cases hh) (fun _ hh => by cases hh), List.forall_mem_cons.2 ⟨FV.same (by assumption) (fun _ _ _ hh => by cases hh) (fun _ hh => by cases hh), List.forall_mem_cons.2 ⟨FV.same (by assumption) (fun _ _ _ hh => by cases hh) (fun _ hh => by cases hh), fun _ hp => (List.not_mem_nil hp).elim⟩⟩⟩⟩
      · exact List.forall_mem_cons.2 ⟨(Cd.ofLit_ok eq0), List.forall_mem_cons.2 ⟨(Cd.ofLit_ok eq1), fun _ hp => (List.not_mem_nil hp).elim⟩⟩
    · cases h2
  · cases h
noncomputable def period_Reopen.jl : List (Nat × JDen U) := [(1000, period_Reopen.j1000.J)]
noncomputable def period_Reopen.fl (k : Nat) : List (Nat × FDen U) := [(35, period_is.D k)]
noncomputable def period_Reopen.ll (k : Nat) : List (Nat × LDen U) := []
noncomputable def period_Reopen.E (k : Nat) : Env U := { P := Try.prog, D := DD, fd := lk (period_Reopen.fl k), ld := lk (period_Reopen.ll k), jd := lk period_Reopen.jl, mode := lk [], elc := lk ec, dyn := fun t => Nat.beq t 26, vecs := fun d => false, results := Try.f19.results.toList }
theorem period_Reopen.ok (k : Nat) : EnvOk (period_Reopen.E k) := envOk lawful (period_Reopen.fl k) (period_Reopen.ll k) period_Reopen.jl _ _ _ _ _ (by
  intro p hp
  simp only [period_Reopen.fl, List.mem_cons, List.not_mem_nil, or_false] at hp
  rcases hp with rfl
  · exact ⟨period_is.sound k, enter_of Try.func35 (by kernel_rfl) (by kernel_rfl)⟩) (by
  intro p hp
  simp only [period_Reopen.jl, List.mem_cons, List.not_mem_nil, or_false] at hp
  rcases hp with rfl
  · exact period_Reopen.j1000.fit)
theorem period_Reopen.eq (k : Nat) (x : (Speriod_Table × Int)) : runF (period_Reopen.E k) (codeOf Try.f19) (period_Reopen.mk x) period_Reopen.re = (period_Reopen.D k).f x := by kernel_rfl
theorem period_Reopen.sound (k : Nat) : Sound Try.prog DD 19 (period_Reopen.D k) :=
  fun_sound (E := period_Reopen.E k) (fn := Try.f19) (c := codeOf Try.f19) (period_Reopen.ok k) mixed rfl Try.func19 (by kernel_rfl) (by kernel_rfl) (allL_of (l := []) (by kernel_rfl) allL_nil) (period_Reopen.D k) period_Reopen.mk period_Reopen.re
    (by intro args x h; replace h : period_Reopen.un args = some x := h; unfold period_Reopen.un at h; split at h; · obtain ⟨x2, hb0, h0⟩ := Option.bind_eq_some_iff.1 h; have hc0 := Cd.full_ok hb0; clear h; subst hc0; cases h0; rfl
        · cases h)
    (by intro v y h; unfold period_Reopen.re at h; split at h; · obtain ⟨x2, hb0, h0⟩ := Option.bind_eq_some_iff.1 h; have hc0 := Cd.full_ok hb0; clear h; subst hc0; cases h0; rfl
        · cases h)
    (fun _ => rfl) (fun x => Nat.le_of_ble_eq_true (by kernel_rfl)) (period_Reopen.eq k)
/-! ### pyx/pyxlaw13.known: function 20 -/
noncomputable def pyxlaw13_known.f (k : Nat)  : Option Bool := (period_Close.f k (⟨[false, false, false, false, false, false, false, false, false, false, false, false], [0, 0, 0, 0, 0, 0, 0, 0, 0, 0, 0, 0]⟩ : Speriod_Table) 1).bind fun t1 => ((period_Close.f k (⟨[false, false, false, false, false, false, false, false, false, false, false, false], [0, 0, 0, 0, 0, 0, 0, 0, 0, 0, 0, 0]⟩ : Speriod_Table) 0).bind fun t2 => (cond (t1.2 == 8) (cond (t2.2 == 0) (cond (List.getD t2.1.f_Closed 0 false) (cond ((List.getD t2.1.f_Version 0 0) == 1) ((period_IsOpen.f k (⟨pack 12 false t2.1.f_Closed, pack 12 0 t2.1.f_Version⟩ : Speriod_Table) 1).bind fun t3 => (some t3)) (some false)) (some false)) (some false)) (some false)))
noncomputable def pyxlaw13_known.un : List (AV U) → Option Unit | [] => some () | _ => none
noncomputable def pyxlaw13_known.mk (x : Unit) : List (AV U) := []
noncomputable def pyxlaw13_known.D (k : Nat) : FDen U := { X := Unit, Y := Bool, un := pyxlaw13_known.un, f := fun x => pyxlaw13_known.f k , fin := fun y => .flat (.bool y) }
noncomputable def pyxlaw13_known.re : AV U → Option Bool | .flat (.bool x1) => some x1 | _ => none
noncomputable def pyxlaw13_known.jl : List (Nat × JDen U) := []
noncomputable def pyxlaw13_known.fl (k : Nat) : List (Nat × FDen U) := [(18, period_Close.D k), (21, period_IsOpen.D k)]
noncomputable def pyxlaw13_known.ll (k : Nat) : List (Nat × LDen U) := []
noncomputable def pyxlaw13_known.E (k : Nat) : Env U := { P := Try.prog, D := DD, fd := lk (pyxlaw13_known.fl k), ld := lk (pyxlaw13_known.ll k), jd := lk pyxlaw13_known.jl, mode := lk [], elc := lk ec, dyn := fun t => false, vecs := fun d => false, results := Try.f20.results.toList }
theorem pyxlaw13_known.ok (k : Nat) : EnvOk (pyxlaw13_known.E k) := envOk lawful (pyxlaw13_known.fl k) (pyxlaw13_known.ll k) pyxlaw13_known.jl _ _ _ _ _ (by
  intro p hp
  simp only [pyxlaw13_known.fl, List.mem_cons, List.not_mem_nil, or_false] at hp
  rcases hp with rfl | rfl
  · exact ⟨period_Close.sound k, enter_of Try.func18 (by kernel_rfl) (by kernel_rfl)⟩
  · exact ⟨period_IsOpen.sound k, enter_of Try.func21 (by kernel_rfl) (by kernel_rfl)⟩) (by
  intro p hp
  simp [pyxlaw13_known.jl] at hp)
theorem pyxlaw13_known.eq (k : Nat) (x : Unit) : runF (pyxlaw13_known.E k) (codeOf Try.f20) (pyxlaw13_known.mk x) pyxlaw13_known.re = (pyxlaw13_known.D k).f x := by kernel_rfl
theorem pyxlaw13_known.sound (k : Nat) : Sound Try.prog DD 20 (pyxlaw13_known.D k) :=
  fun_sound (E := pyxlaw13_known.E k) (fn := Try.f20) (c := codeOf Try.f20) (pyxlaw13_known.ok k) mixed rfl Try.func20 (by kernel_rfl) (by kernel_rfl) (allL_of (l := []) (by kernel_rfl) allL_nil) (pyxlaw13_known.D k) pyxlaw13_known.mk pyxlaw13_known.re
    (by intro args x h; replace h : pyxlaw13_known.un args = some x := h; unfold pyxlaw13_known.un at h; split at h; · cases h; rfl
        · cases h)
    (by intro v y h; unfold pyxlaw13_known.re at h; split at h; · cases h; rfl
        · cases h)
    (fun _ => rfl) (fun x => Nat.le_of_ble_eq_true (by kernel_rfl)) (pyxlaw13_known.eq k)
/-! ### pyx/pyxlaw13.PeriodKnown: function 5 -/
noncomputable def pyxlaw13_PeriodKnown.f (k : Nat)  : Option Bool := (period_Close.f k (⟨[false, false, false, false, false, false, false, false, false, false, false, false], [0, 0, 0, 0, 0, 0, 0, 0, 0, 0, 0, 0]⟩ : Speriod_Table) 0).bind fun t1 => ((period_Close.f k (⟨pack 12 false t1.1.f_Closed, pack 12 0 t1.1.f_Version⟩ : Speriod_Table) 1).bind fun t2 => ((period_Close.f k (⟨pack 12 false t2.1.f_Closed, pack 12 0 t2.1.f_Version⟩ : Speriod_Table) 1).bind fun t3 => ((period_Reopen.f k (⟨pack 12 false t2.1.f_Closed, pack 12 0 t2.1.f_Version⟩ : Speriod_Table) 0).bind fun t4 => ((period_Reopen.f k (⟨pack 12 false t2.1.f_Closed, pack 12 0 t2.1.f_Version⟩ : Speriod_Table) 1).bind fun t5 => ((period_Close.f k (⟨pack 12 false t5.1.f_Closed, pack 12 0 t5.1.f_Version⟩ : Speriod_Table) 1).bind fun t6 => ((period_Close.f k (⟨pack 12 false t1.1.f_Closed, pack 12 0 t1.1.f_Version⟩ : Speriod_Table) (-1)).bind fun t7 => ((period_Reopen.f k (⟨pack 12 false t1.1.f_Closed, pack 12 0 t1.1.f_Version⟩ : Speriod_Table) 12).bind fun t8 => ((period_Reopen.f k (⟨pack 12 false t1.1.f_Closed, pack 12 0 t1.1.f_Version⟩ : Speriod_Table) 3).bind fun t9 => ((pyxlaw13_known.f k).bind fun t10 => (cond (t10) (cond (t2.2 == 0) (cond (t3.2 == 8) (cond (t4.2 == 8) (cond (t5.2 == 0) (cond (!(List.getD t5.1.f_Closed 1 false)) (cond ((List.getD t5.1.f_Version 1 0) == 1) (cond (t6.2 == 0) (cond ((List.getD t6.1.f_Version 1 0) == 2) (cond (t7.2 == 8) (cond (t8.2 == 8) (cond (t9.2 == 8) ((period_IsOpen.f k (⟨pack 12 false t1.1.f_Closed, pack 12 0 t1.1.f_Version⟩ : Speriod_Table) 0).bind fun t11 => (cond (!t11) ((period_IsOpen.f k (⟨pack 12 false t1.1.f_Closed, pack 12 0 t1.1.f_Version⟩ : Speriod_Table) (-1)).bind fun t12 => (cond (!t12) ((period_IsOpen.f k (⟨pack 12 false t1.1.f_Closed, pack 12 0 t1.1.f_Version⟩ : Speriod_Table) 12).bind fun t13 => (some (!t13))) (some false))) (some false))) (some false)) (some false)) (some false)) (some false)) (some false)) (some false)) (some false)) (some false)) (some false)) (some false)) (some false)) (some false)))))))))))
noncomputable def pyxlaw13_PeriodKnown.un : List (AV U) → Option Unit | [] => some () | _ => none
noncomputable def pyxlaw13_PeriodKnown.mk (x : Unit) : List (AV U) := []
noncomputable def pyxlaw13_PeriodKnown.D (k : Nat) : FDen U := { X := Unit, Y := Bool, un := pyxlaw13_PeriodKnown.un, f := fun x => pyxlaw13_PeriodKnown.f k , fin := fun y => .flat (.bool y) }
noncomputable def pyxlaw13_PeriodKnown.re : AV U → Option Bool | .flat (.bool x1) => some x1 | _ => none
noncomputable def pyxlaw13_PeriodKnown.jl : List (Nat × JDen U) := []
noncomputable def pyxlaw13_PeriodKnown.fl (k : Nat) : List (Nat × FDen U) := [(18, period_Close.D k), (19, period_Reopen.D k), (20, pyxlaw13_known.D k), (21, period_IsOpen.D k)]
noncomputable def pyxlaw13_PeriodKnown.ll (k : Nat) : List (Nat × LDen U) := []
noncomputable def pyxlaw13_PeriodKnown.E (k : Nat) : Env U := { P := Try.prog, D := DD, fd := lk (pyxlaw13_PeriodKnown.fl k), ld := lk (pyxlaw13_PeriodKnown.ll k), jd := lk pyxlaw13_PeriodKnown.jl, mode := lk [], elc := lk ec, dyn := fun t => false, vecs := fun d => false, results := Try.f5.results.toList }
theorem pyxlaw13_PeriodKnown.ok (k : Nat) : EnvOk (pyxlaw13_PeriodKnown.E k) := envOk lawful (pyxlaw13_PeriodKnown.fl k) (pyxlaw13_PeriodKnown.ll k) pyxlaw13_PeriodKnown.jl _ _ _ _ _ (by
  intro p hp
  simp only [pyxlaw13_PeriodKnown.fl, List.mem_cons, List.not_mem_nil, or_false] at hp
  rcases hp with rfl | rfl | rfl | rfl
  · exact ⟨period_Close.sound k, enter_of Try.func18 (by kernel_rfl) (by kernel_rfl)⟩
  · exact ⟨period_Reopen.sound k, enter_of Try.func19 (by kernel_rfl) (by kernel_rfl)⟩
  · exact ⟨pyxlaw13_known.sound k, enter_of Try.func20 (by kernel_rfl) (by kernel_rfl)⟩
  · exact ⟨period_IsOpen.sound k, enter_of Try.func21 (by kernel_rfl) (by kernel_rfl)⟩) (by
  intro p hp
  simp [pyxlaw13_PeriodKnown.jl] at hp)
theorem pyxlaw13_PeriodKnown.eq (k : Nat) (x : Unit) : runF (pyxlaw13_PeriodKnown.E k) (codeOf Try.f5) (pyxlaw13_PeriodKnown.mk x) pyxlaw13_PeriodKnown.re = (pyxlaw13_PeriodKnown.D k).f x := by kernel_rfl
theorem pyxlaw13_PeriodKnown.sound (k : Nat) : Sound Try.prog DD 5 (pyxlaw13_PeriodKnown.D k) :=
  fun_sound (E := pyxlaw13_PeriodKnown.E k) (fn := Try.f5) (c := codeOf Try.f5) (pyxlaw13_PeriodKnown.ok k) mixed rfl Try.func5 (by kernel_rfl) (by kernel_rfl) (allL_of (l := []) (by kernel_rfl) allL_nil) (pyxlaw13_PeriodKnown.D k) pyxlaw13_PeriodKnown.mk pyxlaw13_PeriodKnown.re
    (by intro args x h; replace h : pyxlaw13_PeriodKnown.un args = some x := h; unfold pyxlaw13_PeriodKnown.un at h; split at h; · cases h; rfl
        · cases h)
    (by intro v y h; unfold pyxlaw13_PeriodKnown.re at h; split at h; · cases h; rfl
        · cases h)
    (fun _ => rfl) (fun x => Nat.le_of_ble_eq_true (by kernel_rfl)) (pyxlaw13_PeriodKnown.eq k)
/-! ### pyx/pyxref11.is: function 36 -/
noncomputable def pyxref11_is.f (k : Nat) (a0 : Int) : Option Bool := cond (decide (a0 ≥ 0)) (some (decide (a0 < 12))) (some false)
noncomputable def pyxref11_is.un : List (AV U) → Option Int | [.flat (.int .i64 x1)] => some x1 | _ => none
noncomputable def pyxref11_is.mk (x : Int) : List (AV U) := [.flat (.int .i64 x)]
noncomputable def pyxref11_is.D (k : Nat) : FDen U := { X := Int, Y := Bool, un := pyxref11_is.un, f := fun x => pyxref11_is.f k (x), fin := fun y => .flat (.bool y) }
noncomputable def pyxref11_is.re : AV U → Option Bool | .flat (.bool x1) => some x1 | _ => none
noncomputable def pyxref11_is.jl : List (Nat × JDen U) := []
noncomputable def pyxref11_is.fl (k : Nat) : List (Nat × FDen U) := []
noncomputable def pyxref11_is.ll (k : Nat) : List (Nat × LDen U) := []
noncomputable def pyxref11_is.E (k : Nat) : Env U := { P := Try.prog, D := DD, fd := lk (pyxref11_is.fl k), ld := lk (pyxref11_is.ll k), jd := lk pyxref11_is.jl, mode := lk [], elc := lk ec, dyn := fun t => false, vecs := fun d => false, results := Try.f36.results.toList }
theorem pyxref11_is.ok (k : Nat) : EnvOk (pyxref11_is.E k) := envOk lawful (pyxref11_is.fl k) (pyxref11_is.ll k) pyxref11_is.jl _ _ _ _ _ (by
  intro p hp
  simp [pyxref11_is.fl] at hp) (by
  intro p hp
  simp [pyxref11_is.jl] at hp)
theorem pyxref11_is.eq (k : Nat) (x : Int) : runF (pyxref11_is.E k) (codeOf Try.f36) (pyxref11_is.mk x) pyxref11_is.re = (pyxref11_is.D k).f x := by kernel_rfl
theorem pyxref11_is.sound (k : Nat) : Sound Try.prog DD 36 (pyxref11_is.D k) :=
  fun_sound (E := pyxref11_is.E k) (fn := Try.f36) (c := codeOf Try.f36) (pyxref11_is.ok k) mixed rfl Try.func36 (by kernel_rfl) (by kernel_rfl) (allL_of (l := []) (by kernel_rfl) allL_nil) (pyxref11_is.D k) pyxref11_is.mk pyxref11_is.re
    (by intro args x h; replace h : pyxref11_is.un args = some x := h; unfold pyxref11_is.un at h; split at h; · cases h; rfl
        · cases h)
    (by intro v y h; unfold pyxref11_is.re at h; split at h; · cases h; rfl
        · cases h)
    (fun _ => rfl) (fun x => Nat.le_of_ble_eq_true (by kernel_rfl)) (pyxref11_is.eq k)
/-! ### (pyx/pyxref11.Table).Close: function 23 -/
noncomputable def pyxref11_Table_Close.f (k : Nat) (a0 : Spyxref11_Table) (a1 : Int) : Option (Spyxref11_Table × Int) := (((pyxref11_is.f k a1).bind fun t1 => (cond (!t1) (some (a1, true, (⟨pack 12 false a0.f_Closed, pack 12 0 a0.f_Version⟩ : Spyxref11_Table), (⟨[false, false, false, false, false, false, false, false, false, false, false, false], [0, 0, 0, 0, 0, 0, 0, 0, 0, 0, 0, 0]⟩ : Spyxref11_Table))) (cond (inb a1 12) (cond (Nat.blt (Int.toNat a1) 12) (cond (List.getD (pack 12 false a0.f_Closed) (Int.toNat a1) false) (some (a1, true, (⟨pack 12 false a0.f_Closed, pack 12 0 a0.f_Version⟩ : Spyxref11_Table), (⟨[false, false, false, false, false, false, false, false, false, false, false, false], [0, 0, 0, 0, 0, 0, 0, 0, 0, 0, 0, 0]⟩ : Spyxref11_Table))) (cond (decide (a1 > 0)) (cond (inb (IntKind.wrap .i64 (a1 - 1)) 12) (cond (Nat.blt (Int.toNat (IntKind.wrap .i64 (a1 - 1))) 12) (some (a1, !(List.getD (pack 12 false a0.f_Closed) (Int.toNat (IntKind.wrap .i64 (a1 - 1))) false), (⟨pack 12 false a0.f_Closed, pack 12 0 a0.f_Version⟩ : Spyxref11_Table), (⟨[false, false, false, false, false, false, false, false, false, false, false, false], [0, 0, 0, 0, 0, 0, 0, 0, 0, 0, 0, 0]⟩ : Spyxref11_Table))) none) none) (some (a1, false, (⟨pack 12 false a0.f_Closed, pack 12 0 a0.f_Version⟩ : Spyxref11_Table), (⟨[false, false, false, false, false, false, false, false, false, false, false, false], [0, 0, 0, 0, 0, 0, 0, 0, 0, 0, 0, 0]⟩ : Spyxref11_Table))))) none) none))) : Option (Int × Bool × Spyxref11_Table × Spyxref11_Table)).bind fun y6 => (cond (y6.2.1) (some ((⟨[false, false, false, false, false, false, false, false, false, false, false, false], [0, 0, 0, 0, 0, 0, 0, 0, 0, 0, 0, 0]⟩ : Spyxref11_Table), 8)) (cond (inb y6.1 12) (cond (Nat.blt (Int.toNat y6.1) 12) (cond (inb y6.1 12) (cond (Nat.blt (Int.toNat y6.1) 12) (cond (inb y6.1 12) (cond (Nat.blt (Int.toNat y6.1) 12) (some ((⟨putAll (Int.toNat y6.1) true 0 (pack 12 false y6.2.2.1.f_Closed), putAll (Int.toNat y6.1) (IntKind.wrap .i64 ((List.getD (pack 12 0 y6.2.2.1.f_Version) (Int.toNat y6.1) 0) + 1)) 0 (pack 12 0 y6.2.2.1.f_Version)⟩ : Spyxref11_Table), 0)) none) none) none) none) none) none))
noncomputable def pyxref11_Table_Close.un : List (AV U) → Option (Spyxref11_Table × Int) | [.agg x1, .flat (.int .i64 x3)] => (cd_Spyxref11_Table.full x1).bind fun x2 => some (x2, x3) | _ => none
noncomputable def pyxref11_Table_Close.mk (x : (Spyxref11_Table × Int)) : List (AV U) := [.agg (cd_Spyxref11_Table.enc x.1), .flat (.int .i64 x.2)]
noncomputable def pyxref11_Table_Close.D (k : Nat) : FDen U := { X := (Spyxref11_Table × Int), Y := (Spyxref11_Table × Int), un := pyxref11_Table_Close.un, f := fun x => pyxref11_Table_Close.f k (x.1) (x.2), fin := fun y => .tup [.agg (cd_Spyxref11_Table.enc y.1), .flat (.int .i64 y.2)] }
noncomputable def pyxref11_Table_Close.re : AV U → Option (Spyxref11_Table × Int) | .tup [.agg x1, .flat (.int .i64 x3)] => (cd_Spyxref11_Table.full x1).bind fun x2 => some (x2, x3) | _ => none
noncomputable def pyxref11_Table_Close.j1000.fin (y : (Int × Bool × Spyxref11_Table × Spyxref11_Table)) : Out U := match y with | (x2, x5, x3, x4) => .norm ⟨[(2, .ptr 2 0), (4, .ptr 4 0), (1, .flat (.int .i64 x2)), (26, .flat (.bool x5))], [(2, .lit (cd_Spyxref11_Table.enc x3)), (4, .lit (cd_Spyxref11_Table.enc x4))]⟩
noncomputable def pyxref11_Table_Close.j1000.finK {ρ : Type} (y : (Int × Bool × Spyxref11_Table × Spyxref11_Table)) (K : Out U → Option ρ) : Option ρ := match y with | (x2, x5, x3, x4) => K (.norm ⟨[(2, .ptr 2 0), (4, .ptr 4 0), (1, .flat (.int .i64 x2)), (26, .flat (.bool x5))], [(2, .lit (cd_Spyxref11_Table.enc x3)), (4, .lit (cd_Spyxref11_Table.enc x4))]⟩)
theorem pyxref11_Table_Close.j1000.finK_eq {ρ : Type} (y : (Int × Bool × Spyxref11_Table × Spyxref11_Table)) (K : Out U → Option ρ) : pyxref11_Table_Close.j1000.finK y K = K (pyxref11_Table_Close.j1000.fin y) := by
  unfold pyxref11_Table_Close.j1000.finK pyxref11_Table_Close.j1000.fin
  first | rfl | (split <;> rfl)
noncomputable def pyxref11_Table_Close.j1000.re : Out U → Option ((Int × Bool × Spyxref11_Table × Spyxref11_Table)) | .norm s => ((Cd.ofLit cd_Spyxref11_Table s.o 2).bind fun q0 => ((Cd.ofLit cd_Spyxref11_Table s.o 4).bind fun q1 => (match s.get 2, s.get 4, s.get 1, s.get 26 with | .ptr 2 0, .ptr 4 0, .flat (.int .i64 x2), .flat (.bool x5) => some (x2, x5, q0, q1) | _, _, _, _ => none))) | _ => none
noncomputable def pyxref11_Table_Close.j1000.J : JDen U := { Y := (Int × Bool × Spyxref11_Table × Spyxref11_Table), re := pyxref11_Table_Close.j1000.re, fin := pyxref11_Table_Close.j1000.fin, finK := pyxref11_Table_Close.j1000.finK, finK_eq := pyxref11_Table_Close.j1000.finK_eq }
theorem pyxref11_Table_Close.j1000.fit (o : Out U) (y : (Int × Bool × Spyxref11_Table × Spyxref11_Table)) (h : pyxref11_Table_Close.j1000.re o = some y) : FitsO o (pyxref11_Table_Close.j1000.fin y) := by
  unfold pyxref11_Table_Close.j1000.re at h
  split at h
  · obtain ⟨q0, eq0, h1⟩ := Option.bind_eq_some_iff.1 h
    obtain ⟨q1, eq1, h2⟩ := Option.bind_eq_some_iff.1 h1
    split at h2
    · cases h2
      refine fitsO_norm (fits_ren [] ?_ ?_ ren_nil rfl)
      · exact List.forall_mem_cons.2 ⟨FV.same (by assumption) (fun _ _ _ hh => by cases hh) (fun _ hh => by cases hh), List.forall_mem_cons.2 ⟨FV.same (by assumption) (fun _ _ _ hh => by cases hh) (fun _ hh => by cases hh), List.forall_mem_cons.2 ⟨FV.same (by assumption) (fun _ _ _ hh => by cases hh) (fun _ hh => by cases hh), List.forall_mem_cons.2 ⟨FV.same (by assumption) (fun _ _ _ hh => by cases hh) (fun _ hh => by cases hh), fun _ hp => (List.not_mem_nil hp).elim⟩⟩⟩⟩
      · exact List.forall_mem_cons.2 ⟨(Cd.ofLit_ok eq0), List.forall_mem_cons.2 ⟨(Cd.ofLit_ok eq1), fun _ hp => (List.not_mem_nil hp).elim⟩⟩
    · cases h2
  · cases h
noncomputable def pyxref11_Table_Close.jl : List (Nat × JDen U) := [(1000, pyxref11_Table_Close.j1000.J)]
noncomputable def pyxref11_Table_Close.fl (k : Nat) : List (Nat × FDen U) := [(36, pyxref11_is.D k)]
noncomputable def pyxref11_Table_Close.ll (k : Nat) : List (Nat × LDen U) := []
noncomputable def pyxref11_Table_Close.E (k : Nat) : Env U := { P := Try.prog, D := DD, fd := lk (pyxref11_Table_Close.fl k), ld := lk (pyxref11_Table_Close.ll k), jd := lk pyxref11_Table_Close.jl, mode := lk [], elc := lk ec, dyn := fun t => Nat.beq t 26 || Nat.beq t 27, vecs := fun d => false, results := Try.f23.results.toList }
theorem pyxref11_Table_Close.ok (k : Nat) : EnvOk (pyxref11_Table_Close.E k) := envOk lawful (pyxref11_Table_Close.fl k) (pyxref11_Table_Close.ll k) pyxref11_Table_Close.jl _ _ _ _ _ (by
  intro p hp
  simp only [pyxref11_Table_Close.fl, List.mem_cons, List.not_mem_nil, or_false] at hp
  rcases hp with rfl
  · exact ⟨pyxref11_is.sound k, enter_of Try.func36 (by kernel_rfl) (by kernel_rfl)⟩) (by
  intro p hp
  simp only [pyxref11_Table_Close.jl, List.mem_cons, List.not_mem_nil, or_false] at hp
  rcases hp with rfl
  · exact pyxref11_Table_Close.j1000.fit)
theorem pyxref11_Table_Close.eq (k : Nat) (x : (Spyxref11_Table × Int)) : runF (pyxref11_Table_Close.E k) (codeOf Try.f23) (pyxref11_Table_Close.mk x) pyxref11_Table_Close.re = (pyxref11_Table_Close.D k).f x := by kernel_rfl
theorem pyxref11_Table_Close.sound (k : Nat) : Sound Try.prog DD 23 (pyxref11_Table_Close.D k) :=
  fun_sound (E := pyxref11_Table_Close.E k) (fn := Try.f23) (c := codeOf Try.f23) (pyxref11_Table_Close.ok k) mixed rfl Try.func23 (by kernel_rfl) (by kernel_rfl) (allL_of (l := []) (by kernel_rfl) allL_nil) (pyxref11_Table_Close.D k) pyxref11_Table_Close.mk pyxref11_Table_Close.re
    (by intro args x h; replace h : pyxref11_Table_Close.un args = some x := h; unfold pyxref11_Table_Close.un at h; split at h; · obtain ⟨x2, hb0, h0⟩ := Option.bind_eq_some_iff.1 h; have hc0 := Cd.full_ok hb0; clear h; subst hc0; cases h0; rfl
        · cases h)
    (by intro v y h; unfold pyxref11_Table_Close.re at h; split at h; · obtain ⟨x2, hb0, h0⟩ := Option.bind_eq_some_iff.1 h; have hc0 := Cd.full_ok hb0; clear h; subst hc0; cases h0; rfl
        · cases h)
    (fun _ => rfl) (fun x => Nat.le_of_ble_eq_true (by kernel_rfl)) (pyxref11_Table_Close.eq k)
/-! ### (pyx/pyxref11.Table).Reopen: function 24 -/
noncomputable def pyxref11_Table_Reopen.f (k : Nat) (a0 : Spyxref11_Table) (a1 : Int) : Option (Spyxref11_Table × Int) := (((pyxref11_is.f k a1).bind fun t1 => (cond (!t1) (some (a1, true, (⟨pack 12 false a0.f_Closed, pack 12 0 a0.f_Version⟩ : Spyxref11_Table), (⟨[false, false, false, false, false, false, false, false, false, false, false, false], [0, 0, 0, 0, 0, 0, 0, 0, 0, 0, 0, 0]⟩ : Spyxref11_Table))) (cond (inb a1 12) (cond (Nat.blt (Int.toNat a1) 12) (cond (!(List.getD (pack 12 false a0.f_Closed) (Int.toNat a1) false)) (some (a1, true, (⟨pack 12 false a0.f_Closed, pack 12 0 a0.f_Version⟩ : Spyxref11_Table), (⟨[false, false, false, false, false, false, false, false, false, false, false, false], [0, 0, 0, 0, 0, 0, 0, 0, 0, 0, 0, 0]⟩ : Spyxref11_Table))) (cond (decide ((IntKind.wrap .i64 (a1 + 1)) < 12)) (cond (inb (IntKind.wrap .i64 (a1 + 1)) 12) (cond (Nat.blt (Int.toNat (IntKind.wrap .i64 (a1 + 1))) 12) (some (a1, List.getD (pack 12 false a0.f_Closed) (Int.toNat (IntKind.wrap .i64 (a1 + 1))) false, (⟨pack 12 false a0.f_Closed, pack 12 0 a0.f_Version⟩ : Spyxref11_Table), (⟨[false, false, false, false, false, false, false, false, false, false, false, false], [0, 0, 0, 0, 0, 0, 0, 0, 0, 0, 0, 0]⟩ : Spyxref11_Table))) none) none) (some (a1, false, (⟨pack 12 false a0.f_Closed, pack 12 0 a0.f_Version⟩ : Spyxref11_Table), (⟨[false, false, false, false, false, false, false, false, false, false, false, false], [0, 0, 0, 0, 0, 0, 0, 0, 0, 0, 0, 0]⟩ : Spyxref11_Table))))) none) none))) : Option (Int × Bool × Spyxref11_Table × Spyxref11_Table)).bind fun y6 => (cond (y6.2.1) (some ((⟨[false, false, false, false, false, false, false, false, false, false, false, false], [0, 0, 0, 0, 0, 0, 0, 0, 0, 0, 0, 0]⟩ : Spyxref11_Table), 8)) (cond (inb y6.1 12) (cond (Nat.blt (Int.toNat y6.1) 12) (some ((⟨putAll (Int.toNat y6.1) false 0 (pack 12 false y6.2.2.1.f_Closed), pack 12 0 y6.2.2.1.f_Version⟩ : Spyxref11_Table), 0)) none) none))
noncomputable def pyxref11_Table_Reopen.un : List (AV U) → Option (Spyxref11_Table × Int) | [.agg x1, .flat (.int .i64 x3)] => (cd_Spyxref11_Table.full x1).bind fun x2 => some (x2, x3) | _ => none
noncomputable def pyxref11_Table_Reopen.mk (x : (Spyxref11_Table × Int)) : List (AV U) := [.agg (cd_Spyxref11_Table.enc x.1), .flat (.int .i64 x.2)]
noncomputable def pyxref11_Table_Reopen.D (k : Nat) : FDen U := { X := (Spyxref11_Table × Int), Y := (Spyxref11_Table × Int), un := pyxref11_Table_Reopen.un, f := fun x => pyxref11_Table_Reopen.f k (x.1) (x.2), fin := fun y => .tup [.agg (cd_Spyxref11_Table.enc y.1), .flat (.int .i64 y.2)] }
noncomputable def pyxref11_Table_Reopen.re : AV U → Option (Spyxref11_Table × Int) | .tup [.agg x1, .flat (.int .i64 x3)] => (cd_Spyxref11_Table.full x1).bind fun x2 => some (x2, x3) | _ => none
noncomputable def pyxref11_Table_Reopen.j1000.fin (y : (Int × Bool × Spyxref11_Table × Spyxref11_Table)) : Out U := match y with | (x2, x5, x3, x4) => .norm ⟨[(2, .ptr 2 0), (4, .ptr 4 0), (1, .flat (.int .i64 x2)), (27, .flat (.bool x5))], [(2, .lit (cd_Spyxref11_Table.enc x3)), (4, .lit (cd_Spyxref11_Table.enc x4))]⟩
noncomputable def pyxref11_Table_Reopen.j1000.finK {ρ : Type} (y : (Int × Bool × Spyxref11_Table × Spyxref11_Table)) (K : Out U → Option ρ) : Option ρ := match y with | (x2, x5, x3, x4) => K (.norm ⟨[(2, .ptr 2 0), (4, .ptr 4 0), (1, .flat (.int .i64 x2)), (27, .flat (.bool x5))], [(2, .lit (cd_Spyxref11_Table.enc x3)), (4, .lit (cd_Spyxref11_Table.enc x4))]⟩)
theorem pyxref11_Table_Reopen.j1000.finK_eq {ρ : Type} (y : (Int × Bool × Spyxref11_Table × Spyxref11_Table)) (K : Out U → Option ρ) : pyxref11_Table_Reopen.j1000.finK y K = K (pyxref11_Table_Reopen.j1000.fin y) := by
  unfold pyxref11_Table_Reopen.j1000.finK pyxref11_Table_Reopen.j1000.fin
  first | rfl | (split <;> rfl)
noncomputable def pyxref11_Table_Reopen.j1000.re : Out U → Option ((Int × Bool × Spyxref11_Table × Spyxref11_Table)) | .norm s => ((Cd.ofLit cd_Spyxref11_Table s.o 2).bind fun q0 => ((Cd.ofLit cd_Spyxref11_Table s.o 4).bind fun q1 => (match s.get 2, s.get 4, s.get 1, s.get 27 with | .ptr 2 0, .ptr 4 0, .flat (.int .i64 x2), .flat (.bool x5) => some (x2, x5, q0, q1) | _, _, _, _ => none))) | _ => none
noncomputable def pyxref11_Table_Reopen.j1000.J : JDen U := { Y := (Int × Bool × Spyxref11_Table × Spyxref11_Table), re := pyxref11_Table_Reopen.j1000.re, fin := pyxref11_Table_Reopen.j1000.fin, finK := pyxref11_Table_Reopen.j1000.finK, finK_eq := pyxref11_Table_Reopen.j1000.finK_eq }
theorem pyxref11_Table_Reopen.j1000.fit (o : Out U) (y : (Int × Bool × Spyxref11_Table × Spyxref11_Table)) (h : pyxref11_Table_Reopen.j1000.re o = some y) : FitsO o (pyxref11_Table_Reopen.j1000.fin y) := by
  unfold pyxref11_Table_Reopen.j1000.re at h
  split at h
  · obtain ⟨q0, eq0, h1⟩ := Option.bind_eq_some_iff.1 h
    obtain ⟨q1, eq1, h2⟩ := Option.bind_eq_some_iff.1 h1
    split at h2
    · cases h2
      refine fitsO_norm (fits_ren [] ?_ ?_ ren_nil rfl)
      · exact List.forall_mem_cons.2 ⟨FV.same (by assumption) (fun _ _ _ hh => by cases hh) (fun _ hh => by cases hh), List.forall_mem_cons.2 ⟨FV.same (by assumption) (fun _ _ _ hh => by cases hh) (fun _ hh => by cases hh), List.forall_mem_cons.2 ⟨FV.same (by assumption) (fun _ _ _ hh => by cases hh) (fun _ hh => by cases hh), List.forall_mem_cons.2 ⟨FV.same (by assumption) (fun _ _ _ hh => by cases hh) (fun _ hh => by cases hh), fun _ hp => (List.not_mem_nil hp).elim⟩⟩⟩⟩
      · exact List.forall_mem_cons.2 ⟨(Cd.ofLit_ok eq0), List.forall_mem_cons.2 ⟨(Cd.ofLit_ok eq1), fun _ hp => (List.not_mem_nil hp).elim⟩⟩
    · cases h2
  · cases h
noncomputable def pyxref11_Table_Reopen.jl : List (Nat × JDen U) := [(1000, pyxref11_Table_Reopen.j1000.J)]
noncomputable def pyxref11_Table_Reopen.fl (k : Nat) : List (Nat × FDen U) := [(36, pyxref11_is.D k)]
noncomputable def pyxref11_Table_Reopen.ll (k : Nat) : List (Nat × LDen U) := []
noncomputable def pyxref11_Table_Reopen.E (k : Nat) : Env U := { P := Try.prog, D := DD, fd := lk (pyxref11_Table_Reopen.fl k), ld := lk (pyxref11_Table_Reopen.ll k), jd := lk pyxref11_Table_Reopen.jl, mode := lk [], elc := lk ec, dyn := fun t => Nat.beq t 26, vecs := fun d => false, results := Try.f24.results.toList }
theorem pyxref11_Table_Reopen.ok (k : Nat) : EnvOk (pyxref11_Table_Reopen.E k) := envOk lawful (pyxref11_Table_Reopen.fl k) (pyxref11_Table_Reopen.ll k) pyxref11_Table_Reopen.jl _ _ _ _ _ (by
  intro p hp
  simp only [pyxref11_Table_Reopen.fl, List.mem_cons, List.not_mem_nil, or_false] at hp
  rcases hp with rfl
  · exact ⟨pyxref11_is.sound k, enter_of Try.func36 (by kernel_rfl) (by kernel_rfl)⟩) (by
  intro p hp
  simp only [pyxref11_Table_Reopen.jl, List.mem_cons, List.not_mem_nil, or_false] at hp
  rcases hp with rfl
  · exact pyxref11_Table_Reopen.j1000.fit)
theorem pyxref11_Table_Reopen.eq (k : Nat) (x : (Spyxref11_Table × Int)) : runF (pyxref11_Table_Reopen.E k) (codeOf Try.f24) (pyxref11_Table_Reopen.mk x) pyxref11_Table_Reopen.re = (pyxref11_Table_Reopen.D k).f x := by kernel_rfl
theorem pyxref11_Table_Reopen.sound (k : Nat) : Sound Try.prog DD 24 (pyxref11_Table_Reopen.D k) :=
  fun_sound (E := pyxref11_Table_Reopen.E k) (fn := Try.f24) (c := codeOf Try.f24) (pyxref11_Table_Reopen.ok k) mixed rfl Try.func24 (by kernel_rfl) (by kernel_rfl) (allL_of (l := []) (by kernel_rfl) allL_nil) (pyxref11_Table_Reopen.D k) pyxref11_Table_Reopen.mk pyxref11_Table_Reopen.re
    (by intro args x h; replace h : pyxref11_Table_Reopen.un args = some x := h; unfold pyxref11_Table_Reopen.un at h; split at h; · obtain ⟨x2, hb0, h0⟩ := Option.bind_eq_some_iff.1 h; have hc0 := Cd.full_ok hb0; clear h; subst hc0; cases h0; rfl
        · cases h)
    (by intro v y h; unfold pyxref11_Table_Reopen.re at h; split at h; · obtain ⟨x2, hb0, h0⟩ := Option.bind_eq_some_iff.1 h; have hc0 := Cd.full_ok hb0; clear h; subst hc0; cases h0; rfl
        · cases h)
    (fun _ => rfl) (fun x => Nat.le_of_ble_eq_true (by kernel_rfl)) (pyxref11_Table_Reopen.eq k)
/-! ### (pyx/pyxref11.Table).IsOpen: function 25 -/
noncomputable def pyxref11_Table_IsOpen.f (k : Nat) (a0 : Spyxref11_Table) (a1 : Int) : Option Bool := (pyxref11_is.f k a1).bind fun t1 => (cond (t1) (cond (inb a1 12) (cond (Nat.blt (Int.toNat a1) 12) (some (!(List.getD (pack 12 false a0.f_Closed) (Int.toNat a1) false))) none) none) (some false))
noncomputable def pyxref11_Table_IsOpen.un : List (AV U) → Option (Spyxref11_Table × Int) | [.agg x1, .flat (.int .i64 x3)] => (cd_Spyxref11_Table.full x1).bind fun x2 => some (x2, x3) | _ => none
noncomputable def pyxref11_Table_IsOpen.mk (x : (Spyxref11_Table × Int)) : List (AV U) := [.agg (cd_Spyxref11_Table.enc x.1), .flat (.int .i64 x.2)]
noncomputable def pyxref11_Table_IsOpen.D (k : Nat) : FDen U := { X := (Spyxref11_Table × Int), Y := Bool, un := pyxref11_Table_IsOpen.un, f := fun x => pyxref11_Table_IsOpen.f k (x.1) (x.2), fin := fun y => .flat (.bool y) }
noncomputable def pyxref11_Table_IsOpen.re : AV U → Option Bool | .flat (.bool x1) => some x1 | _ => none
noncomputable def pyxref11_Table_IsOpen.jl : List (Nat × JDen U) := []
noncomputable def pyxref11_Table_IsOpen.fl (k : Nat) : List (Nat × FDen U) := [(36, pyxref11_is.D k)]
noncomputable def pyxref11_Table_IsOpen.ll (k : Nat) : List (Nat × LDen U) := []
noncomputable def pyxref11_Table_IsOpen.E (k : Nat) : Env U := { P := Try.prog, D := DD, fd := lk (pyxref11_Table_IsOpen.fl k), ld := lk (pyxref11_Table_IsOpen.ll k), jd := lk pyxref11_Table_IsOpen.jl, mode := lk [], elc := lk ec, dyn := fun t => Nat.beq t 26, vecs := fun d => false, results := Try.f25.results.toList }
theorem pyxref11_Table_IsOpen.ok (k : Nat) : EnvOk (pyxref11_Table_IsOpen.E k) := envOk lawful (pyxref11_Table_IsOpen.fl k) (pyxref11_Table_IsOpen.ll k) pyxref11_Table_IsOpen.jl _ _ _ _ _ (by
  intro p hp
  simp only [pyxref11_Table_IsOpen.fl, List.mem_cons, List.not_mem_nil, or_false] at hp
  rcases hp with rfl
  · exact ⟨pyxref11_is.sound k, enter_of Try.func36 (by kernel_rfl) (by kernel_rfl)⟩) (by
  intro p hp
  simp [pyxref11_Table_IsOpen.jl] at hp)
theorem pyxref11_Table_IsOpen.eq (k : Nat) (x : (Spyxref11_Table × Int)) : runF (pyxref11_Table_IsOpen.E k) (codeOf Try.f25) (pyxref11_Table_IsOpen.mk x) pyxref11_Table_IsOpen.re = (pyxref11_Table_IsOpen.D k).f x := by kernel_rfl
theorem pyxref11_Table_IsOpen.sound (k : Nat) : Sound Try.prog DD 25 (pyxref11_Table_IsOpen.D k) :=
  fun_sound (E := pyxref11_Table_IsOpen.E k) (fn := Try.f25) (c := codeOf Try.f25) (pyxref11_Table_IsOpen.ok k) mixed rfl Try.func25 (by kernel_rfl) (by kernel_rfl) (allL_of (l := []) (by kernel_rfl) allL_nil) (pyxref11_Table_IsOpen.D k) pyxref11_Table_IsOpen.mk pyxref11_Table_IsOpen.re
    (by intro args x h; replace h : pyxref11_Table_IsOpen.un args = some x := h; unfold pyxref11_Table_IsOpen.un at h; split at h; · obtain ⟨x2, hb0, h0⟩ := Option.bind_eq_some_iff.1 h; have hc0 := Cd.full_ok hb0; clear h; subst hc0; cases h0; rfl
        · cases h)
    (by intro v y h; unfold pyxref11_Table_IsOpen.re at h; split at h; · cases h; rfl
        · cases h)
    (fun _ => rfl) (fun x => Nat.le_of_ble_eq_true (by kernel_rfl)) (pyxref11_Table_IsOpen.eq k)
/-! ### pyx/pyxlaw13.PeriodTells: function 6 -/
noncomputable def pyxlaw13_PeriodTells.l4.once (k : Nat) (x : (List Int × Int × Int × Speriod_Table × Spyxref11_Table)) : Option ((List Int × Int × Int × Speriod_Table × Spyxref11_Table) ⊕ (Unit ⊕ Bool)) := match x with | (x3, x4, x5, x1, x2) => cond (decide (x5 < x4)) (cond (inb x5 (List.length x3)) ((pyxhand_Pick.f k (IntKind.wrap .i64 (Int.tdiv (List.getD x3 (Int.toNat x5) 0) 2)) 15).bind fun t6 => ((period_Close.f k (⟨pack 12 false x1.f_Closed, pack 12 0 x1.f_Version⟩ : Speriod_Table) (IntKind.wrap .i64 (t6 - 1))).bind fun t7 => ((pyxref11_Table_Close.f k (⟨pack 12 false x2.f_Closed, pack 12 0 x2.f_Version⟩ : Spyxref11_Table) (IntKind.wrap .i64 (t6 - 1))).bind fun t8 => ((pyxhand_Pick.f k (List.getD x3 (Int.toNat x5) 0) 2).bind fun t9 => (((cond (t9 == 1) ((period_Reopen.f k (⟨pack 12 false x1.f_Closed, pack 12 0 x1.f_Version⟩ : Speriod_Table) (IntKind.wrap .i64 (t6 - 1))).bind fun t10 => ((pyxref11_Table_Reopen.f k (⟨pack 12 false x2.f_Closed, pack 12 0 x2.f_Version⟩ : Spyxref11_Table) (IntKind.wrap .i64 (t6 - 1))).bind fun t11 => (some (IntKind.wrap .i64 (t6 - 1), t10.2, t11.2, x3, x4, x5, (⟨pack 12 false x1.f_Closed, pack 12 0 x1.f_Version⟩ : Speriod_Table), (⟨pack 12 false x2.f_Closed, pack 12 0 x2.f_Version⟩ : Spyxref11_Table), (⟨pack 12 false t10.1.f_Closed, pack 12 0 t10.1.f_Version⟩ : Speriod_Table), (⟨pack 12 false t11.1.f_Closed, pack 12 0 t11.1.f_Version⟩ : Spyxref11_Table))))) (some (IntKind.wrap .i64 (t6 - 1), t7.2, t8.2, x3, x4, x5, (⟨pack 12 false x1.f_Closed, pack 12 0 x1.f_Version⟩ : Speriod_Table), (⟨pack 12 false x2.f_Closed, pack 12 0 x2.f_Version⟩ : Spyxref11_Table), (⟨pack 12 false t7.1.f_Closed, pack 12 0 t7.1.f_Version⟩ : Speriod_Table), (⟨pack 12 false t8.1.f_Closed, pack 12 0 t8.1.f_Version⟩ : Spyxref11_Table)))) : Option (Int × Int × Int × List Int × Int × Int × Speriod_Table × Spyxref11_Table × Speriod_Table × Spyxref11_Table)).bind fun y22 => (((cond (y22.2.1 != y22.2.2.1) (some (y22.2.1, y22.2.2.2.1, y22.2.2.2.2.1, y22.2.2.2.2.2.1, true, (⟨pack 12 false y22.2.2.2.2.2.2.1.f_Closed, pack 12 0 y22.2.2.2.2.2.2.1.f_Version⟩ : Speriod_Table), (⟨pack 12 false y22.2.2.2.2.2.2.2.1.f_Closed, pack 12 0 y22.2.2.2.2.2.2.2.1.f_Version⟩ : Spyxref11_Table), (⟨pack 12 false y22.2.2.2.2.2.2.2.2.1.f_Closed, pack 12 0 y22.2.2.2.2.2.2.2.2.1.f_Version⟩ : Speriod_Table), (⟨pack 12 false y22.2.2.2.2.2.2.2.2.2.f_Closed, pack 12 0 y22.2.2.2.2.2.2.2.2.2.f_Version⟩ : Spyxref11_Table))) (cond (!(((List.getD y22.2.2.2.2.2.2.2.2.1.f_Closed 0 false) == (List.getD y22.2.2.2.2.2.2.2.2.2.f_Closed 0 false)) && (((List.getD y22.2.2.2.2.2.2.2.2.1.f_Closed 1 false) == (List.getD y22.2.2.2.2.2.2.2.2.2.f_Closed 1 false)) && (((List.getD y22.2.2.2.2.2.2.2.2.1.f_Closed 2 false) == (List.getD y22.2.2.2.2.2.2.2.2.2.f_Closed 2 false)) && (((List.getD y22.2.2.2.2.2.2.2.2.1.f_Closed 3 false) == (List.getD y22.2.2.2.2.2.2.2.2.2.f_Closed 3 false)) && (((List.getD y22.2.2.2.2.2.2.2.2.1.f_Closed 4 false) == (List.getD y22.2.2.2.2.2.2.2.2.2.f_Closed 4 false)) && (((List.getD y22.2.2.2.2.2.2.2.2.1.f_Closed 5 false) == (List.getD y22.2.2.2.2.2.2.2.2.2.f_Closed 5 false)) && (((List.getD y22.2.2.2.2.2.2.2.2.1.f_Closed 6 false) == (List.getD y22.2.2.2.2.2.2.2.2.2.f_Closed 6 false)) && (((List.getD y22.2.2.2.2.2.2.2.2.1.f_Closed 7 false) == (List.getD y22.2.2.2.2.2.2.2.2.2.f_Closed 7 false)) && (((List.getD y22.2.2.2.2.2.2.2.2.1.f_Closed 8 false) == (List.getD y22.2.2.2.2.2.2.2.2.2.f_Closed 8 false)) && (((List.getD y22.2.2.2.2.2.2.2.2.1.f_Closed 9 false) == (List.getD y22.2.2.2.2.2.2.2.2.2.f_Closed 9 false)) && (((List.getD y22.2.2.2.2.2.2.2.2.1.f_Closed 10 false) == (List.getD y22.2.2.2.2.2.2.2.2.2.f_Closed 10 false)) && ((List.getD y22.2.2.2.2.2.2.2.2.1.f_Closed 11 false) == (List.getD y22.2.2.2.2.2.2.2.2.2.f_Closed 11 false)))))))))))))) (some (y22.2.1, y22.2.2.2.1, y22.2.2.2.2.1, y22.2.2.2.2.2.1, true, (⟨pack 12 false y22.2.2.2.2.2.2.1.f_Closed, pack 12 0 y22.2.2.2.2.2.2.1.f_Version⟩ : Speriod_Table), (⟨pack 12 false y22.2.2.2.2.2.2.2.1.f_Closed, pack 12 0 y22.2.2.2.2.2.2.2.1.f_Version⟩ : Spyxref11_Table), (⟨pack 12 false y22.2.2.2.2.2.2.2.2.1.f_Closed, pack 12 0 y22.2.2.2.2.2.2.2.2.1.f_Version⟩ : Speriod_Table), (⟨pack 12 false y22.2.2.2.2.2.2.2.2.2.f_Closed, pack 12 0 y22.2.2.2.2.2.2.2.2.2.f_Version⟩ : Spyxref11_Table))) (cond (!(((List.getD y22.2.2.2.2.2.2.2.2.1.f_Version 0 0) == (List.getD y22.2.2.2.2.2.2.2.2.2.f_Version 0 0)) && (((List.getD y22.2.2.2.2.2.2.2.2.1.f_Version 1 0) == (List.getD y22.2.2.2.2.2.2.2.2.2.f_Version 1 0)) && (((List.getD y22.2.2.2.2.2.2.2.2.1.f_Version 2 0) == (List.getD y22.2.2.2.2.2.2.2.2.2.f_Version 2 0)) && (((List.getD y22.2.2.2.2.2.2.2.2.1.f_Version 3 0) == (List.getD y22.2.2.2.2.2.2.2.2.2.f_Version 3 0)) && (((List.getD y22.2.2.2.2.2.2.2.2.1.f_Version 4 0) == (List.getD y22.2.2.2.2.2.2.2.2.2.f_Version 4 0)) && (((List.getD y22.2.2.2.2.2.2.2.2.1.f_Version 5 0) == (List.getD y22.2.2.2.2.2.2.2.2.2.f_Version 5 0)) && (((List.getD y22.2.2.2.2.2.2.2.2.1.f_Version 6 0) == (List.getD y22.2.2.2.2.2.2.2.2.2.f_Version 6 0)) && (((List.getD y22.2.2.2.2.2.2.2.2.1.f_Version 7 0) == (List.getD y22.2.2.2.2.2.2.2.2.2.f_Version 7 0)) && (((List.getD y22.2.2.2.2.2.2.2.2.1.f_Version 8 0) == (List.getD y22.2.2.2.2.2.2.2.2.2.f_Version 8 0)) && (((List.getD y22.2.2.2.2.2.2.2.2.1.f_Version 9 0) == (List.getD y22.2.2.2.2.2.2.2.2.2.f_Version 9 0)) && (((List.getD y22.2.2.2.2.2.2.2.2.1.f_Version 10 0) == (List.getD y22.2.2.2.2.2.2.2.2.2.f_Version 10 0)) && ((List.getD y22.2.2.2.2.2.2.2.2.1.f_Version 11 0) == (List.getD y22.2.2.2.2.2.2.2.2.2.f_Version 11 0)))))))))))))) (some (y22.2.1, y22.2.2.2.1, y22.2.2.2.2.1, y22.2.2.2.2.2.1, true, (⟨pack 12 false y22.2.2.2.2.2.2.1.f_Closed, pack 12 0 y22.2.2.2.2.2.2.1.f_Version⟩ : Speriod_Table), (⟨pack 12 false y22.2.2.2.2.2.2.2.1.f_Closed, pack 12 0 y22.2.2.2.2.2.2.2.1.f_Version⟩ : Spyxref11_Table), (⟨pack 12 false y22.2.2.2.2.2.2.2.2.1.f_Closed, pack 12 0 y22.2.2.2.2.2.2.2.2.1.f_Version⟩ : Speriod_Table), (⟨pack 12 false y22.2.2.2.2.2.2.2.2.2.f_Closed, pack 12 0 y22.2.2.2.2.2.2.2.2.2.f_Version⟩ : Spyxref11_Table))) ((period_IsOpen.f k (⟨pack 12 false y22.2.2.2.2.2.2.1.f_Closed, pack 12 0 y22.2.2.2.2.2.2.1.f_Version⟩ : Speriod_Table) y22.1).bind fun t32 => ((pyxref11_Table_IsOpen.f k (⟨pack 12 false y22.2.2.2.2.2.2.2.1.f_Closed, pack 12 0 y22.2.2.2.2.2.2.2.1.f_Version⟩ : Spyxref11_Table) y22.1).bind fun t33 => (some (y22.2.1, y22.2.2.2.1, y22.2.2.2.2.1, y22.2.2.2.2.2.1, !(t32 == t33), (⟨pack 12 false y22.2.2.2.2.2.2.1.f_Closed, pack 12 0 y22.2.2.2.2.2.2.1.f_Version⟩ : Speriod_Table), (⟨pack 12 false y22.2.2.2.2.2.2.2.1.f_Closed, pack 12 0 y22.2.2.2.2.2.2.2.1.f_Version⟩ : Spyxref11_Table), (⟨pack 12 false y22.2.2.2.2.2.2.2.2.1.f_Closed, pack 12 0 y22.2.2.2.2.2.2.2.2.1.f_Version⟩ : Speriod_Table), (⟨pack 12 false y22.2.2.2.2.2.2.2.2.2.f_Closed, pack 12 0 y22.2.2.2.2.2.2.2.2.2.f_Version⟩ : Spyxref11_Table)))))))) : Option (Int × List Int × Int × Int × Bool × Speriod_Table × Spyxref11_Table × Speriod_Table × Spyxref11_Table)).bind fun y34 => (cond (y34.2.2.2.2.1) (some (.inr (.inr false))) (cond (y34.1 == 0) (some (.inl (y34.2.1, y34.2.2.1, IntKind.wrap .i64 (y34.2.2.2.1 + 1), (⟨pack 12 false y34.2.2.2.2.2.2.2.1.f_Closed, pack 12 0 y34.2.2.2.2.2.2.2.1.f_Version⟩ : Speriod_Table), (⟨pack 12 false y34.2.2.2.2.2.2.2.2.f_Closed, pack 12 0 y34.2.2.2.2.2.2.2.2.f_Version⟩ : Spyxref11_Table)))) (some (.inl (y34.2.1, y34.2.2.1, IntKind.wrap .i64 (y34.2.2.2.1 + 1), (⟨pack 12 false y34.2.2.2.2.2.1.f_Closed, pack 12 0 y34.2.2.2.2.2.1.f_Version⟩ : Speriod_Table), (⟨pack 12 false y34.2.2.2.2.2.2.1.f_Closed, pack 12 0 y34.2.2.2.2.2.2.1.f_Version⟩ : Spyxref11_Table)))))))))))) none) (some (.inr (.inl ())))
noncomputable def pyxlaw13_PeriodTells.f (k : Nat) (a0 : List Bool) (a1 : List Int) (a2 : List Int) : Option Bool := (iter (pyxlaw13_PeriodTells.l4.once k) k (a2, (List.length a2 : Int), 0, (⟨pack 12 false a0, pack 12 0 a1⟩ : Speriod_Table), (⟨pack 12 false a0, pack 12 0 a1⟩ : Spyxref11_Table))).bind fun | .inl y36 => ((pyxlaw13_known.f k).bind fun t37 => (some t37)) | .inr y38 => (some y38)
noncomputable def pyxlaw13_PeriodTells.un : List (AV U) → Option (List Bool × List Int × List Int) | [.agg x1, .agg x3, .row C.i64 x5] => ((Cd.arr 12 false Cd.bool).full x1).bind fun x2 => ((Cd.arr 12 0 (Cd.int .i64)).full x3).bind fun x4 => some (x2, x4, x5) | _ => none
noncomputable def pyxlaw13_PeriodTells.mk (x : (List Bool × List Int × List Int)) : List (AV U) := [.agg ((Cd.arr 12 false Cd.bool).enc x.1), .agg ((Cd.arr 12 0 (Cd.int .i64)).enc x.2.1), .row C.i64 x.2.2]
noncomputable def pyxlaw13_PeriodTells.D (k : Nat) : FDen U := { X := (List Bool × List Int × List Int), Y := Bool, un := pyxlaw13_PeriodTells.un, f := fun x => pyxlaw13_PeriodTells.f k (x.1) (x.2.1) (x.2.2), fin := fun y => .flat (.bool y) }
noncomputable def pyxlaw13_PeriodTells.re : AV U → Option Bool | .flat (.bool x1) => some x1 | _ => none
noncomputable def pyxlaw13_PeriodTells.l4.mk (x : (List Int × Int × Int × Speriod_Table × Spyxref11_Table)) : St U := match x with | (x3, x4, x5, x1, x2) => ⟨[(7, .ptr 7 0), (8, .ptr 8 0), (22, .row C.i64 x3), (23, .flat (.int .i64 x4)), (24, .flat (.int .i64 x5))], [(7, .lit (cd_Speriod_Table.enc x1)), (8, .lit (cd_Spyxref11_Table.enc x2))]⟩
noncomputable def pyxlaw13_PeriodTells.l4.un (s : St U) : Option (List Int × Int × Int × Speriod_Table × Spyxref11_Table) := (row_i64 (s.get 22)).bind fun q0 => ((Cd.ofLit cd_Speriod_Table s.o 7).bind fun q1 => ((Cd.ofLit cd_Spyxref11_Table s.o 8).bind fun q2 => (match s.get 7, s.get 8, s.get 23, s.get 24 with | .ptr 7 0, .ptr 8 0, .flat (.int .i64 x4), .flat (.int .i64 x5) => some (q0, x4, x5, q1, q2) | _, _, _, _ => none)))
noncomputable def pyxlaw13_PeriodTells.l4.fin (y : Unit ⊕ Bool) : Out U := match y with | .inl () => .exit 0 ⟨[], []⟩ | .inr z => .ret (.flat (.bool z))
noncomputable def pyxlaw13_PeriodTells.l4.finK {ρ : Type} (y : Unit ⊕ Bool) (K : Out U → Option ρ) : Option ρ := match y with | .inl () => K (.exit 0 ⟨[], []⟩) | .inr z => K (.ret (.flat (.bool z)))
theorem pyxlaw13_PeriodTells.l4.finK_eq {ρ : Type} (y : Unit ⊕ Bool) (K : Out U → Option ρ) : pyxlaw13_PeriodTells.l4.finK y K = K (pyxlaw13_PeriodTells.l4.fin y) := by
  unfold pyxlaw13_PeriodTells.l4.finK pyxlaw13_PeriodTells.l4.fin
  first | rfl | (split <;> rfl)
noncomputable def pyxlaw13_PeriodTells.l4.re : Out U → Option (Unit ⊕ Bool) | .exit 0 s => (some (.inl ())) | .ret v => (match v with | .flat (.bool x1) => some (.inr x1) | _ => none) | _ => none
noncomputable def pyxlaw13_PeriodTells.l4.L (k : Nat) : LDen U := { X := (List Int × Int × Int × Speriod_Table × Spyxref11_Table), Y := Unit ⊕ Bool, un := pyxlaw13_PeriodTells.l4.un, f := iter (pyxlaw13_PeriodTells.l4.once k) k, fin := pyxlaw13_PeriodTells.l4.fin, finK := pyxlaw13_PeriodTells.l4.finK, finK_eq := pyxlaw13_PeriodTells.l4.finK_eq }
noncomputable def pyxlaw13_PeriodTells.j10001.fin (y : (Int × Int × Int × List Int × Int × Int × Speriod_Table × Spyxref11_Table × Speriod_Table × Spyxref11_Table)) : Out U := match y with | (x14, x16, x18, x19, x20, x21, x12, x13, x15, x17) => .norm ⟨[(7, .ptr 7 0), (8, .ptr 8 0), (12, .ptr 12 0), (14, .ptr 14 0), (11, .flat (.int .i64 x14)), (13, .flat (.int .i64 x16)), (15, .flat (.int .i64 x18)), (22, .row C.i64 x19), (23, .flat (.int .i64 x20)), (24, .flat (.int .i64 x21))], [(7, .lit (cd_Speriod_Table.enc x12)), (8, .lit (cd_Spyxref11_Table.enc x13)), (12, .lit (cd_Speriod_Table.enc x15)), (14, .lit (cd_Spyxref11_Table.enc x17))]⟩
noncomputable def pyxlaw13_PeriodTells.j10001.finK {ρ : Type} (y : (Int × Int × Int × List Int × Int × Int × Speriod_Table × Spyxref11_Table × Speriod_Table × Spyxref11_Table)) (K : Out U → Option ρ) : Option ρ := match y with | (x14, x16, x18, x19, x20, x21, x12, x13, x15, x17) => K (.norm ⟨[(7, .ptr 7 0), (8, .ptr 8 0), (12, .ptr 12 0), (14, .ptr 14 0), (11, .flat (.int .i64 x14)), (13, .flat (.int .i64 x16)), (15, .flat (.int .i64 x18)), (22, .row C.i64 x19), (23, .flat (.int .i64 x20)), (24, .flat (.int .i64 x21))], [(7, .lit (cd_Speriod_Table.enc x12)), (8, .lit (cd_Spyxref11_Table.enc x13)), (12, .lit (cd_Speriod_Table.enc x15)), (14, .lit (cd_Spyxref11_Table.enc x17))]⟩)
theorem pyxlaw13_PeriodTells.j10001.finK_eq {ρ : Type} (y : (Int × Int × Int × List Int × Int × Int × Speriod_Table × Spyxref11_Table × Speriod_Table × Spyxref11_Table)) (K : Out U → Option ρ) : pyxlaw13_PeriodTells.j10001.finK y K = K (pyxlaw13_PeriodTells.j10001.fin y) := by
  unfold pyxlaw13_PeriodTells.j10001.finK pyxlaw13_PeriodTells.j10001.fin
  first | rfl | (split <;> rfl)
noncomputable def pyxlaw13_PeriodTells.j10001.re : Out U → Option ((Int × Int × Int × List Int × Int × Int × Speriod_Table × Spyxref11_Table × Speriod_Table × Spyxref11_Table)) | .norm s => ((row_i64 (s.get 22)).bind fun q0 => ((Cd.ofLit cd_Speriod_Table s.o 7).bind fun q1 => ((Cd.ofLit cd_Spyxref11_Table s.o 8).bind fun q2 => ((Cd.ofLit cd_Speriod_Table s.o 12).bind fun q3 => ((Cd.ofLit cd_Spyxref11_Table s.o 14).bind fun q4 => (match s.get 7, s.get 8, s.get 12, s.get 14, s.get 11, s.get 13, s.get 15, s.get 23, s.get 24 with | .ptr 7 0, .ptr 8 0, .ptr 12 0, .ptr 14 0, .flat (.int .i64 x14), .flat (.int .i64 x16), .flat (.int .i64 x18), .flat (.int .i64 x20), .flat (.int .i64 x21) => some (x14, x16, x18, q0, x20, x21, q1, q2, q3, q4) | _, _, _, _, _, _, _, _, _ => none)))))) | _ => none
noncomputable def pyxlaw13_PeriodTells.j10001.J : JDen U := { Y := (Int × Int × Int × List Int × Int × Int × Speriod_Table × Spyxref11_Table × Speriod_Table × Spyxref11_Table), re := pyxlaw13_PeriodTells.j10001.re, fin := pyxlaw13_PeriodTells.j10001.fin, finK := pyxlaw13_PeriodTells.j10001.finK, finK_eq := pyxlaw13_PeriodTells.j10001.finK_eq }
theorem pyxlaw13_PeriodTells.j10001.fit (o : Out U) (y : (Int × Int × Int × List Int × Int × Int × Speriod_Table × Spyxref11_Table × Speriod_Table × Spyxref11_Table)) (h : pyxlaw13_PeriodTells.j10001.re o = some y) : FitsO o (pyxlaw13_PeriodTells.j10001.fin y) := by
  unfold pyxlaw13_PeriodTells.j10001.re at h
  split at h
  · obtain ⟨q0, eq0, h1⟩ := Option.bind_eq_some_iff.1 h
    obtain ⟨q1, eq1, h2⟩ := Option.bind_eq_some_iff.1 h1
    obtain ⟨q2, eq2, h3⟩ := Option.bind_eq_some_iff.1 h2
    obtain ⟨q3, eq3, h4⟩ := Option.bind_eq_some_iff.1 h3
    obtain ⟨q4, eq4, h5⟩ := Option.bind_eq_some_iff.1 h4
    split at h5
    · cases h5
      refine fitsO_norm (fits_ren [] ?_ ?_ ren_nil rfl)
      · exact List.forall_mem_cons.2 ⟨FV.same (by assumption) (fun _ _ _ hh => by cases hh) (fun _ hh => by cases hh), List.forall_mem_cons.2 ⟨FV.same (by assumption) (fun _ _ _ hh => by cases hh) (fun _ hh => by cases hh), List.forall_mem_cons.2 ⟨FV.same (by assumption) (fun _ _ _ hh => by cases hh) (fun _ hh => by cases hh), List.forall_mem_cons.2 ⟨FV.same (by assumption) (fun _ _ _ hh => by cases hh) (fun _ hh => by cases hh), List.forall_mem_cons.2 ⟨FV.same (by assumption) (fun _ _ _ hh => by cases hh) (fun _ hh => by cases hh), List.forall_mem_cons.2 ⟨FV.same (by assumption) (fun _ _ _ hh => by cases hh) (fun _ hh => by cases hh), List.forall_mem_cons.2 ⟨FV.same (by assumption) (fun _ _ _ hh => by cases hh) (fun _ hh => by cases hh), List.forall_mem_cons.2 ⟨row_i64_fit eq0, List.forall_mem_cons.2 ⟨FV.same (by assumption) (fun _ _ _ hh => by cases hh) (fun _ hh => by cases hh), List.forall_mem_cons.2 ⟨FV.same (by assumption) (fun _ _ _ hh => by cases hh) (fun _ hh => by cases hh), fun _ hp => (List.not_mem_nil hp).elim⟩⟩⟩⟩⟩⟩⟩⟩⟩⟩
      · exact List.forall_mem_cons.2 ⟨(Cd.ofLit_ok eq1), List.forall_mem_cons.2 ⟨(Cd.ofLit_ok eq2), List.forall_mem_cons.2 ⟨(Cd.ofLit_ok eq3), List.forall_mem_cons.2 ⟨(Cd.ofLit_ok eq4), fun _ hp => (List.not_mem_nil hp).elim⟩⟩⟩⟩
    · cases h5
  · cases h
noncomputable def pyxlaw13_PeriodTells.j12000.fin (y : (Int × List Int × Int × Int × Bool × Speriod_Table × Spyxref11_Table × Speriod_Table × Spyxref11_Table)) : Out U := match y with | (x26, x28, x29, x30, x31, x23, x24, x25, x27) => .norm ⟨[(7, .ptr 7 0), (8, .ptr 8 0), (12, .ptr 12 0), (14, .ptr 14 0), (13, .flat (.int .i64 x26)), (22, .row C.i64 x28), (23, .flat (.int .i64 x29)), (24, .flat (.int .i64 x30)), (84, .flat (.bool x31))], [(7, .lit (cd_Speriod_Table.enc x23)), (8, .lit (cd_Spyxref11_Table.enc x24)), (12, .lit (cd_Speriod_Table.enc x25)), (14, .lit (cd_Spyxref11_Table.enc x27))]⟩
noncomputable def pyxlaw13_PeriodTells.j12000.finK {ρ : Type} (y : (Int × List Int × Int × Int × Bool × Speriod_Table × Spyxref11_Table × Speriod_Table × Spyxref11_Table)) (K : Out U → Option ρ) : Option ρ := match y with | (x26, x28, x29, x30, x31, x23, x24, x25, x27) => K (.norm ⟨[(7, .ptr 7 0), (8, .ptr 8 0), (12, .ptr 12 0), (14, .ptr 14 0), (13, .flat (.int .i64 x26)), (22, .row C.i64 x28), (23, .flat (.int .i64 x29)), (24, .flat (.int .i64 x30)), (84, .flat (.bool x31))], [(7, .lit (cd_Speriod_Table.enc x23)), (8, .lit (cd_Spyxref11_Table.enc x24)), (12, .lit (cd_Speriod_Table.enc x25)), (14, .lit (cd_Spyxref11_Table.enc x27))]⟩)
theorem pyxlaw13_PeriodTells.j12000.finK_eq {ρ : Type} (y : (Int × List Int × Int × Int × Bool × Speriod_Table × Spyxref11_Table × Speriod_Table × Spyxref11_Table)) (K : Out U → Option ρ) : pyxlaw13_PeriodTells.j12000.finK y K = K (pyxlaw13_PeriodTells.j12000.fin y) := by
  unfold pyxlaw13_PeriodTells.j12000.finK pyxlaw13_PeriodTells.j12000.fin
  first | rfl | (split <;> rfl)
noncomputable def pyxlaw13_PeriodTells.j12000.re : Out U → Option ((Int × List Int × Int × Int × Bool × Speriod_Table × Spyxref11_Table × Speriod_Table × Spyxref11_Table)) | .norm s => ((row_i64 (s.get 22)).bind fun q0 => ((Cd.ofLit cd_Speriod_Table s.o 7).bind fun q1 => ((Cd.ofLit cd_Spyxref11_Table s.o 8).bind fun q2 => ((Cd.ofLit cd_Speriod_Table s.o 12).bind fun q3 => ((Cd.ofLit cd_Spyxref11_Table s.o 14).bind fun q4 => (match s.get 7, s.get 8, s.get 12, s.get 14, s.get 13, s.get 23, s.get 24, s.get 84 with | .ptr 7 0, .ptr 8 0, .ptr 12 0, .ptr 14 0, .flat (.int .i64 x26), .flat (.int .i64 x29), .flat (.int .i64 x30), .flat (.bool x31) => some (x26, q0, x29, x30, x31, q1, q2, q3, q4) | _, _, _, _, _, _, _, _ => none)))))) | _ => none
noncomputable def pyxlaw13_PeriodTells.j12000.J : JDen U := { Y := (Int × List Int × Int × Int × Bool × Speriod_Table × Spyxref11_Table × Speriod_Table × Spyxref11_Table), re := pyxlaw13_PeriodTells.j12000.re, fin := pyxlaw13_PeriodTells.j12000.fin, finK := pyxlaw13_PeriodTells.j12000.finK, finK_eq := pyxlaw13_PeriodTells.j12000.finK_eq }
theorem pyxlaw13_PeriodTells.j12000.fit (o : Out U) (y : (Int × List Int × Int × Int × Bool × Speriod_Table × Spyxref11_Table × Speriod_Table × Spyxref11_Table)) (h : pyxlaw13_PeriodTells.j12000.re o = some y) : FitsO o (pyxlaw13_PeriodTells.j12000.fin y) := by
  unfold pyxlaw13_PeriodTells.j12000.re at h
  split at h
  · obtain ⟨q0, eq0, h1⟩ := Option.bind_eq_some_iff.1 h
    obtain ⟨q1, eq1, h2⟩ := Option.bind_eq_some_iff.1 h1
    obtain ⟨q2, eq2, h3⟩ := Option.bind_eq_some_iff.1 h2
    obtain ⟨q3, eq3, h4⟩ := Option.bind_eq_some_iff.1 h3
    obtain ⟨q4, eq4, h5⟩ := Option.bind_eq_some_iff.1 h4
    split at h5
    · cases h5
      refine fitsO_norm (fits_ren [] ?_ ?_ ren_nil rfl)
      · exact List.forall_mem_cons.2 ⟨FV.same (by assumption) (fun _ _ _ hh => by cases hh) (fun _ hh => by cases hh), List.forall_mem_cons.2 ⟨FV.same (by assumption) (fun _ _ _ hh => by cases hh) (fun _ hh => by cases hh), List.forall_mem_cons.2 ⟨FV.same (by assumption) (fun _ _ _ hh => by cases hh) (fun _ hh => by cases hh), List.forall_mem_cons.2 ⟨FV.same (by assumption) (fun _ _ _ hh => by cases hh) (fun _ hh => by cases hh), List.forall_mem_cons.2 ⟨FV.same (by assumption) (fun _ _ _ hh => by cases hh) (fun _ hh => by cases hh), List.forall_mem_cons.2 ⟨row_i64_fit eq0, List.forall_mem_cons.2 ⟨FV.same (by assumption) (fun _ _ _ hh => by cases hh) (fun _ hh => by cases hh), List.forall_mem_cons.2 ⟨FV.same (by assumption) (fun _ _ _ hh => by cases hh) (fun _ hh => by cases hh), List.forall_mem_cons.2 ⟨FV.same (by assumption) (fun _ _ _ hh => by cases hh) (fun _ hh => by cases hh), fun _ hp => (List.not_mem_nil hp).elim⟩⟩⟩⟩⟩⟩⟩⟩⟩
      · exact List.forall_mem_cons.2 ⟨(Cd.ofLit_ok eq1), List.forall_mem_cons.2 ⟨(Cd.ofLit_ok eq2), List.forall_mem_cons.2 ⟨(Cd.ofLit_ok eq3), List.forall_mem_cons.2 ⟨(Cd.ofLit_ok eq4), fun _ hp => (List.not_mem_nil hp).elim⟩⟩⟩⟩
    · cases h5
  · cases h
noncomputable def pyxlaw13_PeriodTells.jl : List (Nat × JDen U) := [(10001, pyxlaw13_PeriodTells.j10001.J), (12000, pyxlaw13_PeriodTells.j12000.J)]
noncomputable def pyxlaw13_PeriodTells.fl (k : Nat) : List (Nat × FDen U) := [(22, pyxhand_Pick.D k), (18, period_Close.D k), (23, pyxref11_Table_Close.D k), (19, period_Reopen.D k), (24, pyxref11_Table_Reopen.D k), (21, period_IsOpen.D k), (25, pyxref11_Table_IsOpen.D k), (20, pyxlaw13_known.D k)]
noncomputable def pyxlaw13_PeriodTells.ll (k : Nat) : List (Nat × LDen U) := [(4, pyxlaw13_PeriodTells.l4.L k)]
noncomputable def pyxlaw13_PeriodTells.E (k : Nat) : Env U := { P := Try.prog, D := DD, fd := lk (pyxlaw13_PeriodTells.fl k), ld := lk (pyxlaw13_PeriodTells.ll k), jd := lk pyxlaw13_PeriodTells.jl, mode := lk [], elc := lk ec, dyn := fun t => false, vecs := fun d => false, results := Try.f6.results.toList }
theorem pyxlaw13_PeriodTells.ok (k : Nat) : EnvOk (pyxlaw13_PeriodTells.E k) := envOk lawful (pyxlaw13_PeriodTells.fl k) (pyxlaw13_PeriodTells.ll k) pyxlaw13_PeriodTells.jl _ _ _ _ _ (by
  intro p hp
  simp only [pyxlaw13_PeriodTells.fl, List.mem_cons, List.not_mem_nil, or_false] at hp
  rcases hp with rfl | rfl | rfl | rfl | rfl | rfl | rfl | rfl
  · exact ⟨pyxhand_Pick.sound k, enter_of Try.func22 (by kernel_rfl) (by kernel_rfl)⟩
  · exact ⟨period_Close.sound k, enter_of Try.func18 (by kernel_rfl) (by kernel_rfl)⟩
  · exact ⟨pyxref11_Table_Close.sound k, enter_of Try.func23 (by kernel_rfl) (by kernel_rfl)⟩
  · exact ⟨period_Reopen.sound k, enter_of Try.func19 (by kernel_rfl) (by kernel_rfl)⟩
  · exact ⟨pyxref11_Table_Reopen.sound k, enter_of Try.func24 (by kernel_rfl) (by kernel_rfl)⟩
  · exact ⟨period_IsOpen.sound k, enter_of Try.func21 (by kernel_rfl) (by kernel_rfl)⟩
  · exact ⟨pyxref11_Table_IsOpen.sound k, enter_of Try.func25 (by kernel_rfl) (by kernel_rfl)⟩
  · exact ⟨pyxlaw13_known.sound k, enter_of Try.func20 (by kernel_rfl) (by kernel_rfl)⟩) (by
  intro p hp
  simp only [pyxlaw13_PeriodTells.jl, List.mem_cons, List.not_mem_nil, or_false] at hp
  rcases hp with rfl | rfl
  · exact pyxlaw13_PeriodTells.j10001.fit
  · exact pyxlaw13_PeriodTells.j12000.fit)
theorem pyxlaw13_PeriodTells.l4.eq (k : Nat) (x : (List Int × Int × Int × Speriod_Table × Spyxref11_Table)) : evC (pyxlaw13_PeriodTells.E k) (loopAt Try.f6 4) (pyxlaw13_PeriodTells.l4.mk x) (headK pyxlaw13_PeriodTells.l4.un pyxlaw13_PeriodTells.l4.re) = pyxlaw13_PeriodTells.l4.once k x := by kernel_rfl
theorem pyxlaw13_PeriodTells.l4.fit (s : St U) (x : (List Int × Int × Int × Speriod_Table × Spyxref11_Table)) (h : pyxlaw13_PeriodTells.l4.un s = some x) : Fits s (pyxlaw13_PeriodTells.l4.mk x) := by
  unfold pyxlaw13_PeriodTells.l4.un at h
  obtain ⟨q0, eq0, h1⟩ := Option.bind_eq_some_iff.1 h
  obtain ⟨q1, eq1, h2⟩ := Option.bind_eq_some_iff.1 h1
  obtain ⟨q2, eq2, h3⟩ := Option.bind_eq_some_iff.1 h2
  split at h3
  · cases h3
    refine fits_ren [] ?_ ?_ ren_nil rfl
    · exact List.forall_mem_cons.2 ⟨FV.same (by assumption) (fun _ _ _ hh => by cases hh) (fun _ hh => by cases hh), List.forall_mem_cons.2 ⟨FV.same (by assumption) (fun _ _ _ hh => by cases hh) (fun _ hh => by cases hh), List.forall_mem_cons.2 ⟨row_i64_fit eq0, List.forall_mem_cons.2 ⟨FV.same (by assumption) (fun _ _ _ hh => by cases hh) (fun _ hh => by cases hh), List.forall_mem_cons.2 ⟨FV.same (by assumption) (fun _ _ _ hh => by cases hh) (fun _ hh => by cases hh), fun _ hp => (List.not_mem_nil hp).elim⟩⟩⟩⟩⟩
    · exact List.forall_mem_cons.2 ⟨(Cd.ofLit_ok eq1), List.forall_mem_cons.2 ⟨(Cd.ofLit_ok eq2), fun _ hp => (List.not_mem_nil hp).elim⟩⟩
  · cases h3
theorem pyxlaw13_PeriodTells.l4.fitO (o : Out U) (y : Unit ⊕ Bool) (h : pyxlaw13_PeriodTells.l4.re o = some y) : FitsO o (pyxlaw13_PeriodTells.l4.fin y) := by
  unfold pyxlaw13_PeriodTells.l4.re at h
  split at h
  · cases h
    refine fitsO_exit (fits_ren [] ?_ ?_ ren_nil rfl)
    · exact fun _ hp => (List.not_mem_nil hp).elim
    · exact fun _ hp => (List.not_mem_nil hp).elim
  · split at h
    · cases h; exact fitsO_ret
    · cases h
  · cases h
theorem pyxlaw13_PeriodTells.l4.sound (k : Nat) : LSound (pyxlaw13_PeriodTells.E k) Try.f6.ntmps Try.f6 (loopAt Try.f6 4) (pyxlaw13_PeriodTells.l4.L k) :=
  loop_sound (pyxlaw13_PeriodTells.ok k) mixed rfl (by kernel_rfl) (allL_of (l := []) (by kernel_rfl) allL_nil) pyxlaw13_PeriodTells.l4.un pyxlaw13_PeriodTells.l4.mk pyxlaw13_PeriodTells.l4.fin pyxlaw13_PeriodTells.l4.re (pyxlaw13_PeriodTells.l4.once k) k pyxlaw13_PeriodTells.l4.fit pyxlaw13_PeriodTells.l4.fitO (pyxlaw13_PeriodTells.l4.eq k) pyxlaw13_PeriodTells.l4.finK pyxlaw13_PeriodTells.l4.finK_eq
theorem pyxlaw13_PeriodTells.eq (k : Nat) (x : (List Bool × List Int × List Int)) : runF (pyxlaw13_PeriodTells.E k) (codeOf Try.f6) (pyxlaw13_PeriodTells.mk x) pyxlaw13_PeriodTells.re = (pyxlaw13_PeriodTells.D k).f x := by kernel_rfl
theorem pyxlaw13_PeriodTells.sound (k : Nat) : Sound Try.prog DD 6 (pyxlaw13_PeriodTells.D k) :=
  fun_sound (E := pyxlaw13_PeriodTells.E k) (fn := Try.f6) (c := codeOf Try.f6) (pyxlaw13_PeriodTells.ok k) mixed rfl Try.func6 (by kernel_rfl) (by kernel_rfl) (allL_of (l := [loopAt Try.f6 4]) (by kernel_rfl) (allL_cons (key := 4) (by kernel_rfl) rfl (pyxlaw13_PeriodTells.l4.sound k) allL_nil)) (pyxlaw13_PeriodTells.D k) pyxlaw13_PeriodTells.mk pyxlaw13_PeriodTells.re
    (by intro args x h; replace h : pyxlaw13_PeriodTells.un args = some x := h; unfold pyxlaw13_PeriodTells.un at h; split at h; · obtain ⟨x2, hb0, h0⟩ := Option.bind_eq_some_iff.1 h; have hc0 := Cd.full_ok hb0; clear h; subst hc0; obtain ⟨x4, hb1, h1⟩ := Option.bind_eq_some_iff.1 h0; have hc1 := Cd.full_ok hb1; clear h0; subst hc1; cases h1; rfl
        · cases h)
    (by intro v y h; unfold pyxlaw13_PeriodTells.re at h; split at h; · cases h; rfl
        · cases h)
    (fun _ => rfl) (fun x => Nat.le_of_ble_eq_true (by kernel_rfl)) (pyxlaw13_PeriodTells.eq k)
/-! ### pyx/pyxlaw13.PeriodFirst: function 7 -/
noncomputable def pyxlaw13_PeriodFirst.l16.once (k : Nat) (x : (Int × List Int × Int × Int × Speriod_Table × List Int)) : Option ((Int × List Int × Int × Int × Speriod_Table × List Int) ⊕ ((List Int × Int × Int × Speriod_Table × List Int) ⊕ Bool)) := match x with | (x18, x19, x20, x21, x16, x17) => cond (decide (x18 < 12)) (((cond (inb x18 12) (cond (Nat.blt (Int.toNat x18) 12) (cond (List.getD (pack 12 false x16.f_Closed) (Int.toNat x18) false) (cond (inb (IntKind.wrap .i64 (x18 - 1)) 12) (cond (Nat.blt (Int.toNat (IntKind.wrap .i64 (x18 - 1))) 12) (some (x18, x19, x20, x21, !(List.getD (pack 12 false x16.f_Closed) (Int.toNat (IntKind.wrap .i64 (x18 - 1))) false), (⟨pack 12 false x16.f_Closed, pack 12 0 x16.f_Version⟩ : Speriod_Table), x17)) none) none) (some (x18, x19, x20, x21, false, (⟨pack 12 false x16.f_Closed, pack 12 0 x16.f_Version⟩ : Speriod_Table), x17))) none) none) : Option (Int × List Int × Int × Int × Bool × Speriod_Table × List Int)).bind fun y29 => (cond (y29.2.2.2.2.1) (some (.inr (.inr false))) (some (.inl (IntKind.wrap .i64 (y29.1 + 1), y29.2.1, y29.2.2.1, y29.2.2.2.1, (⟨pack 12 false y29.2.2.2.2.2.1.f_Closed, pack 12 0 y29.2.2.2.2.2.1.f_Version⟩ : Speriod_Table), y29.2.2.2.2.2.2))))) (some (.inr (.inl (x19, x20, x21, (⟨pack 12 false x16.f_Closed, pack 12 0 x16.f_Version⟩ : Speriod_Table), x17))))
noncomputable def pyxlaw13_PeriodFirst.l4.once (k : Nat) (x : (List Int × Int × Int × Speriod_Table × List Int)) : Option ((List Int × Int × Int × Speriod_Table × List Int) ⊕ (Unit ⊕ Bool)) := match x with | (x3, x4, x5, x1, x2) => cond (decide (x5 < x4)) (cond (inb x5 (List.length x3)) ((pyxhand_Pick.f k (IntKind.wrap .i64 (Int.tdiv (List.getD x3 (Int.toNat x5) 0) 2)) 13).bind fun t6 => ((pyxhand_Pick.f k (List.getD x3 (Int.toNat x5) 0) 2).bind fun t7 => (((cond (t7 == 1) ((period_Reopen.f k (⟨pack 12 false x1.f_Closed, pack 12 0 x1.f_Version⟩ : Speriod_Table) t6).bind fun t8 => (cond (t8.2 == 0) (some (x3, x4, x5, (⟨pack 12 false t8.1.f_Closed, pack 12 0 t8.1.f_Version⟩ : Speriod_Table), x2)) (some (x3, x4, x5, (⟨pack 12 false x1.f_Closed, pack 12 0 x1.f_Version⟩ : Speriod_Table), x2)))) ((period_Close.f k (⟨pack 12 false x1.f_Closed, pack 12 0 x1.f_Version⟩ : Speriod_Table) t6).bind fun t14 => (cond (t14.2 == 0) (cond (inb t6 12) (cond (Nat.blt (Int.toNat t6) 12) (cond (inb t6 12) (cond (Nat.blt (Int.toNat t6) 12) (some (x3, x4, x5, (⟨pack 12 false t14.1.f_Closed, pack 12 0 t14.1.f_Version⟩ : Speriod_Table), List.set x2 (Int.toNat t6) (IntKind.wrap .i64 ((List.getD x2 (Int.toNat t6) 0) + 1)))) none) none) none) none) (some (x3, x4, x5, (⟨pack 12 false x1.f_Closed, pack 12 0 x1.f_Version⟩ : Speriod_Table), x2))))) : Option (List Int × Int × Int × Speriod_Table × List Int)).bind fun y15 => ((iter (pyxlaw13_PeriodFirst.l16.once k) k (1, y15.1, y15.2.1, y15.2.2.1, (⟨pack 12 false y15.2.2.2.1.f_Closed, pack 12 0 y15.2.2.2.1.f_Version⟩ : Speriod_Table), y15.2.2.2.2)).bind fun | .inl y36 => (((cond (!(((List.getD y36.2.2.2.1.f_Version 0 0) == (List.getD y36.2.2.2.2 0 0)) && (((List.getD y36.2.2.2.1.f_Version 1 0) == (List.getD y36.2.2.2.2 1 0)) && (((List.getD y36.2.2.2.1.f_Version 2 0) == (List.getD y36.2.2.2.2 2 0)) && (((List.getD y36.2.2.2.1.f_Version 3 0) == (List.getD y36.2.2.2.2 3 0)) && (((List.getD y36.2.2.2.1.f_Version 4 0) == (List.getD y36.2.2.2.2 4 0)) && (((List.getD y36.2.2.2.1.f_Version 5 0) == (List.getD y36.2.2.2.2 5 0)) && (((List.getD y36.2.2.2.1.f_Version 6 0) == (List.getD y36.2.2.2.2 6 0)) && (((List.getD y36.2.2.2.1.f_Version 7 0) == (List.getD y36.2.2.2.2 7 0)) && (((List.getD y36.2.2.2.1.f_Version 8 0) == (List.getD y36.2.2.2.2 8 0)) && (((List.getD y36.2.2.2.1.f_Version 9 0) == (List.getD y36.2.2.2.2 9 0)) && (((List.getD y36.2.2.2.1.f_Version 10 0) == (List.getD y36.2.2.2.2 10 0)) && ((List.getD y36.2.2.2.1.f_Version 11 0) == (List.getD y36.2.2.2.2 11 0)))))))))))))) (some (y36.1, y36.2.1, y36.2.2.1, true, (⟨pack 12 false y36.2.2.2.1.f_Closed, pack 12 0 y36.2.2.2.1.f_Version⟩ : Speriod_Table), y36.2.2.2.2)) ((pyxlaw13_known.f k).bind fun t43 => (some (y36.1, y36.2.1, y36.2.2.1, !t43, (⟨pack 12 false y36.2.2.2.1.f_Closed, pack 12 0 y36.2.2.2.1.f_Version⟩ : Speriod_Table), y36.2.2.2.2)))) : Option (List Int × Int × Int × Bool × Speriod_Table × List Int)).bind fun y44 => (cond (y44.2.2.2.1) (some (.inr (.inr false))) (some (.inl (y44.1, y44.2.1, IntKind.wrap .i64 (y44.2.2.1 + 1), (⟨pack 12 false y44.2.2.2.2.1.f_Closed, pack 12 0 y44.2.2.2.2.1.f_Version⟩ : Speriod_Table), y44.2.2.2.2.2))))) | .inr y45 => (some (.inr (.inr y45))))))) none) (some (.inr (.inl ())))
noncomputable def pyxlaw13_PeriodFirst.f (k : Nat) (a0 : List Int) : Option Bool := (iter (pyxlaw13_PeriodFirst.l4.once k) k (a0, (List.length a0 : Int), 0, (⟨[false, false, false, false, false, false, false, false, false, false, false, false], [0, 0, 0, 0, 0, 0, 0, 0, 0, 0, 0, 0]⟩ : Speriod_Table), [0, 0, 0, 0, 0, 0, 0, 0, 0, 0, 0, 0])).bind fun | .inl y47 => ((pyxlaw13_known.f k).bind fun t48 => (some t48)) | .inr y49 => (some y49)
noncomputable def pyxlaw13_PeriodFirst.un : List (AV U) → Option (List Int) | [.row C.i64 x1] => some x1 | _ => none
noncomputable def pyxlaw13_PeriodFirst.mk (x : List Int) : List (AV U) := [.row C.i64 x]
noncomputable def pyxlaw13_PeriodFirst.D (k : Nat) : FDen U := { X := List Int, Y := Bool, un := pyxlaw13_PeriodFirst.un, f := fun x => pyxlaw13_PeriodFirst.f k (x), fin := fun y => .flat (.bool y) }
noncomputable def pyxlaw13_PeriodFirst.re : AV U → Option Bool | .flat (.bool x1) => some x1 | _ => none
noncomputable def pyxlaw13_PeriodFirst.l16.mk (x : (Int × List Int × Int × Int × Speriod_Table × List Int)) : St U := match x with | (x18, x19, x20, x21, x16, x17) => ⟨[(3, .ptr 3 0), (4, .ptr 4 0), (12, .flat (.int .i64 x18)), (14, .row C.i64 x19), (15, .flat (.int .i64 x20)), (16, .flat (.int .i64 x21))], [(3, .lit (cd_Speriod_Table.enc x16)), (4, .arr 12 C.i64 x17)]⟩
noncomputable def pyxlaw13_PeriodFirst.l16.un (s : St U) : Option (Int × List Int × Int × Int × Speriod_Table × List Int) := (row_i64 (s.get 14)).bind fun q0 => ((Cd.ofLit cd_Speriod_Table s.o 3).bind fun q1 => (match s.get 3, s.get 4, s.get 12, s.get 15, s.get 16, lk s.o 4 with | .ptr 3 0, .ptr 4 0, .flat (.int .i64 x18), .flat (.int .i64 x20), .flat (.int .i64 x21), some (.arr 12 C.i64 x17) => some (x18, q0, x20, x21, q1, x17) | _, _, _, _, _, _ => none))
noncomputable def pyxlaw13_PeriodFirst.l16.fin (y : (List Int × Int × Int × Speriod_Table × List Int) ⊕ Bool) : Out U := match y with | .inl (x32, x33, x34, x30, x31) => .exit 2 ⟨[(3, .ptr 3 0), (4, .ptr 4 0), (14, .row C.i64 x32), (15, .flat (.int .i64 x33)), (16, .flat (.int .i64 x34))], [(3, .lit (cd_Speriod_Table.enc x30)), (4, .arr 12 C.i64 x31)]⟩ | .inr z => .ret (.flat (.bool z))
noncomputable def pyxlaw13_PeriodFirst.l16.finK {ρ : Type} (y : (List Int × Int × Int × Speriod_Table × List Int) ⊕ Bool) (K : Out U → Option ρ) : Option ρ := match y with | .inl (x32, x33, x34, x30, x31) => K (.exit 2 ⟨[(3, .ptr 3 0), (4, .ptr 4 0), (14, .row C.i64 x32), (15, .flat (.int .i64 x33)), (16, .flat (.int .i64 x34))], [(3, .lit (cd_Speriod_Table.enc x30)), (4, .arr 12 C.i64 x31)]⟩) | .inr z => K (.ret (.flat (.bool z)))
theorem pyxlaw13_PeriodFirst.l16.finK_eq {ρ : Type} (y : (List Int × Int × Int × Speriod_Table × List Int) ⊕ Bool) (K : Out U → Option ρ) : pyxlaw13_PeriodFirst.l16.finK y K = K (pyxlaw13_PeriodFirst.l16.fin y) := by
  unfold pyxlaw13_PeriodFirst.l16.finK pyxlaw13_PeriodFirst.l16.fin
  first | rfl | (split <;> rfl)
noncomputable def pyxlaw13_PeriodFirst.l16.re : Out U → Option ((List Int × Int × Int × Speriod_Table × List Int) ⊕ Bool) | .exit 2 s => ((row_i64 (s.get 14)).bind fun q0 => ((Cd.ofLit cd_Speriod_Table s.o 3).bind fun q1 => (match s.get 3, s.get 4, s.get 15, s.get 16, lk s.o 4 with | .ptr 3 0, .ptr 4 0, .flat (.int .i64 x33), .flat (.int .i64 x34), some (.arr 12 C.i64 x31) => some (.inl (q0, x33, x34, q1, x31)) | _, _, _, _, _ => none))) | .ret v => (match v with | .flat (.bool x1) => some (.inr x1) | _ => none) | _ => none
noncomputable def pyxlaw13_PeriodFirst.l16.L (k : Nat) : LDen U := { X := (Int × List Int × Int × Int × Speriod_Table × List Int), Y := (List Int × Int × Int × Speriod_Table × List Int) ⊕ Bool, un := pyxlaw13_PeriodFirst.l16.un, f := iter (pyxlaw13_PeriodFirst.l16.once k) k, fin := pyxlaw13_PeriodFirst.l16.fin, finK := pyxlaw13_PeriodFirst.l16.finK, finK_eq := pyxlaw13_PeriodFirst.l16.finK_eq }
noncomputable def pyxlaw13_PeriodFirst.l4.mk (x : (List Int × Int × Int × Speriod_Table × List Int)) : St U := match x with | (x3, x4, x5, x1, x2) => ⟨[(3, .ptr 3 0), (4, .ptr 4 0), (14, .row C.i64 x3), (15, .flat (.int .i64 x4)), (16, .flat (.int .i64 x5))], [(3, .lit (cd_Speriod_Table.enc x1)), (4, .arr 12 C.i64 x2)]⟩
noncomputable def pyxlaw13_PeriodFirst.l4.un (s : St U) : Option (List Int × Int × Int × Speriod_Table × List Int) := (row_i64 (s.get 14)).bind fun q0 => ((Cd.ofLit cd_Speriod_Table s.o 3).bind fun q1 => (match s.get 3, s.get 4, s.get 15, s.get 16, lk s.o 4 with | .ptr 3 0, .ptr 4 0, .flat (.int .i64 x4), .flat (.int .i64 x5), some (.arr 12 C.i64 x2) => some (q0, x4, x5, q1, x2) | _, _, _, _, _ => none))
noncomputable def pyxlaw13_PeriodFirst.l4.fin (y : Unit ⊕ Bool) : Out U := match y with | .inl () => .exit 0 ⟨[], []⟩ | .inr z => .ret (.flat (.bool z))
noncomputable def pyxlaw13_PeriodFirst.l4.finK {ρ : Type} (y : Unit ⊕ Bool) (K : Out U → Option ρ) : Option ρ := match y with | .inl () => K (.exit 0 ⟨[], []⟩) | .inr z => K (.ret (.flat (.bool z)))
theorem pyxlaw13_PeriodFirst.l4.finK_eq {ρ : Type} (y : Unit ⊕ Bool) (K : Out U → Option ρ) : pyxlaw13_PeriodFirst.l4.finK y K = K (pyxlaw13_PeriodFirst.l4.fin y) := by
  unfold pyxlaw13_PeriodFirst.l4.finK pyxlaw13_PeriodFirst.l4.fin
  first | rfl | (split <;> rfl)
noncomputable def pyxlaw13_PeriodFirst.l4.re : Out U → Option (Unit ⊕ Bool) | .exit 0 s => (some (.inl ())) | .ret v => (match v with | .flat (.bool x1) => some (.inr x1) | _ => none) | _ => none
noncomputable def pyxlaw13_PeriodFirst.l4.L (k : Nat) : LDen U := { X := (List Int × Int × Int × Speriod_Table × List Int), Y := Unit ⊕ Bool, un := pyxlaw13_PeriodFirst.l4.un, f := iter (pyxlaw13_PeriodFirst.l4.once k) k, fin := pyxlaw13_PeriodFirst.l4.fin, finK := pyxlaw13_PeriodFirst.l4.finK, finK_eq := pyxlaw13_PeriodFirst.l4.finK_eq }
noncomputable def pyxlaw13_PeriodFirst.j8001.fin (y : (List Int × Int × Int × Speriod_Table × List Int)) : Out U := match y with | (x11, x12, x13, x9, x10) => .norm ⟨[(3, .ptr 3 0), (4, .ptr 4 0), (14, .row C.i64 x11), (15, .flat (.int .i64 x12)), (16, .flat (.int .i64 x13))], [(3, .lit (cd_Speriod_Table.enc x9)), (4, .arr 12 C.i64 x10)]⟩
noncomputable def pyxlaw13_PeriodFirst.j8001.finK {ρ : Type} (y : (List Int × Int × Int × Speriod_Table × List Int)) (K : Out U → Option ρ) : Option ρ := match y with | (x11, x12, x13, x9, x10) => K (.norm ⟨[(3, .ptr 3 0), (4, .ptr 4 0), (14, .row C.i64 x11), (15, .flat (.int .i64 x12)), (16, .flat (.int .i64 x13))], [(3, .lit (cd_Speriod_Table.enc x9)), (4, .arr 12 C.i64 x10)]⟩)
theorem pyxlaw13_PeriodFirst.j8001.finK_eq {ρ : Type} (y : (List Int × Int × Int × Speriod_Table × List Int)) (K : Out U → Option ρ) : pyxlaw13_PeriodFirst.j8001.finK y K = K (pyxlaw13_PeriodFirst.j8001.fin y) := by
  unfold pyxlaw13_PeriodFirst.j8001.finK pyxlaw13_PeriodFirst.j8001.fin
  first | rfl | (split <;> rfl)
noncomputable def pyxlaw13_PeriodFirst.j8001.re : Out U → Option ((List Int × Int × Int × Speriod_Table × List Int)) | .norm s => ((row_i64 (s.get 14)).bind fun q0 => ((Cd.ofLit cd_Speriod_Table s.o 3).bind fun q1 => (match s.get 3, s.get 4, s.get 15, s.get 16, lk s.o 4 with | .ptr 3 0, .ptr 4 0, .flat (.int .i64 x12), .flat (.int .i64 x13), some (.arr 12 C.i64 x10) => some (q0, x12, x13, q1, x10) | _, _, _, _, _ => none))) | _ => none
noncomputable def pyxlaw13_PeriodFirst.j8001.J : JDen U := { Y := (List Int × Int × Int × Speriod_Table × List Int), re := pyxlaw13_PeriodFirst.j8001.re, fin := pyxlaw13_PeriodFirst.j8001.fin, finK := pyxlaw13_PeriodFirst.j8001.finK, finK_eq := pyxlaw13_PeriodFirst.j8001.finK_eq }
theorem pyxlaw13_PeriodFirst.j8001.fit (o : Out U) (y : (List Int × Int × Int × Speriod_Table × List Int)) (h : pyxlaw13_PeriodFirst.j8001.re o = some y) : FitsO o (pyxlaw13_PeriodFirst.j8001.fin y) := by
  unfold pyxlaw13_PeriodFirst.j8001.re at h
  split at h
  · obtain ⟨q0, eq0, h1⟩ := Option.bind_eq_some_iff.1 h
    obtain ⟨q1, eq1, h2⟩ := Option.bind_eq_some_iff.1 h1
    split at h2
    · cases h2
      refine fitsO_norm (fits_ren [] ?_ ?_ ren_nil rfl)
      · exact List.forall_mem_cons.2 ⟨FV.same (by assumption) (fun _ _ _ hh => by cases hh) (fun _ hh => by cases hh), List.forall_mem_cons.2 ⟨FV.same (by assumption) (fun _ _ _ hh => by cases hh) (fun _ hh => by cases hh), List.forall_mem_cons.2 ⟨row_i64_fit eq0, List.forall_mem_cons.2 ⟨FV.same (by assumption) (fun _ _ _ hh => by cases hh) (fun _ hh => by cases hh), List.forall_mem_cons.2 ⟨FV.same (by assumption) (fun _ _ _ hh => by cases hh) (fun _ hh => by cases hh), fun _ hp => (List.not_mem_nil hp).elim⟩⟩⟩⟩⟩
      · exact List.forall_mem_cons.2 ⟨(Cd.ofLit_ok eq1), List.forall_mem_cons.2 ⟨(show lk (St.o _) 4 = some _ from by assumption), fun _ hp => (List.not_mem_nil hp).elim⟩⟩
    · cases h2
  · cases h
noncomputable def pyxlaw13_PeriodFirst.j18000.fin (y : (Int × List Int × Int × Int × Bool × Speriod_Table × List Int)) : Out U := match y with | (x24, x25, x26, x27, x28, x22, x23) => .norm ⟨[(3, .ptr 3 0), (4, .ptr 4 0), (12, .flat (.int .i64 x24)), (14, .row C.i64 x25), (15, .flat (.int .i64 x26)), (16, .flat (.int .i64 x27)), (64, .flat (.bool x28))], [(3, .lit (cd_Speriod_Table.enc x22)), (4, .arr 12 C.i64 x23)]⟩
noncomputable def pyxlaw13_PeriodFirst.j18000.finK {ρ : Type} (y : (Int × List Int × Int × Int × Bool × Speriod_Table × List Int)) (K : Out U → Option ρ) : Option ρ := match y with | (x24, x25, x26, x27, x28, x22, x23) => K (.norm ⟨[(3, .ptr 3 0), (4, .ptr 4 0), (12, .flat (.int .i64 x24)), (14, .row C.i64 x25), (15, .flat (.int .i64 x26)), (16, .flat (.int .i64 x27)), (64, .flat (.bool x28))], [(3, .lit (cd_Speriod_Table.enc x22)), (4, .arr 12 C.i64 x23)]⟩)
theorem pyxlaw13_PeriodFirst.j18000.finK_eq {ρ : Type} (y : (Int × List Int × Int × Int × Bool × Speriod_Table × List Int)) (K : Out U → Option ρ) : pyxlaw13_PeriodFirst.j18000.finK y K = K (pyxlaw13_PeriodFirst.j18000.fin y) := by
  unfold pyxlaw13_PeriodFirst.j18000.finK pyxlaw13_PeriodFirst.j18000.fin
  first | rfl | (split <;> rfl)
noncomputable def pyxlaw13_PeriodFirst.j18000.re : Out U → Option ((Int × List Int × Int × Int × Bool × Speriod_Table × List Int)) | .norm s => ((row_i64 (s.get 14)).bind fun q0 => ((Cd.ofLit cd_Speriod_Table s.o 3).bind fun q1 => (match s.get 3, s.get 4, s.get 12, s.get 15, s.get 16, s.get 64, lk s.o 4 with | .ptr 3 0, .ptr 4 0, .flat (.int .i64 x24), .flat (.int .i64 x26), .flat (.int .i64 x27), .flat (.bool x28), some (.arr 12 C.i64 x23) => some (x24, q0, x26, x27, x28, q1, x23) | _, _, _, _, _, _, _ => none))) | _ => none
noncomputable def pyxlaw13_PeriodFirst.j18000.J : JDen U := { Y := (Int × List Int × Int × Int × Bool × Speriod_Table × List Int), re := pyxlaw13_PeriodFirst.j18000.re, fin := pyxlaw13_PeriodFirst.j18000.fin, finK := pyxlaw13_PeriodFirst.j18000.finK, finK_eq := pyxlaw13_PeriodFirst.j18000.finK_eq }
theorem pyxlaw13_PeriodFirst.j18000.fit (o : Out U) (y : (Int × List Int × Int × Int × Bool × Speriod_Table × List Int)) (h : pyxlaw13_PeriodFirst.j18000.re o = some y) : FitsO o (pyxlaw13_PeriodFirst.j18000.fin y) := by
  unfold pyxlaw13_PeriodFirst.j18000.re at h
  split at h
  · obtain ⟨q0, eq0, h1⟩ := Option.bind_eq_some_iff.1 h
    obtain ⟨q1, eq1, h2⟩ := Option.bind_eq_some_iff.1 h1
    split at h2
    · cases h2
      refine fitsO_norm (fits_ren [] ?_ ?_ ren_nil rfl)
      · exact List.forall_mem_cons.2 ⟨FV.same (by assumption) (fun _ _ _ hh => by cases hh) (fun _ hh => by cases hh), List.forall_mem_cons.2 ⟨FV.same (by assumption) (fun _ _ _ hh => by cases hh) (fun _ hh => by cases hh), List.forall_mem_cons.2 ⟨FV.same (by assumption) (fun _ _ _ hh => by cases hh) (fun _ hh => by cases hh), List.forall_mem_cons.2 ⟨row_i64_fit eq0, List.forall_mem_cons.2 ⟨FV.same (by assumption) (fun _ _ _ hh => by cases hh) (fun _ hh => by cases hh), List.forall_mem_cons.2 ⟨FV.same (by assumption) (fun _ _ _ hh => by cases hh) (fun _ hh => by cases hh), List.forall_mem_cons.2 ⟨FV.same (by assumption) (fun _ _ _ hh => by cases hh) (fun _ hh => by cases hh), fun _ hp => (List.not_mem_nil hp).elim⟩⟩⟩⟩⟩⟩⟩
      · exact List.forall_mem_cons.2 ⟨(Cd.ofLit_ok eq1), List.forall_mem_cons.2 ⟨(show lk (St.o _) 4 = some _ from by assumption), fun _ hp => (List.not_mem_nil hp).elim⟩⟩
    · cases h2
  · cases h
noncomputable def pyxlaw13_PeriodFirst.j20000.fin (y : (List Int × Int × Int × Bool × Speriod_Table × List Int)) : Out U := match y with | (x39, x40, x41, x42, x37, x38) => .norm ⟨[(3, .ptr 3 0), (4, .ptr 4 0), (14, .row C.i64 x39), (15, .flat (.int .i64 x40)), (16, .flat (.int .i64 x41)), (72, .flat (.bool x42))], [(3, .lit (cd_Speriod_Table.enc x37)), (4, .arr 12 C.i64 x38)]⟩
noncomputable def pyxlaw13_PeriodFirst.j20000.finK {ρ : Type} (y : (List Int × Int × Int × Bool × Speriod_Table × List Int)) (K : Out U → Option ρ) : Option ρ := match y with | (x39, x40, x41, x42, x37, x38) => K (.norm ⟨[(3, .ptr 3 0), (4, .ptr 4 0), (14, .row C.i64 x39), (15, .flat (.int .i64 x40)), (16, .flat (.int .i64 x41)), (72, .flat (.bool x42))], [(3, .lit (cd_Speriod_Table.enc x37)), (4, .arr 12 C.i64 x38)]⟩)
theorem pyxlaw13_PeriodFirst.j20000.finK_eq {ρ : Type} (y : (List Int × Int × Int × Bool × Speriod_Table × List Int)) (K : Out U → Option ρ) : pyxlaw13_PeriodFirst.j20000.finK y K = K (pyxlaw13_PeriodFirst.j20000.fin y) := by
  unfold pyxlaw13_PeriodFirst.j20000.finK pyxlaw13_PeriodFirst.j20000.fin
  first | rfl | (split <;> rfl)
noncomputable def pyxlaw13_PeriodFirst.j20000.re : Out U → Option ((List Int × Int × Int × Bool × Speriod_Table × List Int)) | .norm s => ((row_i64 (s.get 14)).bind fun q0 => ((Cd.ofLit cd_Speriod_Table s.o 3).bind fun q1 => (match s.get 3, s.get 4, s.get 15, s.get 16, s.get 72, lk s.o 4 with | .ptr 3 0, .ptr 4 0, .flat (.int .i64 x40), .flat (.int .i64 x41), .flat (.bool x42), some (.arr 12 C.i64 x38) => some (q0, x40, x41, x42, q1, x38) | _, _, _, _, _, _ => none))) | _ => none
noncomputable def pyxlaw13_PeriodFirst.j20000.J : JDen U := { Y := (List Int × Int × Int × Bool × Speriod_Table × List Int), re := pyxlaw13_PeriodFirst.j20000.re, fin := pyxlaw13_PeriodFirst.j20000.fin, finK := pyxlaw13_PeriodFirst.j20000.finK, finK_eq := pyxlaw13_PeriodFirst.j20000.finK_eq }
theorem pyxlaw13_PeriodFirst.j20000.fit (o : Out U) (y : (List Int × Int × Int × Bool × Speriod_Table × List Int)) (h : pyxlaw13_PeriodFirst.j20000.re o = some y) : FitsO o (pyxlaw13_PeriodFirst.j20000.fin y) := by
  unfold pyxlaw13_PeriodFirst.j20000.re at h
  split at h
  · obtain ⟨q0, eq0, h1⟩ := Option.bind_eq_some_iff.1 h
    obtain ⟨q1, eq1, h2⟩ := Option.bind_eq_some_iff.1 h1
    split at h2
    · cases h2
      refine fitsO_norm (fits_ren [] ?_ ?_ ren_nil rfl)
      · exact List.forall_mem_cons.2 ⟨FV.same (by assumption) (fun _ _ _ hh => by cases hh) (fun _ hh => by cases hh), List.forall_mem_cons.2 ⟨FV.same (by assumption) (fun _ _ _ hh => by cases hh) (fun _ hh => by cases hh), List.forall_mem_cons.2 ⟨row_i64_fit eq0, List.forall_mem_cons.2 ⟨FV.same (by assumption) (fun _ _ _ hh => by cases hh) (fun _ hh => by cases hh), List.forall_mem_cons.2 ⟨FV.same (by assumption) (fun _ _ _ hh => by cases hh) (fun _ hh => by cases hh), List.forall_mem_cons.2 ⟨FV.same (by assumption) (fun _ _ _ hh => by cases hh) (fun _ hh => by cases hh), fun _ hp => (List.not_mem_nil hp).elim⟩⟩⟩⟩⟩⟩
      · exact List.forall_mem_cons.2 ⟨(Cd.ofLit_ok eq1), List.forall_mem_cons.2 ⟨(show lk (St.o _) 4 = some _ from by assumption), fun _ hp => (List.not_mem_nil hp).elim⟩⟩
    · cases h2
  · cases h
noncomputable def pyxlaw13_PeriodFirst.jl : List (Nat × JDen U) := [(8001, pyxlaw13_PeriodFirst.j8001.J), (18000, pyxlaw13_PeriodFirst.j18000.J), (20000, pyxlaw13_PeriodFirst.j20000.J)]
noncomputable def pyxlaw13_PeriodFirst.fl (k : Nat) : List (Nat × FDen U) := [(22, pyxhand_Pick.D k), (19, period_Reopen.D k), (18, period_Close.D k), (20, pyxlaw13_known.D k)]
noncomputable def pyxlaw13_PeriodFirst.ll (k : Nat) : List (Nat × LDen U) := [(16, pyxlaw13_PeriodFirst.l16.L k), (4, pyxlaw13_PeriodFirst.l4.L k)]
noncomputable def pyxlaw13_PeriodFirst.E (k : Nat) : Env U := { P := Try.prog, D := DD, fd := lk (pyxlaw13_PeriodFirst.fl k), ld := lk (pyxlaw13_PeriodFirst.ll k), jd := lk pyxlaw13_PeriodFirst.jl, mode := lk [(27, (12, C.i64))], elc := lk ec, dyn := fun t => Nat.beq t 26, vecs := fun d => false, results := Try.f7.results.toList }
theorem pyxlaw13_PeriodFirst.ok (k : Nat) : EnvOk (pyxlaw13_PeriodFirst.E k) := envOk lawful (pyxlaw13_PeriodFirst.fl k) (pyxlaw13_PeriodFirst.ll k) pyxlaw13_PeriodFirst.jl _ _ _ _ _ (by
  intro p hp
  simp only [pyxlaw13_PeriodFirst.fl, List.mem_cons, List.not_mem_nil, or_false] at hp
  rcases hp with rfl | rfl | rfl | rfl
  · exact ⟨pyxhand_Pick.sound k, enter_of Try.func22 (by kernel_rfl) (by kernel_rfl)⟩
  · exact ⟨period_Reopen.sound k, enter_of Try.func19 (by kernel_rfl) (by kernel_rfl)⟩
  · exact ⟨period_Close.sound k, enter_of Try.func18 (by kernel_rfl) (by kernel_rfl)⟩
  · exact ⟨pyxlaw13_known.sound k, enter_of Try.func20 (by kernel_rfl) (by kernel_rfl)⟩) (by
  intro p hp
  simp only [pyxlaw13_PeriodFirst.jl, List.mem_cons, List.not_mem_nil, or_false] at hp
  rcases hp with rfl | rfl | rfl
  · exact pyxlaw13_PeriodFirst.j8001.fit
  · exact pyxlaw13_PeriodFirst.j18000.fit
  · exact pyxlaw13_PeriodFirst.j20000.fit)
theorem pyxlaw13_PeriodFirst.l16.eq (k : Nat) (x : (Int × List Int × Int × Int × Speriod_Table × List Int)) : evC (pyxlaw13_PeriodFirst.E k) (loopAt Try.f7 16) (pyxlaw13_PeriodFirst.l16.mk x) (headK pyxlaw13_PeriodFirst.l16.un pyxlaw13_PeriodFirst.l16.re) = pyxlaw13_PeriodFirst.l16.once k x := by kernel_rfl
theorem pyxlaw13_PeriodFirst.l16.fit (s : St U) (x : (Int × List Int × Int × Int × Speriod_Table × List Int)) (h : pyxlaw13_PeriodFirst.l16.un s = some x) : Fits s (pyxlaw13_PeriodFirst.l16.mk x) := by
  unfold pyxlaw13_PeriodFirst.l16.un at h
  obtain ⟨q0, eq0, h1⟩ := Option.bind_eq_some_iff.1 h
  obtain ⟨q1, eq1, h2⟩ := Option.bind_eq_some_iff.1 h1
  split at h2
  · cases h2
    refine fits_ren [] ?_ ?_ ren_nil rfl
    · exact List.forall_mem_cons.2 ⟨FV.same (by assumption) (fun _ _ _ hh => by cases hh) (fun _ hh => by cases hh), List.forall_mem_cons.2 ⟨FV.same (by assumption) (fun _ _ _ hh => by cases hh) (fun _ hh => by cases hh), List.forall_mem_cons.2 ⟨FV.same (by assumption) (fun _ _ _ hh => by cases hh) (fun _ hh => by cases hh), List.forall_mem_cons.2 ⟨row_i64_fit eq0, List.forall_mem_cons.2 ⟨FV.same (by assumption) (fun _ _ _ hh => by cases hh) (fun _ hh => by cases hh), List.forall_mem_cons.2 ⟨FV.same (by assumption) (fun _ _ _ hh => by cases hh) (fun _ hh => by cases hh), fun _ hp => (List.not_mem_nil hp).elim⟩⟩⟩⟩⟩⟩
    · exact List.forall_mem_cons.2 ⟨(Cd.ofLit_ok eq1), List.forall_mem_cons.2 ⟨(show lk (St.o _) 4 = some _ from by assumption), fun _ hp => (List.not_mem_nil hp).elim⟩⟩
  · cases h2
theorem pyxlaw13_PeriodFirst.l16.fitO (o : Out U) (y : (List Int × Int × Int × Speriod_Table × List Int) ⊕ Bool) (h : pyxlaw13_PeriodFirst.l16.re o = some y) : FitsO o (pyxlaw13_PeriodFirst.l16.fin y) := by
  unfold pyxlaw13_PeriodFirst.l16.re at h
  split at h
  · obtain ⟨q0, eq0, h1⟩ := Option.bind_eq_some_iff.1 h
    obtain ⟨q1, eq1, h2⟩ := Option.bind_eq_some_iff.1 h1
    split at h2
    · cases h2
      refine fitsO_exit (fits_ren [] ?_ ?_ ren_nil rfl)
      · exact List.forall_mem_cons.2 ⟨FV.same (by assumption) (fun _ _ _ hh => by cases hh) (fun _ hh => by cases hh), List.forall_mem_cons.2 ⟨FV.same (by assumption) (fun _ _ _ hh => by cases hh) (fun _ hh => by cases hh), List.forall_mem_cons.2 ⟨row_i64_fit eq0, List.forall_mem_cons.2 ⟨FV.same (by assumption) (fun _ _ _ hh => by cases hh) (fun _ hh => by cases hh), List.forall_mem_cons.2 ⟨FV.same (by assumption) (fun _ _ _ hh => by cases hh) (fun _ hh => by cases hh), fun _ hp => (List.not_mem_nil hp).elim⟩⟩⟩⟩⟩
      · exact List.forall_mem_cons.2 ⟨(Cd.ofLit_ok eq1), List.forall_mem_cons.2 ⟨(show lk (St.o _) 4 = some _ from by assumption), fun _ hp => (List.not_mem_nil hp).elim⟩⟩
    · cases h2
  · split at h
    · cases h; exact fitsO_ret
    · cases h
  · cases h
theorem pyxlaw13_PeriodFirst.l16.sound (k : Nat) : LSound (pyxlaw13_PeriodFirst.E k) Try.f7.ntmps Try.f7 (loopAt Try.f7 16) (pyxlaw13_PeriodFirst.l16.L k) :=
  loop_sound (pyxlaw13_PeriodFirst.ok k) mixed rfl (by kernel_rfl) (allL_of (l := []) (by kernel_rfl) allL_nil) pyxlaw13_PeriodFirst.l16.un pyxlaw13_PeriodFirst.l16.mk pyxlaw13_PeriodFirst.l16.fin pyxlaw13_PeriodFirst.l16.re (pyxlaw13_PeriodFirst.l16.once k) k pyxlaw13_PeriodFirst.l16.fit pyxlaw13_PeriodFirst.l16.fitO (pyxlaw13_PeriodFirst.l16.eq k) pyxlaw13_PeriodFirst.l16.finK pyxlaw13_PeriodFirst.l16.finK_eq
theorem pyxlaw13_PeriodFirst.l4.eq (k : Nat) (x : (List Int × Int × Int × Speriod_Table × List Int)) : evC (pyxlaw13_PeriodFirst.E k) (loopAt Try.f7 4) (pyxlaw13_PeriodFirst.l4.mk x) (headK pyxlaw13_PeriodFirst.l4.un pyxlaw13_PeriodFirst.l4.re) = pyxlaw13_PeriodFirst.l4.once k x := by kernel_rfl
theorem pyxlaw13_PeriodFirst.l4.fit (s : St U) (x : (List Int × Int × Int × Speriod_Table × List Int)) (h : pyxlaw13_PeriodFirst.l4.un s = some x) : Fits s (pyxlaw13_PeriodFirst.l4.mk x) := by
  unfold pyxlaw13_PeriodFirst.l4.un at h
  obtain ⟨q0, eq0, h1⟩ := Option.bind_eq_some_iff.1 h
  obtain ⟨q1, eq1, h2⟩ := Option.bind_eq_some_iff.1 h1
  split at h2
  · cases h2
    refine fits_ren [] ?_ ?_ ren_nil rfl
    · exact List.forall_mem_cons.2 ⟨FV.same (by assumption) (fun _ _ _ hh => by cases hh) (fun _ hh => by cases hh), List.forall_mem_cons.2 ⟨FV.same (by assumption) (fun _ _ _ hh => by cases hh) (fun _ hh => by cases hh), List.forall_mem_cons.2 ⟨row_i64_fit eq0, List.forall_mem_cons.2 ⟨FV.same (by assumption) (fun _ _ _ hh => by cases hh) (fun _ hh => by cases hh), List.forall_mem_cons.2 ⟨FV.same (by assumption) (fun _ _ _ hh => by cases hh) (fun _ hh => by cases hh), fun _ hp => (List.not_mem_nil hp).elim⟩⟩⟩⟩⟩
    · exact List.forall_mem_cons.2 ⟨(Cd.ofLit_ok eq1), List.forall_mem_cons.2 ⟨(show lk (St.o _) 4 = some _ from by assumption), fun _ hp => (List.not_mem_nil hp).elim⟩⟩
  · cases h2
theorem pyxlaw13_PeriodFirst.l4.fitO (o : Out U) (y : Unit ⊕ Bool) (h : pyxlaw13_PeriodFirst.l4.re o = some y) : FitsO o (pyxlaw13_PeriodFirst.l4.fin y) := by
  unfold pyxlaw13_PeriodFirst.l4.re at h
  split at h
  · cases h
    refine fitsO_exit (fits_ren [] ?_ ?_ ren_nil rfl)
    · exact fun _ hp => (List.not_mem_nil hp).elim
    · exact fun _ hp => (List.not_mem_nil hp).elim
  · split at h
    · cases h; exact fitsO_ret
    · cases h
  · cases h
theorem pyxlaw13_PeriodFirst.l4.sound (k : Nat) : LSound (pyxlaw13_PeriodFirst.E k) Try.f7.ntmps Try.f7 (loopAt Try.f7 4) (pyxlaw13_PeriodFirst.l4.L k) :=
  loop_sound (pyxlaw13_PeriodFirst.ok k) mixed rfl (by kernel_rfl) (allL_of (l := [loopAt Try.f7 16]) (by kernel_rfl) (allL_cons (key := 16) (by kernel_rfl) rfl (pyxlaw13_PeriodFirst.l16.sound k) allL_nil)) pyxlaw13_PeriodFirst.l4.un pyxlaw13_PeriodFirst.l4.mk pyxlaw13_PeriodFirst.l4.fin pyxlaw13_PeriodFirst.l4.re (pyxlaw13_PeriodFirst.l4.once k) k pyxlaw13_PeriodFirst.l4.fit pyxlaw13_PeriodFirst.l4.fitO (pyxlaw13_PeriodFirst.l4.eq k) pyxlaw13_PeriodFirst.l4.finK pyxlaw13_PeriodFirst.l4.finK_eq
theorem pyxlaw13_PeriodFirst.eq (k : Nat) (x : List Int) : runF (pyxlaw13_PeriodFirst.E k) (codeOf Try.f7) (pyxlaw13_PeriodFirst.mk x) pyxlaw13_PeriodFirst.re = (pyxlaw13_PeriodFirst.D k).f x := by kernel_rfl
theorem pyxlaw13_PeriodFirst.sound (k : Nat) : Sound Try.prog DD 7 (pyxlaw13_PeriodFirst.D k) :=
  fun_sound (E := pyxlaw13_PeriodFirst.E k) (fn := Try.f7) (c := codeOf Try.f7) (pyxlaw13_PeriodFirst.ok k) mixed rfl Try.func7 (by kernel_rfl) (by kernel_rfl) (allL_of (l := [loopAt Try.f7 4]) (by kernel_rfl) (allL_cons (key := 4) (by kernel_rfl) rfl (pyxlaw13_PeriodFirst.l4.sound k) allL_nil)) (pyxlaw13_PeriodFirst.D k) pyxlaw13_PeriodFirst.mk pyxlaw13_PeriodFirst.re
    (by intro args x h; replace h : pyxlaw13_PeriodFirst.un args = some x := h; unfold pyxlaw13_PeriodFirst.un at h; split at h; · cases h; rfl
        · cases h)
    (by intro v y h; unfold pyxlaw13_PeriodFirst.re at h; split at h; · cases h; rfl
        · cases h)
    (fun _ => rfl) (fun x => Nat.le_of_ble_eq_true (by kernel_rfl)) (pyxlaw13_PeriodFirst.eq k)
/-! ### pyx/pyxlaw13.PeriodBacks: function 8 -/
noncomputable def pyxlaw13_PeriodBacks.l4.once (k : Nat) (x : (Int × Int × Int × List Int × Speriod_Table)) : Option ((Int × Int × Int × List Int × Speriod_Table) ⊕ ((Int × Int × List Int × Speriod_Table))) := match x with | (x2, x5, x6, x3, x4) => cond (decide (x6 < x5)) (cond (inb x6 12) (cond (Nat.blt (Int.toNat x6) 12) (some (.inl (x2, x5, IntKind.wrap .i64 (x6 + 1), pack 12 0 x3, (⟨putAll (Int.toNat x6) true 0 (pack 12 false x4.f_Closed), pack 12 0 x4.f_Version⟩ : Speriod_Table)))) none) none) (some (.inr (x2, x5, pack 12 0 x3, (⟨pack 12 false x4.f_Closed, pack 12 0 x4.f_Version⟩ : Speriod_Table))))
noncomputable def pyxlaw13_PeriodBacks.l15.once (k : Nat) (x : (Int × Int × Int × Int × Int × List Int × Speriod_Table × Speriod_Table)) : Option ((Int × Int × Int × Int × Int × List Int × Speriod_Table × Speriod_Table) ⊕ ((Int × Int × Int × Int) ⊕ Bool)) := match x with | (x25, x28, x30, x31, x32, x26, x27, x29) => cond (decide (x32 < 12)) (((cond (x32 != x28) (cond (inb x32 12) (cond (Nat.blt (Int.toNat x32) 12) (cond (inb x32 12) (cond (Nat.blt (Int.toNat x32) 12) (cond ((List.getD (pack 12 0 x29.f_Version) (Int.toNat x32) 0) != (List.getD (pack 12 0 x26) (Int.toNat x32) 0)) (some (x25, x28, x30, x31, x32, true, pack 12 0 x26, (⟨pack 12 false x27.f_Closed, pack 12 0 x27.f_Version⟩ : Speriod_Table), (⟨pack 12 false x29.f_Closed, pack 12 0 x29.f_Version⟩ : Speriod_Table))) (cond (inb x32 12) (cond (Nat.blt (Int.toNat x32) 12) (cond (inb x32 12) (cond (Nat.blt (Int.toNat x32) 12) (cond (!((List.getD (pack 12 false x29.f_Closed) (Int.toNat x32) false) == (List.getD (pack 12 false x27.f_Closed) (Int.toNat x32) false))) (some (x25, x28, x30, x31, x32, true, pack 12 0 x26, (⟨pack 12 false x27.f_Closed, pack 12 0 x27.f_Version⟩ : Speriod_Table), (⟨pack 12 false x29.f_Closed, pack 12 0 x29.f_Version⟩ : Speriod_Table))) ((period_IsOpen.f k (⟨pack 12 false x27.f_Closed, pack 12 0 x27.f_Version⟩ : Speriod_Table) x32).bind fun t42 => (cond (inb x32 12) (cond (Nat.blt (Int.toNat x32) 12) (some (x25, x28, x30, x31, x32, t42 == (List.getD (pack 12 false x27.f_Closed) (Int.toNat x32) false), pack 12 0 x26, (⟨pack 12 false x27.f_Closed, pack 12 0 x27.f_Version⟩ : Speriod_Table), (⟨pack 12 false x29.f_Closed, pack 12 0 x29.f_Version⟩ : Speriod_Table))) none) none))) none) none) none) none)) none) none) none) none) ((period_IsOpen.f k (⟨pack 12 false x27.f_Closed, pack 12 0 x27.f_Version⟩ : Speriod_Table) x32).bind fun t43 => (cond (inb x32 12) (cond (Nat.blt (Int.toNat x32) 12) (some (x25, x28, x30, x31, x32, t43 == (List.getD (pack 12 false x27.f_Closed) (Int.toNat x32) false), pack 12 0 x26, (⟨pack 12 false x27.f_Closed, pack 12 0 x27.f_Version⟩ : Speriod_Table), (⟨pack 12 false x29.f_Closed, pack 12 0 x29.f_Version⟩ : Speriod_Table))) none) none))) : Option (Int × Int × Int × Int × Int × Bool × List Int × Speriod_Table × Speriod_Table)).bind fun y44 => (cond (y44.2.2.2.2.2.1) (some (.inr (.inr false))) (some (.inl (y44.1, y44.2.1, y44.2.2.1, y44.2.2.2.1, IntKind.wrap .i64 (y44.2.2.2.2.1 + 1), pack 12 0 y44.2.2.2.2.2.2.1, (⟨pack 12 false y44.2.2.2.2.2.2.2.1.f_Closed, pack 12 0 y44.2.2.2.2.2.2.2.1.f_Version⟩ : Speriod_Table), (⟨pack 12 false y44.2.2.2.2.2.2.2.2.f_Closed, pack 12 0 y44.2.2.2.2.2.2.2.2.f_Version⟩ : Speriod_Table)))))) (some (.inr (.inl (x25, x28, x30, x31))))
noncomputable def pyxlaw13_PeriodBacks.f (k : Nat) (a0 : Int) (a1 : List Int) (a2 : Int) : Option Bool := (pyxhand_Pick.f k a0 12).bind fun t1 => ((iter (pyxlaw13_PeriodBacks.l4.once k) k (a2, t1, 0, pack 12 0 a1, (⟨[false, false, false, false, false, false, false, false, false, false, false, false], pack 12 0 a1⟩ : Speriod_Table))).bind fun y11 => ((period_Close.f k (⟨pack 12 false y11.2.2.2.f_Closed, pack 12 0 y11.2.2.2.f_Version⟩ : Speriod_Table) y11.2.1).bind fun t12 => ((period_Reopen.f k (⟨pack 12 false t12.1.f_Closed, pack 12 0 t12.1.f_Version⟩ : Speriod_Table) y11.2.1).bind fun t13 => ((((pyxlaw13_known.f k).bind fun t14 => (cond (!t14) (some (y11.1, y11.2.1, true, pack 12 0 y11.2.2.1, (⟨pack 12 false y11.2.2.2.f_Closed, pack 12 0 y11.2.2.2.f_Version⟩ : Speriod_Table), (⟨pack 12 false t12.1.f_Closed, pack 12 0 t12.1.f_Version⟩ : Speriod_Table))) (cond (t12.2 != 0) (some (y11.1, y11.2.1, true, pack 12 0 y11.2.2.1, (⟨pack 12 false y11.2.2.2.f_Closed, pack 12 0 y11.2.2.2.f_Version⟩ : Speriod_Table), (⟨pack 12 false t12.1.f_Closed, pack 12 0 t12.1.f_Version⟩ : Speriod_Table))) (cond (t13.2 != 0) (some (y11.1, y11.2.1, true, pack 12 0 y11.2.2.1, (⟨pack 12 false y11.2.2.2.f_Closed, pack 12 0 y11.2.2.2.f_Version⟩ : Speriod_Table), (⟨pack 12 false t12.1.f_Closed, pack 12 0 t12.1.f_Version⟩ : Speriod_Table))) (cond (!(((List.getD t13.1.f_Closed 0 false) == (List.getD y11.2.2.2.f_Closed 0 false)) && (((List.getD t13.1.f_Closed 1 false) == (List.getD y11.2.2.2.f_Closed 1 false)) && (((List.getD t13.1.f_Closed 2 false) == (List.getD y11.2.2.2.f_Closed 2 false)) && (((List.getD t13.1.f_Closed 3 false) == (List.getD y11.2.2.2.f_Closed 3 false)) && (((List.getD t13.1.f_Closed 4 false) == (List.getD y11.2.2.2.f_Closed 4 false)) && (((List.getD t13.1.f_Closed 5 false) == (List.getD y11.2.2.2.f_Closed 5 false)) && (((List.getD t13.1.f_Closed 6 false) == (List.getD y11.2.2.2.f_Closed 6 false)) && (((List.getD t13.1.f_Closed 7 false) == (List.getD y11.2.2.2.f_Closed 7 false)) && (((List.getD t13.1.f_Closed 8 false) == (List.getD y11.2.2.2.f_Closed 8 false)) && (((List.getD t13.1.f_Closed 9 false) == (List.getD y11.2.2.2.f_Closed 9 false)) && (((List.getD t13.1.f_Closed 10 false) == (List.getD y11.2.2.2.f_Closed 10 false)) && ((List.getD t13.1.f_Closed 11 false) == (List.getD y11.2.2.2.f_Closed 11 false)))))))))))))) (some (y11.1, y11.2.1, true, pack 12 0 y11.2.2.1, (⟨pack 12 false y11.2.2.2.f_Closed, pack 12 0 y11.2.2.2.f_Version⟩ : Speriod_Table), (⟨pack 12 false t12.1.f_Closed, pack 12 0 t12.1.f_Version⟩ : Speriod_Table))) (cond (!(((List.getD t13.1.f_Version 0 0) == (List.getD t12.1.f_Version 0 0)) && (((List.getD t13.1.f_Version 1 0) == (List.getD t12.1.f_Version 1 0)) && (((List.getD t13.1.f_Version 2 0) == (List.getD t12.1.f_Version 2 0)) && (((List.getD t13.1.f_Version 3 0) == (List.getD t12.1.f_Version 3 0)) && (((List.getD t13.1.f_Version 4 0) == (List.getD t12.1.f_Version 4 0)) && (((List.getD t13.1.f_Version 5 0) == (List.getD t12.1.f_Version 5 0)) && (((List.getD t13.1.f_Version 6 0) == (List.getD t12.1.f_Version 6 0)) && (((List.getD t13.1.f_Version 7 0) == (List.getD t12.1.f_Version 7 0)) && (((List.getD t13.1.f_Version 8 0) == (List.getD t12.1.f_Version 8 0)) && (((List.getD t13.1.f_Version 9 0) == (List.getD t12.1.f_Version 9 0)) && (((List.getD t13.1.f_Version 10 0) == (List.getD t12.1.f_Version 10 0)) && ((List.getD t13.1.f_Version 11 0) == (List.getD t12.1.f_Version 11 0)))))))))))))) (some (y11.1, y11.2.1, true, pack 12 0 y11.2.2.1, (⟨pack 12 false y11.2.2.2.f_Closed, pack 12 0 y11.2.2.2.f_Version⟩ : Speriod_Table), (⟨pack 12 false t12.1.f_Closed, pack 12 0 t12.1.f_Version⟩ : Speriod_Table))) (cond (inb y11.2.1 12) (cond (Nat.blt (Int.toNat y11.2.1) 12) (cond (inb y11.2.1 12) (cond (Nat.blt (Int.toNat y11.2.1) 12) (some (y11.1, y11.2.1, (List.getD (pack 12 0 t12.1.f_Version) (Int.toNat y11.2.1) 0) != (IntKind.wrap .i64 ((List.getD (pack 12 0 y11.2.2.1) (Int.toNat y11.2.1) 0) + 1)), pack 12 0 y11.2.2.1, (⟨pack 12 false y11.2.2.2.f_Closed, pack 12 0 y11.2.2.2.f_Version⟩ : Speriod_Table), (⟨pack 12 false t12.1.f_Closed, pack 12 0 t12.1.f_Version⟩ : Speriod_Table))) none) none) none) none))))))) : Option (Int × Int × Bool × List Int × Speriod_Table × Speriod_Table)).bind fun y21 => (cond (y21.2.2.1) (some false) ((pyxhand_Pick.f k y21.1 14).bind fun t22 => ((period_Close.f k (⟨pack 12 false y21.2.2.2.2.1.f_Closed, pack 12 0 y21.2.2.2.2.1.f_Version⟩ : Speriod_Table) (IntKind.wrap .i64 (t22 - 1))).bind fun t23 => ((period_Reopen.f k (⟨pack 12 false y21.2.2.2.2.1.f_Closed, pack 12 0 y21.2.2.2.2.1.f_Version⟩ : Speriod_Table) (IntKind.wrap .i64 (t22 - 1))).bind fun t24 => ((iter (pyxlaw13_PeriodBacks.l15.once k) k (IntKind.wrap .i64 (t22 - 1), y21.2.1, t23.2, t24.2, 0, pack 12 0 y21.2.2.2.1, (⟨pack 12 false y21.2.2.2.2.1.f_Closed, pack 12 0 y21.2.2.2.2.1.f_Version⟩ : Speriod_Table), (⟨pack 12 false y21.2.2.2.2.2.f_Closed, pack 12 0 y21.2.2.2.2.2.f_Version⟩ : Speriod_Table))).bind fun | .inl y50 => (cond ((y50.2.2.1 == 0) == (y50.1 == y50.2.1)) (cond (decide (y50.2.1 > 0)) (some ((y50.2.2.2 == 0) == (y50.1 == (IntKind.wrap .i64 (y50.2.1 - 1))))) (some ((y50.2.2.2 == 0) == false))) (some false)) | .inr y51 => (some y51))))))))))
noncomputable def pyxlaw13_PeriodBacks.un : List (AV U) → Option (Int × List Int × Int) | [.flat (.int .i64 x1), .agg x2, .flat (.int .i64 x4)] => ((Cd.arr 12 0 (Cd.int .i64)).full x2).bind fun x3 => some (x1, x3, x4) | _ => none
noncomputable def pyxlaw13_PeriodBacks.mk (x : (Int × List Int × Int)) : List (AV U) := [.flat (.int .i64 x.1), .agg ((Cd.arr 12 0 (Cd.int .i64)).enc x.2.1), .flat (.int .i64 x.2.2)]
noncomputable def pyxlaw13_PeriodBacks.D (k : Nat) : FDen U := { X := (Int × List Int × Int), Y := Bool, un := pyxlaw13_PeriodBacks.un, f := fun x => pyxlaw13_PeriodBacks.f k (x.1) (x.2.1) (x.2.2), fin := fun y => .flat (.bool y) }
noncomputable def pyxlaw13_PeriodBacks.re : AV U → Option Bool | .flat (.bool x1) => some x1 | _ => none
noncomputable def pyxlaw13_PeriodBacks.l4.mk (x : (Int × Int × Int × List Int × Speriod_Table)) : St U := match x with | (x2, x5, x6, x3, x4) => ⟨[(4, .ptr 4 0), (7, .ptr 7 0), (2, .flat (.int .i64 x2)), (8, .flat (.int .i64 x5)), (9, .flat (.int .i64 x6))], [(4, .lit ((Cd.arr 12 0 (Cd.int .i64)).enc x3)), (7, .lit (cd_Speriod_Table.enc x4))]⟩
noncomputable def pyxlaw13_PeriodBacks.l4.un (s : St U) : Option (Int × Int × Int × List Int × Speriod_Table) := (Cd.ofLit (Cd.arr 12 0 (Cd.int .i64)) s.o 4).bind fun q0 => ((Cd.ofLit cd_Speriod_Table s.o 7).bind fun q1 => (match s.get 4, s.get 7, s.get 2, s.get 8, s.get 9 with | .ptr 4 0, .ptr 7 0, .flat (.int .i64 x2), .flat (.int .i64 x5), .flat (.int .i64 x6) => some (x2, x5, x6, q0, q1) | _, _, _, _, _ => none))
noncomputable def pyxlaw13_PeriodBacks.l4.fin (y : (Int × Int × List Int × Speriod_Table)) : Out U := match y with | (x7, x10, x8, x9) => .exit 0 ⟨[(4, .ptr 4 0), (7, .ptr 7 0), (2, .flat (.int .i64 x7)), (8, .flat (.int .i64 x10))], [(4, .lit ((Cd.arr 12 0 (Cd.int .i64)).enc x8)), (7, .lit (cd_Speriod_Table.enc x9))]⟩
noncomputable def pyxlaw13_PeriodBacks.l4.finK {ρ : Type} (y : (Int × Int × List Int × Speriod_Table)) (K : Out U → Option ρ) : Option ρ := match y with | (x7, x10, x8, x9) => K (.exit 0 ⟨[(4, .ptr 4 0), (7, .ptr 7 0), (2, .flat (.int .i64 x7)), (8, .flat (.int .i64 x10))], [(4, .lit ((Cd.arr 12 0 (Cd.int .i64)).enc x8)), (7, .lit (cd_Speriod_Table.enc x9))]⟩)
theorem pyxlaw13_PeriodBacks.l4.finK_eq {ρ : Type} (y : (Int × Int × List Int × Speriod_Table)) (K : Out U → Option ρ) : pyxlaw13_PeriodBacks.l4.finK y K = K (pyxlaw13_PeriodBacks.l4.fin y) := by
  unfold pyxlaw13_PeriodBacks.l4.finK pyxlaw13_PeriodBacks.l4.fin
  first | rfl | (split <;> rfl)
noncomputable def pyxlaw13_PeriodBacks.l4.re : Out U → Option ((Int × Int × List Int × Speriod_Table)) | .exit 0 s => ((Cd.ofLit (Cd.arr 12 0 (Cd.int .i64)) s.o 4).bind fun q0 => ((Cd.ofLit cd_Speriod_Table s.o 7).bind fun q1 => (match s.get 4, s.get 7, s.get 2, s.get 8 with | .ptr 4 0, .ptr 7 0, .flat (.int .i64 x7), .flat (.int .i64 x10) => some (x7, x10, q0, q1) | _, _, _, _ => none))) | _ => none
noncomputable def pyxlaw13_PeriodBacks.l4.L (k : Nat) : LDen U := { X := (Int × Int × Int × List Int × Speriod_Table), Y := (Int × Int × List Int × Speriod_Table), un := pyxlaw13_PeriodBacks.l4.un, f := iter (pyxlaw13_PeriodBacks.l4.once k) k, fin := pyxlaw13_PeriodBacks.l4.fin, finK := pyxlaw13_PeriodBacks.l4.finK, finK_eq := pyxlaw13_PeriodBacks.l4.finK_eq }
noncomputable def pyxlaw13_PeriodBacks.l15.mk (x : (Int × Int × Int × Int × Int × List Int × Speriod_Table × Speriod_Table)) : St U := match x with | (x25, x28, x30, x31, x32, x26, x27, x29) => ⟨[(4, .ptr 4 0), (7, .ptr 7 0), (10, .ptr 10 0), (2, .flat (.int .i64 x25)), (8, .flat (.int .i64 x28)), (15, .flat (.int .i64 x30)), (17, .flat (.int .i64 x31)), (18, .flat (.int .i64 x32))], [(4, .lit ((Cd.arr 12 0 (Cd.int .i64)).enc x26)), (7, .lit (cd_Speriod_Table.enc x27)), (10, .lit (cd_Speriod_Table.enc x29))]⟩
noncomputable def pyxlaw13_PeriodBacks.l15.un (s : St U) : Option (Int × Int × Int × Int × Int × List Int × Speriod_Table × Speriod_Table) := (Cd.ofLit (Cd.arr 12 0 (Cd.int .i64)) s.o 4).bind fun q0 => ((Cd.ofLit cd_Speriod_Table s.o 7).bind fun q1 => ((Cd.ofLit cd_Speriod_Table s.o 10).bind fun q2 => (match s.get 4, s.get 7, s.get 10, s.get 2, s.get 8, s.get 15, s.get 17, s.get 18 with | .ptr 4 0, .ptr 7 0, .ptr 10 0, .flat (.int .i64 x25), .flat (.int .i64 x28), .flat (.int .i64 x30), .flat (.int .i64 x31), .flat (.int .i64 x32) => some (x25, x28, x30, x31, x32, q0, q1, q2) | _, _, _, _, _, _, _, _ => none)))
noncomputable def pyxlaw13_PeriodBacks.l15.fin (y : (Int × Int × Int × Int) ⊕ Bool) : Out U := match y with | .inl (x45, x46, x47, x48) => .exit 2 ⟨[(2, .flat (.int .i64 x45)), (8, .flat (.int .i64 x46)), (15, .flat (.int .i64 x47)), (17, .flat (.int .i64 x48))], []⟩ | .inr z => .ret (.flat (.bool z))
noncomputable def pyxlaw13_PeriodBacks.l15.finK {ρ : Type} (y : (Int × Int × Int × Int) ⊕ Bool) (K : Out U → Option ρ) : Option ρ := match y with | .inl (x45, x46, x47, x48) => K (.exit 2 ⟨[(2, .flat (.int .i64 x45)), (8, .flat (.int .i64 x46)), (15, .flat (.int .i64 x47)), (17, .flat (.int .i64 x48))], []⟩) | .inr z => K (.ret (.flat (.bool z)))
theorem pyxlaw13_PeriodBacks.l15.finK_eq {ρ : Type} (y : (Int × Int × Int × Int) ⊕ Bool) (K : Out U → Option ρ) : pyxlaw13_PeriodBacks.l15.finK y K = K (pyxlaw13_PeriodBacks.l15.fin y) := by
  unfold pyxlaw13_PeriodBacks.l15.finK pyxlaw13_PeriodBacks.l15.fin
  first | rfl | (split <;> rfl)
noncomputable def pyxlaw13_PeriodBacks.l15.re : Out U → Option ((Int × Int × Int × Int) ⊕ Bool) | .exit 2 s => (match s.get 2, s.get 8, s.get 15, s.get 17 with | .flat (.int .i64 x45), .flat (.int .i64 x46), .flat (.int .i64 x47), .flat (.int .i64 x48) => some (.inl (x45, x46, x47, x48)) | _, _, _, _ => none) | .ret v => (match v with | .flat (.bool x1) => some (.inr x1) | _ => none) | _ => none
noncomputable def pyxlaw13_PeriodBacks.l15.L (k : Nat) : LDen U := { X := (Int × Int × Int × Int × Int × List Int × Speriod_Table × Speriod_Table), Y := (Int × Int × Int × Int) ⊕ Bool, un := pyxlaw13_PeriodBacks.l15.un, f := iter (pyxlaw13_PeriodBacks.l15.once k) k, fin := pyxlaw13_PeriodBacks.l15.fin, finK := pyxlaw13_PeriodBacks.l15.finK, finK_eq := pyxlaw13_PeriodBacks.l15.finK_eq }
noncomputable def pyxlaw13_PeriodBacks.j9000.fin (y : (Int × Int × Bool × List Int × Speriod_Table × Speriod_Table)) : Out U := match y with | (x15, x18, x20, x16, x17, x19) => .norm ⟨[(4, .ptr 4 0), (7, .ptr 7 0), (10, .ptr 10 0), (2, .flat (.int .i64 x15)), (8, .flat (.int .i64 x18)), (77, .flat (.bool x20))], [(4, .lit ((Cd.arr 12 0 (Cd.int .i64)).enc x16)), (7, .lit (cd_Speriod_Table.enc x17)), (10, .lit (cd_Speriod_Table.enc x19))]⟩
noncomputable def pyxlaw13_PeriodBacks.j9000.finK {ρ : Type} (y : (Int × Int × Bool × List Int × Speriod_Table × Speriod_Table)) (K : Out U → Option ρ) : Option ρ := match y with | (x15, x18, x20, x16, x17, x19) => K (.norm ⟨[(4, .ptr 4 0), (7, .ptr 7 0), (10, .ptr 10 0), (2, .flat (.int .i64 x15)), (8, .flat (.int .i64 x18)), (77, .flat (.bool x20))], [(4, .lit ((Cd.arr 12 0 (Cd.int .i64)).enc x16)), (7, .lit (cd_Speriod_Table.enc x17)), (10, .lit (cd_Speriod_Table.enc x19))]⟩)
theorem pyxlaw13_PeriodBacks.j9000.finK_eq {ρ : Type} (y : (Int × Int × Bool × List Int × Speriod_Table × Speriod_Table)) (K : Out U → Option ρ) : pyxlaw13_PeriodBacks.j9000.finK y K = K (pyxlaw13_PeriodBacks.j9000.fin y) := by
  unfold pyxlaw13_PeriodBacks.j9000.finK pyxlaw13_PeriodBacks.j9000.fin
  first | rfl | (split <;> rfl)
noncomputable def pyxlaw13_PeriodBacks.j9000.re : Out U → Option ((Int × Int × Bool × List Int × Speriod_Table × Speriod_Table)) | .norm s => ((Cd.ofLit (Cd.arr 12 0 (Cd.int .i64)) s.o 4).bind fun q0 => ((Cd.ofLit cd_Speriod_Table s.o 7).bind fun q1 => ((Cd.ofLit cd_Speriod_Table s.o 10).bind fun q2 => (match s.get 4, s.get 7, s.get 10, s.get 2, s.get 8, s.get 77 with | .ptr 4 0, .ptr 7 0, .ptr 10 0, .flat (.int .i64 x15), .flat (.int .i64 x18), .flat (.bool x20) => some (x15, x18, x20, q0, q1, q2) | _, _, _, _, _, _ => none)))) | _ => none
noncomputable def pyxlaw13_PeriodBacks.j9000.J : JDen U := { Y := (Int × Int × Bool × List Int × Speriod_Table × Speriod_Table), re := pyxlaw13_PeriodBacks.j9000.re, fin := pyxlaw13_PeriodBacks.j9000.fin, finK := pyxlaw13_PeriodBacks.j9000.finK, finK_eq := pyxlaw13_PeriodBacks.j9000.finK_eq }
theorem pyxlaw13_PeriodBacks.j9000.fit (o : Out U) (y : (Int × Int × Bool × List Int × Speriod_Table × Speriod_Table)) (h : pyxlaw13_PeriodBacks.j9000.re o = some y) : FitsO o (pyxlaw13_PeriodBacks.j9000.fin y) := by
  unfold pyxlaw13_PeriodBacks.j9000.re at h
  split at h
  · obtain ⟨q0, eq0, h1⟩ := Option.bind_eq_some_iff.1 h
    obtain ⟨q1, eq1, h2⟩ := Option.bind_eq_some_iff.1 h1
    obtain ⟨q2, eq2, h3⟩ := Option.bind_eq_some_iff.1 h2
    split at h3
    · cases h3
      refine fitsO_norm (fits_ren [] ?_ ?_ ren_nil rfl)
      · exact List.forall_mem_cons.2 ⟨FV.same (by assumption) (fun _ _ _ hh => by cases hh) (fun _ hh => by cases hh), List.forall_mem_cons.2 ⟨FV.same (by assumption) (fun _ _ _ hh => by cases hh) (fun _ hh => by cases hh), List.forall_mem_cons.2 ⟨FV.same (by assumption) (fun _ _ _ hh => by cases hh) (fun _ hh => by cases hh), List.forall_mem_cons.2 ⟨FV.same (by assumption) (fun _ _ _ hh => by cases hh) (fun _ hh => by cases hh), List.forall_mem_cons.2 ⟨FV.same (by assumption) (fun _ _ _ hh => by cases hh) (fun _ hh => by cases hh), List.forall_mem_cons.2 ⟨FV.same (by assumption) (fun _ _ _ hh => by cases hh) (fun _ hh => by cases hh), fun _ hp => (List.not_mem_nil hp).elim⟩⟩⟩⟩⟩⟩
      · exact List.forall_mem_cons.2 ⟨(Cd.ofLit_ok eq0), List.forall_mem_cons.2 ⟨(Cd.ofLit_ok eq1), List.forall_mem_cons.2 ⟨(Cd.ofLit_ok eq2), fun _ hp => (List.not_mem_nil hp).elim⟩⟩⟩
    · cases h3
  · cases h
noncomputable def pyxlaw13_PeriodBacks.j17000.fin (y : (Int × Int × Int × Int × Int × Bool × List Int × Speriod_Table × Speriod_Table)) : Out U := match y with | (x33, x36, x38, x39, x40, x41, x34, x35, x37) => .norm ⟨[(4, .ptr 4 0), (7, .ptr 7 0), (10, .ptr 10 0), (2, .flat (.int .i64 x33)), (8, .flat (.int .i64 x36)), (15, .flat (.int .i64 x38)), (17, .flat (.int .i64 x39)), (18, .flat (.int .i64 x40)), (130, .flat (.bool x41))], [(4, .lit ((Cd.arr 12 0 (Cd.int .i64)).enc x34)), (7, .lit (cd_Speriod_Table.enc x35)), (10, .lit (cd_Speriod_Table.enc x37))]⟩
noncomputable def pyxlaw13_PeriodBacks.j17000.finK {ρ : Type} (y : (Int × Int × Int × Int × Int × Bool × List Int × Speriod_Table × Speriod_Table)) (K : Out U → Option ρ) : Option ρ := match y with | (x33, x36, x38, x39, x40, x41, x34, x35, x37) => K (.norm ⟨[(4, .ptr 4 0), (7, .ptr 7 0), (10, .ptr 10 0), (2, .flat (.int .i64 x33)), (8, .flat (.int .i64 x36)), (15, .flat (.int .i64 x38)), (17, .flat (.int .i64 x39)), (18, .flat (.int .i64 x40)), (130, .flat (.bool x41))], [(4, .lit ((Cd.arr 12 0 (Cd.int .i64)).enc x34)), (7, .lit (cd_Speriod_Table.enc x35)), (10, .lit (cd_Speriod_Table.enc x37))]⟩)
theorem pyxlaw13_PeriodBacks.j17000.finK_eq {ρ : Type} (y : (Int × Int × Int × Int × Int × Bool × List Int × Speriod_Table × Speriod_Table)) (K : Out U → Option ρ) : pyxlaw13_PeriodBacks.j17000.finK y K = K (pyxlaw13_PeriodBacks.j17000.fin y) := by
  unfold pyxlaw13_PeriodBacks.j17000.finK pyxlaw13_PeriodBacks.j17000.fin
  first | rfl | (split <;> rfl)
noncomputable def pyxlaw13_PeriodBacks.j17000.re : Out U → Option ((Int × Int × Int × Int × Int × Bool × List Int × Speriod_Table × Speriod_Table)) | .norm s => ((Cd.ofLit (Cd.arr 12 0 (Cd.int .i64)) s.o 4).bind fun q0 => ((Cd.ofLit cd_Speriod_Table s.o 7).bind fun q1 => ((Cd.ofLit cd_Speriod_Table s.o 10).bind fun q2 => (match s.get 4, s.get 7, s.get 10, s.get 2, s.get 8, s.get 15, s.get 17, s.get 18, s.get 130 with | .ptr 4 0, .ptr 7 0, .ptr 10 0, .flat (.int .i64 x33), .flat (.int .i64 x36), .flat (.int .i64 x38), .flat (.int .i64 x39), .flat (.int .i64 x40), .flat (.bool x41) => some (x33, x36, x38, x39, x40, x41, q0, q1, q2) | _, _, _, _, _, _, _, _, _ => none)))) | _ => none
noncomputable def pyxlaw13_PeriodBacks.j17000.J : JDen U := { Y := (Int × Int × Int × Int × Int × Bool × List Int × Speriod_Table × Speriod_Table), re := pyxlaw13_PeriodBacks.j17000.re, fin := pyxlaw13_PeriodBacks.j17000.fin, finK := pyxlaw13_PeriodBacks.j17000.finK, finK_eq := pyxlaw13_PeriodBacks.j17000.finK_eq }
theorem pyxlaw13_PeriodBacks.j17000.fit (o : Out U) (y : (Int × Int × Int × Int × Int × Bool × List Int × Speriod_Table × Speriod_Table)) (h : pyxlaw13_PeriodBacks.j17000.re o = some y) : FitsO o (pyxlaw13_PeriodBacks.j17000.fin y) := by
  unfold pyxlaw13_PeriodBacks.j17000.re at h
  split at h
  · obtain ⟨q0, eq0, h1⟩ := Option.bind_eq_some_iff.1 h
    obtain ⟨q1, eq1, h2⟩ := Option.bind_eq_some_iff.1 h1
    obtain ⟨q2, eq2, h3⟩ := Option.bind_eq_some_iff.1 h2
    split at h3
    · cases h3
      refine fitsO_norm (fits_ren [] ?_ ?_ ren_nil rfl)
      · exact List.forall_mem_cons.2 ⟨FV.same (by assumption) (fun _ _ _ hh => by cases hh) (fun _ hh => by cases hh), List.forall_mem_cons.2 ⟨FV.same (by assumption) (fun _ _ _ hh => by cases hh) (fun _ hh => by cases hh), List.forall_mem_cons.2 ⟨FV.same (by assumption) (fun _ _ _ hh => by cases hh) (fun _ hh => by cases hh), List.forall_mem_cons.2 ⟨FV.same (by assumption) (fun _ _ _ hh => by cases hh) (fun _ hh => by cases hh), List.forall_mem_cons.2 ⟨FV.same (by assumption) (fun _ _ _ hh => by cases hh) (fun _ hh => by cases hh), List.forall_mem_cons.2 ⟨FV.same (by assumption) (fun _ _ _ hh => by cases hh) (fun _ hh => by cases hh), List.forall_mem_cons.2 ⟨FV.same (by assumption) (fun _ _ _ hh => by cases hh) (fun _ hh => by cases hh), List.forall_mem_cons.2 ⟨FV.same (by assumption) (fun _ _ _ hh => by cases hh) (fun _ hh => by cases hh), List.forall_mem_cons.2 ⟨FV.same (by assumption) (fun _ _ _ hh => by cases hh) (fun _ hh => by cases hh), fun _ hp => (List.not_mem_nil hp).elim⟩⟩⟩⟩⟩⟩⟩⟩⟩
      · exact List.forall_mem_cons.2 ⟨(Cd.ofLit_ok eq0), List.forall_mem_cons.2 ⟨(Cd.ofLit_ok eq1), List.forall_mem_cons.2 ⟨(Cd.ofLit_ok eq2), fun _ hp => (List.not_mem_nil hp).elim⟩⟩⟩
    · cases h3
  · cases h
noncomputable def pyxlaw13_PeriodBacks.jl : List (Nat × JDen U) := [(9000, pyxlaw13_PeriodBacks.j9000.J), (17000, pyxlaw13_PeriodBacks.j17000.J)]
noncomputable def pyxlaw13_PeriodBacks.fl (k : Nat) : List (Nat × FDen U) := [(22, pyxhand_Pick.D k), (18, period_Close.D k), (19, period_Reopen.D k), (20, pyxlaw13_known.D k), (21, period_IsOpen.D k)]
noncomputable def pyxlaw13_PeriodBacks.ll (k : Nat) : List (Nat × LDen U) := [(4, pyxlaw13_PeriodBacks.l4.L k), (15, pyxlaw13_PeriodBacks.l15.L k)]
noncomputable def pyxlaw13_PeriodBacks.E (k : Nat) : Env U := { P := Try.prog, D := DD, fd := lk (pyxlaw13_PeriodBacks.fl k), ld := lk (pyxlaw13_PeriodBacks.ll k), jd := lk pyxlaw13_PeriodBacks.jl, mode := lk [], elc := lk ec, dyn := fun t => Nat.beq t 26 || Nat.beq t 27, vecs := fun d => false, results := Try.f8.results.toList }
theorem pyxlaw13_PeriodBacks.ok (k : Nat) : EnvOk (pyxlaw13_PeriodBacks.E k) := envOk lawful (pyxlaw13_PeriodBacks.fl k) (pyxlaw13_PeriodBacks.ll k) pyxlaw13_PeriodBacks.jl _ _ _ _ _ (by
  intro p hp
  simp only [pyxlaw13_PeriodBacks.fl, List.mem_cons, List.not_mem_nil, or_false] at hp
  rcases hp with rfl | rfl | rfl | rfl | rfl
  · exact ⟨pyxhand_Pick.sound k, enter_of Try.func22 (by kernel_rfl) (by kernel_rfl)⟩
  · exact ⟨period_Close.sound k, enter_of Try.func18 (by kernel_rfl) (by kernel_rfl)⟩
  · exact ⟨period_Reopen.sound k, enter_of Try.func19 (by kernel_rfl) (by kernel_rfl)⟩
  · exact ⟨pyxlaw13_known.sound k, enter_of Try.func20 (by kernel_rfl) (by kernel_rfl)⟩
  · exact ⟨period_IsOpen.sound k, enter_of Try.func21 (by kernel_rfl) (by kernel_rfl)⟩) (by
  intro p hp
  simp only [pyxlaw13_PeriodBacks.jl, List.mem_cons, List.not_mem_nil, or_false] at hp
  rcases hp with rfl | rfl
  · exact pyxlaw13_PeriodBacks.j9000.fit
  · exact pyxlaw13_PeriodBacks.j17000.fit)
theorem pyxlaw13_PeriodBacks.l4.eq (k : Nat) (x : (Int × Int × Int × List Int × Speriod_Table)) : evC (pyxlaw13_PeriodBacks.E k) (loopAt Try.f8 4) (pyxlaw13_PeriodBacks.l4.mk x) (headK pyxlaw13_PeriodBacks.l4.un pyxlaw13_PeriodBacks.l4.re) = pyxlaw13_PeriodBacks.l4.once k x := by kernel_rfl
theorem pyxlaw13_PeriodBacks.l4.fit (s : St U) (x : (Int × Int × Int × List Int × Speriod_Table)) (h : pyxlaw13_PeriodBacks.l4.un s = some x) : Fits s (pyxlaw13_PeriodBacks.l4.mk x) := by
  unfold pyxlaw13_PeriodBacks.l4.un at h
  obtain ⟨q0, eq0, h1⟩ := Option.bind_eq_some_iff.1 h
  obtain ⟨q1, eq1, h2⟩ := Option.bind_eq_some_iff.1 h1
  split at h2
  · cases h2
    refine fits_ren [] ?_ ?_ ren_nil rfl
    · exact List.forall_mem_cons.2 ⟨FV.same (by assumption) (fun _ _ _ hh => by cases hh) (fun _ hh => by cases hh), List.forall_mem_cons.2 ⟨FV.same (by assumption) (fun _ _ _ hh => by cases hh) (fun _ hh => by cases hh), List.forall_mem_cons.2 ⟨FV.same (by assumption) (fun _ _ _ hh => by cases hh) (fun _ hh => by cases hh), List.forall_mem_cons.2 ⟨FV.same (by assumption) (fun _ _ _ hh => by cases hh) (fun _ hh => by cases hh), List.forall_mem_cons.2 ⟨FV.same (by assumption) (fun _ _ _ hh => by cases hh) (fun _ hh => by cases hh), fun _ hp => (List.not_mem_nil hp).elim⟩⟩⟩⟩⟩
    · exact List.forall_mem_cons.2 ⟨(Cd.ofLit_ok eq0), List.forall_mem_cons.2 ⟨(Cd.ofLit_ok eq1), fun _ hp => (List.not_mem_nil hp).elim⟩⟩
  · cases h2
theorem pyxlaw13_PeriodBacks.l4.fitO (o : Out U) (y : (Int × Int × List Int × Speriod_Table)) (h : pyxlaw13_PeriodBacks.l4.re o = some y) : FitsO o (pyxlaw13_PeriodBacks.l4.fin y) := by
  unfold pyxlaw13_PeriodBacks.l4.re at h
  split at h
  · obtain ⟨q0, eq0, h1⟩ := Option.bind_eq_some_iff.1 h
    obtain ⟨q1, eq1, h2⟩ := Option.bind_eq_some_iff.1 h1
    split at h2
    · cases h2
      refine fitsO_exit (fits_ren [] ?_ ?_ ren_nil rfl)
      · exact List.forall_mem_cons.2 ⟨FV.same (by assumption) (fun _ _ _ hh => by cases hh) (fun _ hh => by cases hh), List.forall_mem_cons.2 ⟨FV.same (by assumption) (fun _ _ _ hh => by cases hh) (fun _ hh => by cases hh), List.forall_mem_cons.2 ⟨FV.same (by assumption) (fun _ _ _ hh => by cases hh) (fun _ hh => by cases hh), List.forall_mem_cons.2 ⟨FV.same (by assumption) (fun _ _ _ hh => by cases hh) (fun _ hh => by cases hh), fun _ hp => (List.not_mem_nil hp).elim⟩⟩⟩⟩
      · exact List.forall_mem_cons.2 ⟨(Cd.ofLit_ok eq0), List.forall_mem_cons.2 ⟨(Cd.ofLit_ok eq1), fun _ hp => (List.not_mem_nil hp).elim⟩⟩
    · cases h2
  · cases h
theorem pyxlaw13_PeriodBacks.l4.sound (k : Nat) : LSound (pyxlaw13_PeriodBacks.E k) Try.f8.ntmps Try.f8 (loopAt Try.f8 4) (pyxlaw13_PeriodBacks.l4.L k) :=
  loop_sound (pyxlaw13_PeriodBacks.ok k) mixed rfl (by kernel_rfl) (allL_of (l := []) (by kernel_rfl) allL_nil) pyxlaw13_PeriodBacks.l4.un pyxlaw13_PeriodBacks.l4.mk pyxlaw13_PeriodBacks.l4.fin pyxlaw13_PeriodBacks.l4.re (pyxlaw13_PeriodBacks.l4.once k) k pyxlaw13_PeriodBacks.l4.fit pyxlaw13_PeriodBacks.l4.fitO (pyxlaw13_PeriodBacks.l4.eq k) pyxlaw13_PeriodBacks.l4.finK pyxlaw13_PeriodBacks.l4.finK_eq
theorem pyxlaw13_PeriodBacks.l15.eq (k : Nat) (x : (Int × Int × Int × Int × Int × List Int × Speriod_Table × Speriod_Table)) : evC (pyxlaw13_PeriodBacks.E k) (loopAt Try.f8 15) (pyxlaw13_PeriodBacks.l15.mk x) (headK pyxlaw13_PeriodBacks.l15.un pyxlaw13_PeriodBacks.l15.re) = pyxlaw13_PeriodBacks.l15.once k x := by kernel_rfl
theorem pyxlaw13_PeriodBacks.l15.fit (s : St U) (x : (Int × Int × Int × Int × Int × List Int × Speriod_Table × Speriod_Table)) (h : pyxlaw13_PeriodBacks.l15.un s = some x) : Fits s (pyxlaw13_PeriodBacks.l15.mk x) := by
  unfold pyxlaw13_PeriodBacks.l15.un at h
  obtain ⟨q0, eq0, h1⟩ := Option.bind_eq_some_iff.1 h
  obtain ⟨q1, eq1, h2⟩ := Option.bind_eq_some_iff.1 h1
  obtain ⟨q2, eq2, h3⟩ := Option.bind_eq_some_iff.1 h2
  split at h3
  · cases h3
    refine fits_ren [] ?_ ?_ ren_nil rfl
    · exact List.forall_mem_cons.2 ⟨FV.same (by assumption) (fun _ _ _ hh => by cases hh) (fun _ hh => by cases hh), List.forall_mem_cons.2 ⟨FV.same (by assumption) (fun _ _ _ hh => by cases hh) (fun _ hh => by cases hh), List.forall_mem_cons.2 ⟨FV.same (by assumption) (fun _ _ _ hh => by cases hh) (fun _ hh => by cases hh), List.forall_mem_cons.2 ⟨FV.same (by assumption) (fun _ _ _ hh => by cases hh) (fun _ hh => by cases hh), List.forall_mem_cons.2 ⟨FV.same (by assumption) (fun _ _ _ hh => by cases hh) (fun _ hh => by cases hh), List.forall_mem_cons.2 ⟨FV.same (by assumption) (fun _ _ _ hh => by cases hh) (fun _ hh => by cases hh), List.forall_mem_cons.2 ⟨FV.same (by assumption) (fun _ _ _ hh => by cases hh) (fun _ hh => by cases hh), List.forall_mem_cons.2 ⟨FV.same (by assumption) (fun _ _ _ hh => by cases hh) (fun _ hh => by cases hh), fun _ hp => (List.not_mem_nil hp).elim⟩⟩⟩⟩⟩⟩⟩⟩
    · exact List.forall_mem_cons.2 ⟨(Cd.ofLit_ok eq0), List.forall_mem_cons.2 ⟨(Cd.ofLit_ok eq1), List.forall_mem_cons.2 ⟨(Cd.ofLit_ok eq2), fun _ hp => (List.not_mem_nil hp).elim⟩⟩⟩
  · cases h3
theorem pyxlaw13_PeriodBacks.l15.fitO (o : Out U) (y : (Int × Int × Int × Int) ⊕ Bool) (h : pyxlaw13_PeriodBacks.l15.re o = some y) : FitsO o (pyxlaw13_PeriodBacks.l15.fin y) := by
  unfold pyxlaw13_PeriodBacks.l15.re at h
  split at h
  · split at h
    · cases h
      refine fitsO_exit (fits_ren [] ?_ ?_ ren_nil rfl)
      · exact List.forall_mem_cons.2 ⟨FV.same (by assumption) (fun _ _ _ hh => by cases hh) (fun _ hh => by cases hh), List.forall_mem_cons.2 ⟨FV.same (by assumption) (fun _ _ _ hh => by cases hh) (fun _ hh => by cases hh), List.forall_mem_cons.2 ⟨FV.same (by assumption) (fun _ _ _ hh => by cases hh) (fun _ hh => by cases hh), List.forall_mem_cons.2 ⟨FV.same (by assumption) (fun _ _ _ hh => by cases hh) (fun _ hh => by cases hh), fun _ hp => (List.not_mem_nil hp).elim⟩⟩⟩⟩
      · exact fun _ hp => (List.not_mem_nil hp).elim
    · cases h
  · split at h
    · cases h; exact fitsO_ret
    · cases h
  · cases h
theorem pyxlaw13_PeriodBacks.l15.sound (k : Nat) : LSound (pyxlaw13_PeriodBacks.E k) Try.f8.ntmps Try.f8 (loopAt Try.f8 15) (pyxlaw13_PeriodBacks.l15.L k) :=
  loop_sound (pyxlaw13_PeriodBacks.ok k) mixed rfl (by kernel_rfl) (allL_of (l := []) (by kernel_rfl) allL_nil) pyxlaw13_PeriodBacks.l15.un pyxlaw13_PeriodBacks.l15.mk pyxlaw13_PeriodBacks.l15.fin pyxlaw13_PeriodBacks.l15.re (pyxlaw13_PeriodBacks.l15.once k) k pyxlaw13_PeriodBacks.l15.fit pyxlaw13_PeriodBacks.l15.fitO (pyxlaw13_PeriodBacks.l15.eq k) pyxlaw13_PeriodBacks.l15.finK pyxlaw13_PeriodBacks.l15.finK_eq
theorem pyxlaw13_PeriodBacks.eq (k : Nat) (x : (Int × List Int × Int)) : runF (pyxlaw13_PeriodBacks.E k) (codeOf Try.f8) (pyxlaw13_PeriodBacks.mk x) pyxlaw13_PeriodBacks.re = (pyxlaw13_PeriodBacks.D k).f x := by kernel_rfl
theorem pyxlaw13_PeriodBacks.sound (k : Nat) : Sound Try.prog DD 8 (pyxlaw13_PeriodBacks.D k) :=
  fun_sound (E := pyxlaw13_PeriodBacks.E k) (fn := Try.f8) (c := codeOf Try.f8) (pyxlaw13_PeriodBacks.ok k) mixed rfl Try.func8 (by kernel_rfl) (by kernel_rfl) (allL_of (l := [loopAt Try.f8 4, loopAt Try.f8 15]) (by kernel_rfl) (allL_cons (key := 4) (by kernel_rfl) rfl (pyxlaw13_PeriodBacks.l4.sound k) (allL_cons (key := 15) (by kernel_rfl) rfl (pyxlaw13_PeriodBacks.l15.sound k) allL_nil))) (pyxlaw13_PeriodBacks.D k) pyxlaw13_PeriodBacks.mk pyxlaw13_PeriodBacks.re
    (by intro args x h; replace h : pyxlaw13_PeriodBacks.un args = some x := h; unfold pyxlaw13_PeriodBacks.un at h; split at h; · obtain ⟨x3, hb0, h0⟩ := Option.bind_eq_some_iff.1 h; have hc0 := Cd.full_ok hb0; clear h; subst hc0; cases h0; rfl
        · cases h)
    (by intro v y h; unfold pyxlaw13_PeriodBacks.re at h; split at h; · cases h; rfl
        · cases h)
    (fun _ => rfl) (fun x => Nat.le_of_ble_eq_true (by kernel_rfl)) (pyxlaw13_PeriodBacks.eq k)
/-! ### pyx/pyxlaw9.RoleChains: function 12 -/
noncomputable def pyxlaw9_RoleChains.l5.once (k : Nat) (x : (Int × Int × List Int × List Int × Int)) : Option ((Int × Int × List Int × List Int × Int) ⊕ ((Int × List Int × List Int))) := match x with | (x3, x4, x5, x6, x7) => cond (decide (x7 < x3)) (cond (okLen (List.length x5 + List.length [IntKind.wrap .i64 (x7 - 1)]) 8) (cond (okLen (List.length x6 + List.length [(-1)]) 8) (some (.inl (x3, x4, x5 ++ [IntKind.wrap .i64 (x7 - 1)], x6 ++ [(-1)], IntKind.wrap .i64 (x7 + 1)))) none) none) (some (.inr (x4, x5, x6)))
noncomputable def pyxlaw9_RoleChains.f (k : Nat) (a0 : Int) (a1 : Int) : Option Bool := (pyxhand_Pick.f k a0 8).bind fun t1 => ((pyxhand_Pick.f k a1 (IntKind.wrap .i64 (1 + t1))).bind fun t2 => ((iter (pyxlaw9_RoleChains.l5.once k) k (IntKind.wrap .i64 (1 + t1), t2, ([] : List Int), ([] : List Int), 0)).bind fun y11 => (cond (decide (IntKind.wrap .u64 (y11.1) < 0)) none ((pyxlaw9_known.f k).bind fun t12 => (cond (t12) ((role_All.f k y11.2.1 (IntKind.wrap .u64 (1 * 2 ^ (min (Int.toNat (IntKind.wrap .u64 (y11.1))) 64)))).bind fun t13 => (cond (t13 == (IntKind.wrap .u64 ((IntKind.wrap .u64 (2 * (IntKind.wrap .u64 (1 * 2 ^ (min (Int.toNat (IntKind.wrap .u64 (y11.1))) 64))))) - 1))) ((role_All.f k y11.2.2 (IntKind.wrap .u64 (1 * 2 ^ (min (Int.toNat (IntKind.wrap .u64 (y11.1))) 64)))).bind fun t14 => (cond (t14 == (IntKind.wrap .u64 (1 * 2 ^ (min (Int.toNat (IntKind.wrap .u64 (y11.1))) 64)))) ((role_Has.f k y11.2.1 (IntKind.wrap .u64 (1 * 2 ^ (min (Int.toNat (IntKind.wrap .u64 (y11.1))) 64))) 0).bind fun t15 => (cond (t15) ((role_Has.f k y11.2.2 (IntKind.wrap .u64 (1 * 2 ^ (min (Int.toNat (IntKind.wrap .u64 (y11.1))) 64))) 0).bind fun t16 => (some (t16 == (y11.1 == 0)))) (some false))) (some false))) (some false))) (some false))))))
noncomputable def pyxlaw9_RoleChains.un : List (AV U) → Option (Int × Int) | [.flat (.int .i64 x1), .flat (.int .i64 x2)] => some (x1, x2) | _ => none
noncomputable def pyxlaw9_RoleChains.mk (x : (Int × Int)) : List (AV U) := [.flat (.int .i64 x.1), .flat (.int .i64 x.2)]
noncomputable def pyxlaw9_RoleChains.D (k : Nat) : FDen U := { X := (Int × Int), Y := Bool, un := pyxlaw9_RoleChains.un, f := fun x => pyxlaw9_RoleChains.f k (x.1) (x.2), fin := fun y => .flat (.bool y) }
noncomputable def pyxlaw9_RoleChains.re : AV U → Option Bool | .flat (.bool x1) => some x1 | _ => none
noncomputable def pyxlaw9_RoleChains.l5.mk (x : (Int × Int × List Int × List Int × Int)) : St U := match x with | (x3, x4, x5, x6, x7) => ⟨[(0, .flat (.int .i64 x3)), (1, .flat (.int .i64 x4)), (5, .tip 1005005 C.i64 x5), (6, .tip 1005006 C.i64 x6), (7, .flat (.int .i64 x7))], [(1005005, .tip 1), (1005006, .tip 1)]⟩
noncomputable def pyxlaw9_RoleChains.l5.un (s : St U) : Option (Int × Int × List Int × List Int × Int) := (tip_i64 s.o 1 (s.get 5)).bind fun q0 => ((tip_i64 s.o 1 (s.get 6)).bind fun q1 => (cond (apart [q0.1, q1.1]) (match s.get 0, s.get 1, s.get 7 with | .flat (.int .i64 x3), .flat (.int .i64 x4), .flat (.int .i64 x7) => some (x3, x4, q0.2, q1.2, x7) | _, _, _ => none) none))
noncomputable def pyxlaw9_RoleChains.l5.fin (y : (Int × List Int × List Int)) : Out U := match y with | (x8, x9, x10) => .exit 0 ⟨[(1, .flat (.int .i64 x8)), (5, .tip 1005005 C.i64 x9), (6, .tip 1005006 C.i64 x10)], [(1005005, .tip 1), (1005006, .tip 1)]⟩
noncomputable def pyxlaw9_RoleChains.l5.finK {ρ : Type} (y : (Int × List Int × List Int)) (K : Out U → Option ρ) : Option ρ := match y with | (x8, x9, x10) => K (.exit 0 ⟨[(1, .flat (.int .i64 x8)), (5, .tip 1005005 C.i64 x9), (6, .tip 1005006 C.i64 x10)], [(1005005, .tip 1), (1005006, .tip 1)]⟩)
theorem pyxlaw9_RoleChains.l5.finK_eq {ρ : Type} (y : (Int × List Int × List Int)) (K : Out U → Option ρ) : pyxlaw9_RoleChains.l5.finK y K = K (pyxlaw9_RoleChains.l5.fin y) := by
  unfold pyxlaw9_RoleChains.l5.finK pyxlaw9_RoleChains.l5.fin
  first | rfl | (split <;> rfl)
noncomputable def pyxlaw9_RoleChains.l5.re : Out U → Option ((Int × List Int × List Int)) | .exit 0 s => ((tip_i64 s.o 1 (s.get 5)).bind fun q0 => ((tip_i64 s.o 1 (s.get 6)).bind fun q1 => (cond (apart [q0.1, q1.1]) (match s.get 1 with | .flat (.int .i64 x8) => some (x8, q0.2, q1.2) | _ => none) none))) | _ => none
noncomputable def pyxlaw9_RoleChains.l5.L (k : Nat) : LDen U := { X := (Int × Int × List Int × List Int × Int), Y := (Int × List Int × List Int), un := pyxlaw9_RoleChains.l5.un, f := iter (pyxlaw9_RoleChains.l5.once k) k, fin := pyxlaw9_RoleChains.l5.fin, finK := pyxlaw9_RoleChains.l5.finK, finK_eq := pyxlaw9_RoleChains.l5.finK_eq }
noncomputable def pyxlaw9_RoleChains.jl : List (Nat × JDen U) := []
noncomputable def pyxlaw9_RoleChains.fl (k : Nat) : List (Nat × FDen U) := [(22, pyxhand_Pick.D k), (26, pyxlaw9_known.D k), (27, role_All.D k), (29, role_Has.D k)]
noncomputable def pyxlaw9_RoleChains.ll (k : Nat) : List (Nat × LDen U) := [(5, pyxlaw9_RoleChains.l5.L k)]
noncomputable def pyxlaw9_RoleChains.E (k : Nat) : Env U := { P := Try.prog, D := DD, fd := lk (pyxlaw9_RoleChains.fl k), ld := lk (pyxlaw9_RoleChains.ll k), jd := lk pyxlaw9_RoleChains.jl, mode := lk [], elc := lk ec, dyn := fun t => false, vecs := fun d => false, results := Try.f12.results.toList }
theorem pyxlaw9_RoleChains.ok (k : Nat) : EnvOk (pyxlaw9_RoleChains.E k) := envOk lawful (pyxlaw9_RoleChains.fl k) (pyxlaw9_RoleChains.ll k) pyxlaw9_RoleChains.jl _ _ _ _ _ (by
  intro p hp
  simp only [pyxlaw9_RoleChains.fl, List.mem_cons, List.not_mem_nil, or_false] at hp
  rcases hp with rfl | rfl | rfl | rfl
  · exact ⟨pyxhand_Pick.sound k, enter_of Try.func22 (by kernel_rfl) (by kernel_rfl)⟩
  · exact ⟨pyxlaw9_known.sound k, enter_of Try.func26 (by kernel_rfl) (by kernel_rfl)⟩
  · exact ⟨role_All.sound k, enter_of Try.func27 (by kernel_rfl) (by kernel_rfl)⟩
  · exact ⟨role_Has.sound k, enter_of Try.func29 (by kernel_rfl) (by kernel_rfl)⟩) (by
  intro p hp
  simp [pyxlaw9_RoleChains.jl] at hp)
theorem pyxlaw9_RoleChains.l5.eq (k : Nat) (x : (Int × Int × List Int × List Int × Int)) : evC (pyxlaw9_RoleChains.E k) (loopAt Try.f12 5) (pyxlaw9_RoleChains.l5.mk x) (headK pyxlaw9_RoleChains.l5.un pyxlaw9_RoleChains.l5.re) = pyxlaw9_RoleChains.l5.once k x := by kernel_rfl
theorem pyxlaw9_RoleChains.l5.fit (s : St U) (x : (Int × Int × List Int × List Int × Int)) (h : pyxlaw9_RoleChains.l5.un s = some x) : Fits s (pyxlaw9_RoleChains.l5.mk x) := by
  unfold pyxlaw9_RoleChains.l5.un at h
  obtain ⟨q0, eq0, h1⟩ := Option.bind_eq_some_iff.1 h
  obtain ⟨q1, eq1, h2⟩ := Option.bind_eq_some_iff.1 h1
  obtain ⟨hap, h3⟩ := cond_none h2
  split at h3
  · cases h3
    refine fits_ren [(1005005, q0.1), (1005006, q1.1)] ?_ ?_ (ren_apart hap) rfl
    · exact List.forall_mem_cons.2 ⟨FV.same (by assumption) (fun _ _ _ hh => by cases hh) (fun _ hh => by cases hh), List.forall_mem_cons.2 ⟨FV.same (by assumption) (fun _ _ _ hh => by cases hh) (fun _ hh => by cases hh), List.forall_mem_cons.2 ⟨(tip_i64_fit eq0 rfl).1, List.forall_mem_cons.2 ⟨(tip_i64_fit eq1 rfl).1, List.forall_mem_cons.2 ⟨FV.same (by assumption) (fun _ _ _ hh => by cases hh) (fun _ hh => by cases hh), fun _ hp => (List.not_mem_nil hp).elim⟩⟩⟩⟩⟩
    · exact List.forall_mem_cons.2 ⟨(tip_i64_fit eq0 rfl).2, List.forall_mem_cons.2 ⟨(tip_i64_fit eq1 rfl).2, fun _ hp => (List.not_mem_nil hp).elim⟩⟩
  · cases h3
theorem pyxlaw9_RoleChains.l5.fitO (o : Out U) (y : (Int × List Int × List Int)) (h : pyxlaw9_RoleChains.l5.re o = some y) : FitsO o (pyxlaw9_RoleChains.l5.fin y) := by
  unfold pyxlaw9_RoleChains.l5.re at h
  split at h
  · obtain ⟨q0, eq0, h1⟩ := Option.bind_eq_some_iff.1 h
    obtain ⟨q1, eq1, h2⟩ := Option.bind_eq_some_iff.1 h1
    obtain ⟨hap, h3⟩ := cond_none h2
    split at h3
    · cases h3
      refine fitsO_exit (fits_ren [(1005005, q0.1), (1005006, q1.1)] ?_ ?_ (ren_apart hap) rfl)
      · exact List.forall_mem_cons.2 ⟨FV.same (by assumption) (fun _ _ _ hh => by cases hh) (fun _ hh => by cases hh), List.forall_mem_cons.2 ⟨(tip_i64_fit eq0 rfl).1, List.forall_mem_cons.2 ⟨(tip_i64_fit eq1 rfl).1, fun _ hp => (List.not_mem_nil hp).elim⟩⟩⟩
      · exact List.forall_mem_cons.2 ⟨(tip_i64_fit eq0 rfl).2, List.forall_mem_cons.2 ⟨(tip_i64_fit eq1 rfl).2, fun _ hp => (List.not_mem_nil hp).elim⟩⟩
    · cases h3
  · cases h
theorem pyxlaw9_RoleChains.l5.sound (k : Nat) : LSound (pyxlaw9_RoleChains.E k) Try.f12.ntmps Try.f12 (loopAt Try.f12 5) (pyxlaw9_RoleChains.l5.L k) :=
  loop_sound (pyxlaw9_RoleChains.ok k) mixed rfl (by kernel_rfl) (allL_of (l := []) (by kernel_rfl) allL_nil) pyxlaw9_RoleChains.l5.un pyxlaw9_RoleChains.l5.mk pyxlaw9_RoleChains.l5.fin pyxlaw9_RoleChains.l5.re (pyxlaw9_RoleChains.l5.once k) k pyxlaw9_RoleChains.l5.fit pyxlaw9_RoleChains.l5.fitO (pyxlaw9_RoleChains.l5.eq k) pyxlaw9_RoleChains.l5.finK pyxlaw9_RoleChains.l5.finK_eq
theorem pyxlaw9_RoleChains.eq (k : Nat) (x : (Int × Int)) : runF (pyxlaw9_RoleChains.E k) (codeOf Try.f12) (pyxlaw9_RoleChains.mk x) pyxlaw9_RoleChains.re = (pyxlaw9_RoleChains.D k).f x := by kernel_rfl
theorem pyxlaw9_RoleChains.sound (k : Nat) : Sound Try.prog DD 12 (pyxlaw9_RoleChains.D k) :=
  fun_sound (E := pyxlaw9_RoleChains.E k) (fn := Try.f12) (c := codeOf Try.f12) (pyxlaw9_RoleChains.ok k) mixed rfl Try.func12 (by kernel_rfl) (by kernel_rfl) (allL_of (l := [loopAt Try.f12 5]) (by kernel_rfl) (allL_cons (key := 5) (by kernel_rfl) rfl (pyxlaw9_RoleChains.l5.sound k) allL_nil)) (pyxlaw9_RoleChains.D k) pyxlaw9_RoleChains.mk pyxlaw9_RoleChains.re
    (by intro args x h; replace h : pyxlaw9_RoleChains.un args = some x := h; unfold pyxlaw9_RoleChains.un at h; split at h; · cases h; rfl
        · cases h)
    (by intro v y h; unfold pyxlaw9_RoleChains.re at h; split at h; · cases h; rfl
        · cases h)
    (fun _ => rfl) (fun x => Nat.le_of_ble_eq_true (by kernel_rfl)) (pyxlaw9_RoleChains.eq k)
/-! ### pyx/chart.Kind: function 13 -/
noncomputable def chart_Kind.f (k : Nat) (a0 : Int) : Option Int := ((cond (decide (a0 < 0)) (some (a0, true)) (some (a0, decide (a0 ≥ 16)))) : Option (Int × Bool)).bind fun y3 => (cond (y3.2) (some 0) (cond (decide (y3.1 ≤ 3)) (some 1) (cond (decide (y3.1 ≤ 6)) (some 2) (cond (decide (y3.1 ≤ 8)) (some 3) (some 4)))))
noncomputable def chart_Kind.un : List (AV U) → Option Int | [.flat (.int .i64 x1)] => some x1 | _ => none
noncomputable def chart_Kind.mk (x : Int) : List (AV U) := [.flat (.int .i64 x)]
noncomputable def chart_Kind.D (k : Nat) : FDen U := { X := Int, Y := Int, un := chart_Kind.un, f := fun x => chart_Kind.f k (x), fin := fun y => .flat (.int .i64 y) }
noncomputable def chart_Kind.re : AV U → Option Int | .flat (.int .i64 x1) => some x1 | _ => none
noncomputable def chart_Kind.j1000.fin (y : (Int × Bool)) : Out U := match y with | (x1, x2) => .norm ⟨[(0, .flat (.int .i64 x1)), (3, .flat (.bool x2))], []⟩
noncomputable def chart_Kind.j1000.finK {ρ : Type} (y : (Int × Bool)) (K : Out U → Option ρ) : Option ρ := match y with | (x1, x2) => K (.norm ⟨[(0, .flat (.int .i64 x1)), (3, .flat (.bool x2))], []⟩)
theorem chart_Kind.j1000.finK_eq {ρ : Type} (y : (Int × Bool)) (K : Out U → Option ρ) : chart_Kind.j1000.finK y K = K (chart_Kind.j1000.fin y) := by
  unfold chart_Kind.j1000.finK chart_Kind.j1000.fin
  first | rfl | (split <;> rfl)
noncomputable def chart_Kind.j1000.re : Out U → Option ((Int × Bool)) | .norm s => (match s.get 0, s.get 3 with | .flat (.int .i64 x1), .flat (.bool x2) => some (x1, x2) | _, _ => none) | _ => none
noncomputable def chart_Kind.j1000.J : JDen U := { Y := (Int × Bool), re := chart_Kind.j1000.re, fin := chart_Kind.j1000.fin, finK := chart_Kind.j1000.finK, finK_eq := chart_Kind.j1000.finK_eq }
theorem chart_Kind.j1000.fit (o : Out U) (y : (Int × Bool)) (h : chart_Kind.j1000.re o = some y) : FitsO o (chart_Kind.j1000.fin y) := by
  unfold chart_Kind.j1000.re at h
  split at h
  · split at h
    · cases h
      refine fitsO_norm (fits_ren [] ?_ ?_ ren_nil rfl)
      · exact List.forall_mem_cons.2 ⟨FV.same (by assumption) (fun _ _ _ hh => by cases hh) (fun _ hh => by cases hh), List.forall_mem_cons.2 ⟨FV.same (by assumption) (fun _ _ _ hh => by cases hh) (fun _ hh => by cases hh), fun _ hp => (List.not_mem_nil hp).elim⟩⟩
      · exact fun _ hp => (List.not_mem_nil hp).elim
    · cases h
  · cases h
noncomputable def chart_Kind.jl : List (Nat × JDen U) := [(1000, chart_Kind.j1000.J)]
noncomputable def chart_Kind.fl (k : Nat) : List (Nat × FDen U) := []
noncomputable def chart_Kind.ll (k : Nat) : List (Nat × LDen U) := []
noncomputable def chart_Kind.E (k : Nat) : Env U := { P := Try.prog, D := DD, fd := lk (chart_Kind.fl k), ld := lk (chart_Kind.ll k), jd := lk chart_Kind.jl, mode := lk [], elc := lk ec, dyn := fun t => false, vecs := fun d => false, results := Try.f13.results.toList }
theorem chart_Kind.ok (k : Nat) : EnvOk (chart_Kind.E k) := envOk lawful (chart_Kind.fl k) (chart_Kind.ll k) chart_Kind.jl _ _ _ _ _ (by
  intro p hp
  simp [chart_Kind.fl] at hp) (by
  intro p hp
  simp only [chart_Kind.jl, List.mem_cons, List.not_mem_nil, or_false] at hp
  rcases hp with rfl
  · exact chart_Kind.j1000.fit)
theorem chart_Kind.eq (k : Nat) (x : Int) : runF (chart_Kind.E k) (codeOf Try.f13) (chart_Kind.mk x) chart_Kind.re = (chart_Kind.D k).f x := by kernel_rfl
theorem chart_Kind.sound (k : Nat) : Sound Try.prog DD 13 (chart_Kind.D k) :=
  fun_sound (E := chart_Kind.E k) (fn := Try.f13) (c := codeOf Try.f13) (chart_Kind.ok k) mixed rfl Try.func13 (by kernel_rfl) (by kernel_rfl) (allL_of (l := []) (by kernel_rfl) allL_nil) (chart_Kind.D k) chart_Kind.mk chart_Kind.re
    (by intro args x h; replace h : chart_Kind.un args = some x := h; unfold chart_Kind.un at h; split at h; · cases h; rfl
        · cases h)
    (by intro v y h; unfold chart_Kind.re at h; split at h; · cases h; rfl
        · cases h)
    (fun _ => rfl) (fun x => Nat.le_of_ble_eq_true (by kernel_rfl)) (chart_Kind.eq k)
end
end Go.Proofs.Ytojkgadihooplaa
