import Derived.Test.YtojkgadihooplaaU
/-! Functions, told; their equations with the evaluator; that they are sound. Written by gen.py. -/
namespace Go.Proofs.Ytojkgadihooplaa
open Go Go.Ev
noncomputable section
set_option linter.unusedVariables false
set_option linter.unusedSimpArgs false
set_option maxRecDepth 100000
/-! ### pyx/pyxhand.Pick: function 22 -/
noncomputable def pyxhand_Pick.f (k : Nat) (a0 : Int) (a1 : Int) : Option Int := cond (a1 == 0) none (cond (decide ((Int.tmod a0 a1) < 0)) (some (IntKind.wrap .i64 ((Int.tmod a0 a1) + a1))) (some (Int.tmod a0 a1)))
noncomputable def pyxhand_Pick.un : List (AV U) → Option (Int × Int) | [.flat (.int .i64 x1), .flat (.int .i64 x2)] => some (x1, x2) | _ => none
noncomputable def pyxhand_Pick.mk (x : (Int × Int)) : List (AV U) := [.flat (.int .i64 x.1), .flat (.int .i64 x.2)]
noncomputable def pyxhand_Pick.D (k : Nat) : FDen U := { X := (Int × Int), Y := Int, un := pyxhand_Pick.un, f := fun x => pyxhand_Pick.f k (x.1) (x.2), fin := fun y => .flat (.int .i64 y) }
noncomputable def pyxhand_Pick.re : AV U → Option Int | .flat (.int .i64 x1) => some x1 | _ => none
noncomputable def pyxhand_Pick.jl : List (Nat × JDen U) := []
noncomputable def pyxhand_Pick.fl (k : Nat) : List (Nat × FDen U) := []
noncomputable def pyxhand_Pick.ll (k : Nat) : List (Nat × LDen U) := []
noncomputable def pyxhand_Pick.E (k : Nat) : Env U := { P := Try.prog, D := DD, fd := lk (pyxhand_Pick.fl k), ld := lk (pyxhand_Pick.ll k), jd := lk pyxhand_Pick.jl, mode := lk [], elc := lk ec, dyn := fun t => false, vecs := fun d => false, results := Try.f22.results.toList }
theorem pyxhand_Pick.ok (k : Nat) : EnvOk (pyxhand_Pick.E k) := envOk lawful (pyxhand_Pick.fl k) (pyxhand_Pick.ll k) pyxhand_Pick.jl _ _ _ _ _ (by
  intro p hp
  simp [pyxhand_Pick.fl] at hp) (by
  intro p hp
  simp [pyxhand_Pick.jl] at hp)
theorem pyxhand_Pick.eq (k : Nat) (x : (Int × Int)) : runF (pyxhand_Pick.E k) (codeOf Try.f22) (pyxhand_Pick.mk x) pyxhand_Pick.re = (pyxhand_Pick.D k).f x := by kernel_rfl
theorem pyxhand_Pick.sound (k : Nat) : Sound Try.prog DD 22 (pyxhand_Pick.D k) :=
  fun_sound (E := pyxhand_Pick.E k) (fn := Try.f22) (c := codeOf Try.f22) (pyxhand_Pick.ok k) mixed rfl Try.func22 (by kernel_rfl) (by kernel_rfl) (allL_of (l := []) (by kernel_rfl) allL_nil) (pyxhand_Pick.D k) pyxhand_Pick.mk pyxhand_Pick.re
    (by intro args x h; replace h : pyxhand_Pick.un args = some x := h; unfold pyxhand_Pick.un at h; split at h; · cases h; rfl
        · cases h)
    (by intro v y h; unfold pyxhand_Pick.re at h; split at h; · cases h; rfl
        · cases h)
    (fun _ => rfl) (fun x => Nat.le_of_ble_eq_true (by kernel_rfl)) (pyxhand_Pick.eq k)
/-! ### pyx/pyxlaw9.parents: function 30 -/
noncomputable def pyxlaw9_parents.l3.once (k : Nat) (x : (List Int × Int × Int × List Int)) : Option ((List Int × Int × Int × List Int) ⊕ ((Int × List Int))) := match x with | (x1, x2, x4, x3) => ((cond (decide (x4 < (List.length x1 : Int))) (some (x1, x2, x4, decide (x4 < 10), x3)) (some (x1, x2, x4, false, x3))) : Option (List Int × Int × Int × Bool × List Int)).bind fun y10 => (cond (y10.2.2.2.1) (cond (inb y10.2.2.1 (List.length y10.1)) ((pyxhand_Pick.f k (List.getD y10.1 (Int.toNat y10.2.2.1) 0) (IntKind.wrap .i64 (y10.2.2.1 + 1))).bind fun t11 => (cond (okLen (List.length y10.2.2.2.2 + List.length [IntKind.wrap .i64 (t11 - 1)]) 8) (some (.inl (y10.1, y10.2.1, IntKind.wrap .i64 (y10.2.2.1 + 1), y10.2.2.2.2 ++ [IntKind.wrap .i64 (t11 - 1)]))) none)) none) (some (.inr (y10.2.1, y10.2.2.2.2))))
noncomputable def pyxlaw9_parents.f (k : Nat) (a0 : List Int) (a1 : Int) : Option (List Int) := (iter (pyxlaw9_parents.l3.once k) k (a0, a1, 0, ([] : List Int))).bind fun y14 => (((cond (decide ((List.length y14.2 : Int) > 0)) (some (y14.1, (Int.tmod y14.1 5) == 4, y14.2)) (some (y14.1, false, y14.2))) : Option (Int × Bool × List Int)).bind fun y18 => (cond (y18.2.1) ((pyxhand_Pick.f k y18.1 (List.length y18.2.2 : Int)).bind fun t19 => ((pyxhand_Pick.f k (IntKind.wrap .i64 (Int.tdiv y18.1 5)) 13).bind fun t20 => (cond (inb t19 (List.length y18.2.2)) (cond (Nat.blt (Int.toNat t19) (List.length y18.2.2)) (some (List.set y18.2.2 (Int.toNat t19) (IntKind.wrap .i64 (t20 - 3)))) none) none))) (some y18.2.2)))
noncomputable def pyxlaw9_parents.un : List (AV U) → Option (List Int × Int) | [.row C.i64 x1, .flat (.int .i64 x2)] => some (x1, x2) | _ => none
noncomputable def pyxlaw9_parents.mk (x : (List Int × Int)) : List (AV U) := [.row C.i64 x.1, .flat (.int .i64 x.2)]
noncomputable def pyxlaw9_parents.D (k : Nat) : FDen U := { X := (List Int × Int), Y := List Int, un := pyxlaw9_parents.un, f := fun x => pyxlaw9_parents.f k (x.1) (x.2), fin := fun y => .row C.i64 y }
noncomputable def pyxlaw9_parents.re : AV U → Option (List Int) | .row C.i64 x1 => some x1 | _ => none
noncomputable def pyxlaw9_parents.l3.mk (x : (List Int × Int × Int × List Int)) : St U := match x with | (x1, x2, x4, x3) => ⟨[(0, .row C.i64 x1), (1, .flat (.int .i64 x2)), (5, .vs 1003005), (6, .flat (.int .i64 x4))], [(1003005, .vec C.i64 x3)]⟩
noncomputable def pyxlaw9_parents.l3.un (s : St U) : Option (List Int × Int × Int × List Int) := (row_i64 (s.get 0)).bind fun q0 => ((vec_i64 s.o (s.get 5)).bind fun q1 => (match s.get 1, s.get 6 with | .flat (.int .i64 x2), .flat (.int .i64 x4) => some (q0, x2, x4, q1.2) | _, _ => none))
noncomputable def pyxlaw9_parents.l3.fin (y : (Int × List Int)) : Out U := match y with | (x12, x13) => .exit 0 ⟨[(1, .flat (.int .i64 x12)), (5, .vs 1003005)], [(1003005, .vec C.i64 x13)]⟩
noncomputable def pyxlaw9_parents.l3.finK {ρ : Type} (y : (Int × List Int)) (K : Out U → Option ρ) : Option ρ := match y with | (x12, x13) => K (.exit 0 ⟨[(1, .flat (.int .i64 x12)), (5, .vs 1003005)], [(1003005, .vec C.i64 x13)]⟩)
theorem pyxlaw9_parents.l3.finK_eq {ρ : Type} (y : (Int × List Int)) (K : Out U → Option ρ) : pyxlaw9_parents.l3.finK y K = K (pyxlaw9_parents.l3.fin y) := by
  unfold pyxlaw9_parents.l3.finK pyxlaw9_parents.l3.fin
  first | rfl | (split <;> rfl)
noncomputable def pyxlaw9_parents.l3.re : Out U → Option ((Int × List Int)) | .exit 0 s => ((vec_i64 s.o (s.get 5)).bind fun q0 => (match s.get 1 with | .flat (.int .i64 x12) => some (x12, q0.2) | _ => none)) | _ => none
noncomputable def pyxlaw9_parents.l3.L (k : Nat) : LDen U := { X := (List Int × Int × Int × List Int), Y := (Int × List Int), un := pyxlaw9_parents.l3.un, f := iter (pyxlaw9_parents.l3.once k) k, fin := pyxlaw9_parents.l3.fin, finK := pyxlaw9_parents.l3.finK, finK_eq := pyxlaw9_parents.l3.finK_eq }
noncomputable def pyxlaw9_parents.j3000.fin (y : (List Int × Int × Int × Bool × List Int)) : Out U := match y with | (x5, x6, x8, x9, x7) => .norm ⟨[(0, .row C.i64 x5), (1, .flat (.int .i64 x6)), (5, .vs 1004000005), (6, .flat (.int .i64 x8)), (14, .flat (.bool x9))], [(1004000005, .vec C.i64 x7)]⟩
noncomputable def pyxlaw9_parents.j3000.finK {ρ : Type} (y : (List Int × Int × Int × Bool × List Int)) (K : Out U → Option ρ) : Option ρ := match y with | (x5, x6, x8, x9, x7) => K (.norm ⟨[(0, .row C.i64 x5), (1, .flat (.int .i64 x6)), (5, .vs 1004000005), (6, .flat (.int .i64 x8)), (14, .flat (.bool x9))], [(1004000005, .vec C.i64 x7)]⟩)
theorem pyxlaw9_parents.j3000.finK_eq {ρ : Type} (y : (List Int × Int × Int × Bool × List Int)) (K : Out U → Option ρ) : pyxlaw9_parents.j3000.finK y K = K (pyxlaw9_parents.j3000.fin y) := by
  unfold pyxlaw9_parents.j3000.finK pyxlaw9_parents.j3000.fin
  first | rfl | (split <;> rfl)
noncomputable def pyxlaw9_parents.j3000.re : Out U → Option ((List Int × Int × Int × Bool × List Int)) | .norm s => ((row_i64 (s.get 0)).bind fun q0 => ((vec_i64 s.o (s.get 5)).bind fun q1 => (match s.get 1, s.get 6, s.get 14 with | .flat (.int .i64 x6), .flat (.int .i64 x8), .flat (.bool x9) => some (q0, x6, x8, x9, q1.2) | _, _, _ => none))) | _ => none
noncomputable def pyxlaw9_parents.j3000.J : JDen U := { Y := (List Int × Int × Int × Bool × List Int), re := pyxlaw9_parents.j3000.re, fin := pyxlaw9_parents.j3000.fin, finK := pyxlaw9_parents.j3000.finK, finK_eq := pyxlaw9_parents.j3000.finK_eq }
theorem pyxlaw9_parents.j3000.fit (o : Out U) (y : (List Int × Int × Int × Bool × List Int)) (h : pyxlaw9_parents.j3000.re o = some y) : FitsO o (pyxlaw9_parents.j3000.fin y) := by
  unfold pyxlaw9_parents.j3000.re at h
  split at h
  · obtain ⟨q0, eq0, h1⟩ := Option.bind_eq_some_iff.1 h
    obtain ⟨q1, eq1, h2⟩ := Option.bind_eq_some_iff.1 h1
    split at h2
    · cases h2
      refine fitsO_norm (fits_ren [(1004000005, q1.1)] ?_ ?_ ren_one rfl)
      · exact List.forall_mem_cons.2 ⟨row_i64_fit eq0, List.forall_mem_cons.2 ⟨FV.same (by assumption) (fun _ _ _ hh => by cases hh) (fun _ hh => by cases hh), List.forall_mem_cons.2 ⟨(vec_i64_fit eq1 rfl).1, List.forall_mem_cons.2 ⟨FV.same (by assumption) (fun _ _ _ hh => by cases hh) (fun _ hh => by cases hh), List.forall_mem_cons.2 ⟨FV.same (by assumption) (fun _ _ _ hh => by cases hh) (fun _ hh => by cases hh), fun _ hp => (List.not_mem_nil hp).elim⟩⟩⟩⟩⟩
      · exact List.forall_mem_cons.2 ⟨(vec_i64_fit eq1 rfl).2, fun _ hp => (List.not_mem_nil hp).elim⟩
    · cases h2
  · cases h
noncomputable def pyxlaw9_parents.j6000.fin (y : (Int × Bool × List Int)) : Out U := match y with | (x15, x17, x16) => .norm ⟨[(1, .flat (.int .i64 x15)), (5, .vs 1007000005), (35, .flat (.bool x17))], [(1007000005, .vec C.i64 x16)]⟩
noncomputable def pyxlaw9_parents.j6000.finK {ρ : Type} (y : (Int × Bool × List Int)) (K : Out U → Option ρ) : Option ρ := match y with | (x15, x17, x16) => K (.norm ⟨[(1, .flat (.int .i64 x15)), (5, .vs 1007000005), (35, .flat (.bool x17))], [(1007000005, .vec C.i64 x16)]⟩)
theorem pyxlaw9_parents.j6000.finK_eq {ρ : Type} (y : (Int × Bool × List Int)) (K : Out U → Option ρ) : pyxlaw9_parents.j6000.finK y K = K (pyxlaw9_parents.j6000.fin y) := by
  unfold pyxlaw9_parents.j6000.finK pyxlaw9_parents.j6000.fin
  first | rfl | (split <;> rfl)
noncomputable def pyxlaw9_parents.j6000.re : Out U → Option ((Int × Bool × List Int)) | .norm s => ((vec_i64 s.o (s.get 5)).bind fun q0 => (match s.get 1, s.get 35 with | .flat (.int .i64 x15), .flat (.bool x17) => some (x15, x17, q0.2) | _, _ => none)) | _ => none
noncomputable def pyxlaw9_parents.j6000.J : JDen U := { Y := (Int × Bool × List Int), re := pyxlaw9_parents.j6000.re, fin := pyxlaw9_parents.j6000.fin, finK := pyxlaw9_parents.j6000.finK, finK_eq := pyxlaw9_parents.j6000.finK_eq }
theorem pyxlaw9_parents.j6000.fit (o : Out U) (y : (Int × Bool × List Int)) (h : pyxlaw9_parents.j6000.re o = some y) : FitsO o (pyxlaw9_parents.j6000.fin y) := by
  unfold pyxlaw9_parents.j6000.re at h
  split at h
  · obtain ⟨q0, eq0, h1⟩ := Option.bind_eq_some_iff.1 h
    split at h1
    · cases h1
      refine fitsO_norm (fits_ren [(1007000005, q0.1)] ?_ ?_ ren_one rfl)
      · exact List.forall_mem_cons.2 ⟨FV.same (by assumption) (fun _ _ _ hh => by cases hh) (fun _ hh => by cases hh), List.forall_mem_cons.2 ⟨(vec_i64_fit eq0 rfl).1, List.forall_mem_cons.2 ⟨FV.same (by assumption) (fun _ _ _ hh => by cases hh) (fun _ hh => by cases hh), fun _ hp => (List.not_mem_nil hp).elim⟩⟩⟩
      · exact List.forall_mem_cons.2 ⟨(vec_i64_fit eq0 rfl).2, fun _ hp => (List.not_mem_nil hp).elim⟩
    · cases h1
  · cases h
noncomputable def pyxlaw9_parents.jl : List (Nat × JDen U) := [(3000, pyxlaw9_parents.j3000.J), (6000, pyxlaw9_parents.j6000.J)]
noncomputable def pyxlaw9_parents.fl (k : Nat) : List (Nat × FDen U) := [(22, pyxhand_Pick.D k)]
noncomputable def pyxlaw9_parents.ll (k : Nat) : List (Nat × LDen U) := [(3, pyxlaw9_parents.l3.L k)]
noncomputable def pyxlaw9_parents.E (k : Nat) : Env U := { P := Try.prog, D := DD, fd := lk (pyxlaw9_parents.fl k), ld := lk (pyxlaw9_parents.ll k), jd := lk pyxlaw9_parents.jl, mode := lk [], elc := lk ec, dyn := fun t => false, vecs := fun d => Nat.beq d 5, results := Try.f30.results.toList }
theorem pyxlaw9_parents.ok (k : Nat) : EnvOk (pyxlaw9_parents.E k) := envOk lawful (pyxlaw9_parents.fl k) (pyxlaw9_parents.ll k) pyxlaw9_parents.jl _ _ _ _ _ (by
  intro p hp
  simp only [pyxlaw9_parents.fl, List.mem_cons, List.not_mem_nil, or_false] at hp
  rcases hp with rfl
  · exact ⟨pyxhand_Pick.sound k, enter_of Try.func22 (by kernel_rfl) (by kernel_rfl)⟩) (by
  intro p hp
  simp only [pyxlaw9_parents.jl, List.mem_cons, List.not_mem_nil, or_false] at hp
  rcases hp with rfl | rfl
  · exact pyxlaw9_parents.j3000.fit
  · exact pyxlaw9_parents.j6000.fit)
theorem pyxlaw9_parents.l3.eq (k : Nat) (x : (List Int × Int × Int × List Int)) : evC (pyxlaw9_parents.E k) (loopAt Try.f30 3) (pyxlaw9_parents.l3.mk x) (headK pyxlaw9_parents.l3.un pyxlaw9_parents.l3.re) = pyxlaw9_parents.l3.once k x := by kernel_rfl
theorem pyxlaw9_parents.l3.fit (s : St U) (x : (List Int × Int × Int × List Int)) (h : pyxlaw9_parents.l3.un s = some x) : Fits s (pyxlaw9_parents.l3.mk x) := by
  unfold pyxlaw9_parents.l3.un at h
  obtain ⟨q0, eq0, h1⟩ := Option.bind_eq_some_iff.1 h
  obtain ⟨q1, eq1, h2⟩ := Option.bind_eq_some_iff.1 h1
  split at h2
  · cases h2
    refine fits_ren [(1003005, q1.1)] ?_ ?_ ren_one rfl
    · exact List.forall_mem_cons.2 ⟨row_i64_fit eq0, List.forall_mem_cons.2 ⟨FV.same (by assumption) (fun _ _ _ hh => by cases hh) (fun _ hh => by cases hh), List.forall_mem_cons.2 ⟨(vec_i64_fit eq1 rfl).1, List.forall_mem_cons.2 ⟨FV.same (by assumption) (fun _ _ _ hh => by cases hh) (fun _ hh => by cases hh), fun _ hp => (List.not_mem_nil hp).elim⟩⟩⟩⟩
    · exact List.forall_mem_cons.2 ⟨(vec_i64_fit eq1 rfl).2, fun _ hp => (List.not_mem_nil hp).elim⟩
  · cases h2
theorem pyxlaw9_parents.l3.fitO (o : Out U) (y : (Int × List Int)) (h : pyxlaw9_parents.l3.re o = some y) : FitsO o (pyxlaw9_parents.l3.fin y) := by
  unfold pyxlaw9_parents.l3.re at h
  split at h
  · obtain ⟨q0, eq0, h1⟩ := Option.bind_eq_some_iff.1 h
    split at h1
    · cases h1
      refine fitsO_exit (fits_ren [(1003005, q0.1)] ?_ ?_ ren_one rfl)
      · exact List.forall_mem_cons.2 ⟨FV.same (by assumption) (fun _ _ _ hh => by cases hh) (fun _ hh => by cases hh), List.forall_mem_cons.2 ⟨(vec_i64_fit eq0 rfl).1, fun _ hp => (List.not_mem_nil hp).elim⟩⟩
      · exact List.forall_mem_cons.2 ⟨(vec_i64_fit eq0 rfl).2, fun _ hp => (List.not_mem_nil hp).elim⟩
    · cases h1
  · cases h
theorem pyxlaw9_parents.l3.sound (k : Nat) : LSound (pyxlaw9_parents.E k) Try.f30.ntmps Try.f30 (loopAt Try.f30 3) (pyxlaw9_parents.l3.L k) :=
  loop_sound (pyxlaw9_parents.ok k) mixed rfl (by kernel_rfl) (allL_of (l := []) (by kernel_rfl) allL_nil) pyxlaw9_parents.l3.un pyxlaw9_parents.l3.mk pyxlaw9_parents.l3.fin pyxlaw9_parents.l3.re (pyxlaw9_parents.l3.once k) k pyxlaw9_parents.l3.fit pyxlaw9_parents.l3.fitO (pyxlaw9_parents.l3.eq k) pyxlaw9_parents.l3.finK pyxlaw9_parents.l3.finK_eq
theorem pyxlaw9_parents.eq (k : Nat) (x : (List Int × Int)) : runF (pyxlaw9_parents.E k) (codeOf Try.f30) (pyxlaw9_parents.mk x) pyxlaw9_parents.re = (pyxlaw9_parents.D k).f x := by kernel_rfl
theorem pyxlaw9_parents.sound (k : Nat) : Sound Try.prog DD 30 (pyxlaw9_parents.D k) :=
  fun_sound (E := pyxlaw9_parents.E k) (fn := Try.f30) (c := codeOf Try.f30) (pyxlaw9_parents.ok k) mixed rfl Try.func30 (by kernel_rfl) (by kernel_rfl) (allL_of (l := [loopAt Try.f30 3]) (by kernel_rfl) (allL_cons (key := 3) (by kernel_rfl) rfl (pyxlaw9_parents.l3.sound k) allL_nil)) (pyxlaw9_parents.D k) pyxlaw9_parents.mk pyxlaw9_parents.re
    (by intro args x h; replace h : pyxlaw9_parents.un args = some x := h; unfold pyxlaw9_parents.un at h; split at h; · cases h; rfl
        · cases h)
    (by intro v y h; unfold pyxlaw9_parents.re at h; split at h; · cases h; rfl
        · cases h)
    (fun _ => rfl) (fun x => Nat.le_of_ble_eq_true (by kernel_rfl)) (pyxlaw9_parents.eq k)
/-! ### pyx/role.Right: function 28 -/
noncomputable def role_Right.l2.once (k : Nat) (x : (List Int × List Int × Int × Int)) : Option ((List Int × List Int × Int × Int) ⊕ ((List Int) ⊕ Bool)) := match x with | (x1, x2, x3, x4) => cond (decide (x4 < x3)) (cond (inb x4 (List.length x2)) (((cond (decide ((List.getD x2 (Int.toNat x4) 0) < (-1))) (some (x1, x2, x3, x4, true)) (some (x1, x2, x3, x4, decide ((List.getD x2 (Int.toNat x4) 0) ≥ x4)))) : Option (List Int × List Int × Int × Int × Bool)).bind fun y10 => (cond (y10.2.2.2.2) (some (.inr (.inr false))) (some (.inl (y10.1, y10.2.1, y10.2.2.1, IntKind.wrap .i64 (y10.2.2.2.1 + 1)))))) none) (some (.inr (.inl x1)))
noncomputable def role_Right.f (k : Nat) (a0 : List Int) : Option Bool := (iter (role_Right.l2.once k) k (a0, a0, (List.length a0 : Int), 0)).bind fun | .inl y13 => (some (decide ((List.length y13 : Int) ≤ 8))) | .inr y14 => (some y14)
noncomputable def role_Right.un : List (AV U) → Option (List Int) | [.row C.i64 x1] => some x1 | _ => none
noncomputable def role_Right.mk (x : List Int) : List (AV U) := [.row C.i64 x]
noncomputable def role_Right.D (k : Nat) : FDen U := { X := List Int, Y := Bool, un := role_Right.un, f := fun x => role_Right.f k (x), fin := fun y => .flat (.bool y) }
noncomputable def role_Right.re : AV U → Option Bool | .flat (.bool x1) => some x1 | _ => none
noncomputable def role_Right.l2.mk (x : (List Int × List Int × Int × Int)) : St U := match x with | (x1, x2, x3, x4) => ⟨[(0, .row C.i64 x1), (5, .row C.i64 x2), (6, .flat (.int .i64 x3)), (7, .flat (.int .i64 x4))], []⟩
noncomputable def role_Right.l2.un (s : St U) : Option (List Int × List Int × Int × Int) := (row_i64 (s.get 0)).bind fun q0 => ((row_i64 (s.get 5)).bind fun q1 => (match s.get 6, s.get 7 with | .flat (.int .i64 x3), .flat (.int .i64 x4) => some (q0, q1, x3, x4) | _, _ => none))
noncomputable def role_Right.l2.fin (y : (List Int) ⊕ Bool) : Out U := match y with | .inl x11 => .exit 0 ⟨[(0, .row C.i64 x11)], []⟩ | .inr z => .ret (.flat (.bool z))
noncomputable def role_Right.l2.finK {ρ : Type} (y : (List Int) ⊕ Bool) (K : Out U → Option ρ) : Option ρ := match y with | .inl x11 => K (.exit 0 ⟨[(0, .row C.i64 x11)], []⟩) | .inr z => K (.ret (.flat (.bool z)))
theorem role_Right.l2.finK_eq {ρ : Type} (y : (List Int) ⊕ Bool) (K : Out U → Option ρ) : role_Right.l2.finK y K = K (role_Right.l2.fin y) := by
  unfold role_Right.l2.finK role_Right.l2.fin
  first | rfl | (split <;> rfl)
noncomputable def role_Right.l2.re : Out U → Option ((List Int) ⊕ Bool) | .exit 0 s => ((row_i64 (s.get 0)).bind fun q0 => (some (.inl q0))) | .ret v => (match v with | .flat (.bool x1) => some (.inr x1) | _ => none) | _ => none
noncomputable def role_Right.l2.L (k : Nat) : LDen U := { X := (List Int × List Int × Int × Int), Y := (List Int) ⊕ Bool, un := role_Right.l2.un, f := iter (role_Right.l2.once k) k, fin := role_Right.l2.fin, finK := role_Right.l2.finK, finK_eq := role_Right.l2.finK_eq }
noncomputable def role_Right.j4000.fin (y : (List Int × List Int × Int × Int × Bool)) : Out U := match y with | (x5, x6, x7, x8, x9) => .norm ⟨[(0, .row C.i64 x5), (5, .row C.i64 x6), (6, .flat (.int .i64 x7)), (7, .flat (.int .i64 x8)), (18, .flat (.bool x9))], []⟩
noncomputable def role_Right.j4000.finK {ρ : Type} (y : (List Int × List Int × Int × Int × Bool)) (K : Out U → Option ρ) : Option ρ := match y with | (x5, x6, x7, x8, x9) => K (.norm ⟨[(0, .row C.i64 x5), (5, .row C.i64 x6), (6, .flat (.int .i64 x7)), (7, .flat (.int .i64 x8)), (18, .flat (.bool x9))], []⟩)
theorem role_Right.j4000.finK_eq {ρ : Type} (y : (List Int × List Int × Int × Int × Bool)) (K : Out U → Option ρ) : role_Right.j4000.finK y K = K (role_Right.j4000.fin y) := by
  unfold role_Right.j4000.finK role_Right.j4000.fin
  first | rfl | (split <;> rfl)
noncomputable def role_Right.j4000.re : Out U → Option ((List Int × List Int × Int × Int × Bool)) | .norm s => ((row_i64 (s.get 0)).bind fun q0 => ((row_i64 (s.get 5)).bind fun q1 => (match s.get 6, s.get 7, s.get 18 with | .flat (.int .i64 x7), .flat (.int .i64 x8), .flat (.bool x9) => some (q0, q1, x7, x8, x9) | _, _, _ => none))) | _ => none
noncomputable def role_Right.j4000.J : JDen U := { Y := (List Int × List Int × Int × Int × Bool), re := role_Right.j4000.re, fin := role_Right.j4000.fin, finK := role_Right.j4000.finK, finK_eq := role_Right.j4000.finK_eq }
theorem role_Right.j4000.fit (o : Out U) (y : (List Int × List Int × Int × Int × Bool)) (h : role_Right.j4000.re o = some y) : FitsO o (role_Right.j4000.fin y) := by
  unfold role_Right.j4000.re at h
  split at h
  · obtain ⟨q0, eq0, h1⟩ := Option.bind_eq_some_iff.1 h
    obtain ⟨q1, eq1, h2⟩ := Option.bind_eq_some_iff.1 h1
    split at h2
    · cases h2
      refine fitsO_norm (fits_ren [] ?_ ?_ ren_nil rfl)
      · exact List.forall_mem_cons.2 ⟨row_i64_fit eq0, List.forall_mem_cons.2 ⟨row_i64_fit eq1, List.forall_mem_cons.2 ⟨FV.same (by assumption) (fun _ _ _ hh => by cases hh) (fun _ hh => by cases hh), List.forall_mem_cons.2 ⟨FV.same (by assumption) (fun _ _ _ hh => by cases hh) (fun _ hh => by cases hh), List.forall_mem_cons.2 ⟨FV.same (by assumption) (fun _ _ _ hh => by cases hh) (fun _ hh => by cases hh), fun _ hp => (List.not_mem_nil hp).elim⟩⟩⟩⟩⟩
      · exact fun _ hp => (List.not_mem_nil hp).elim
    · cases h2
  · cases h
noncomputable def role_Right.jl : List (Nat × JDen U) := [(4000, role_Right.j4000.J)]
noncomputable def role_Right.fl (k : Nat) : List (Nat × FDen U) := []
noncomputable def role_Right.ll (k : Nat) : List (Nat × LDen U) := [(2, role_Right.l2.L k)]
noncomputable def role_Right.E (k : Nat) : Env U := { P := Try.prog, D := DD, fd := lk (role_Right.fl k), ld := lk (role_Right.ll k), jd := lk role_Right.jl, mode := lk [], elc := lk ec, dyn := fun t => false, vecs := fun d => false, results := Try.f28.results.toList }
theorem role_Right.ok (k : Nat) : EnvOk (role_Right.E k) := envOk lawful (role_Right.fl k) (role_Right.ll k) role_Right.jl _ _ _ _ _ (by
  intro p hp
  simp [role_Right.fl] at hp) (by
  intro p hp
  simp only [role_Right.jl, List.mem_cons, List.not_mem_nil, or_false] at hp
  rcases hp with rfl
  · exact role_Right.j4000.fit)
theorem role_Right.l2.eq (k : Nat) (x : (List Int × List Int × Int × Int)) : evC (role_Right.E k) (loopAt Try.f28 2) (role_Right.l2.mk x) (headK role_Right.l2.un role_Right.l2.re) = role_Right.l2.once k x := by kernel_rfl
theorem role_Right.l2.fit (s : St U) (x : (List Int × List Int × Int × Int)) (h : role_Right.l2.un s = some x) : Fits s (role_Right.l2.mk x) := by
  unfold role_Right.l2.un at h
  obtain ⟨q0, eq0, h1⟩ := Option.bind_eq_some_iff.1 h
  obtain ⟨q1, eq1, h2⟩ := Option.bind_eq_some_iff.1 h1
  split at h2
  · cases h2
    refine fits_ren [] ?_ ?_ ren_nil rfl
    · exact List.forall_mem_cons.2 ⟨row_i64_fit eq0, List.forall_mem_cons.2 ⟨row_i64_fit eq1, List.forall_mem_cons.2 ⟨FV.same (by assumption) (fun _ _ _ hh => by cases hh) (fun _ hh => by cases hh), List.forall_mem_cons.2 ⟨FV.same (by assumption) (fun _ _ _ hh => by cases hh) (fun _ hh => by cases hh), fun _ hp => (List.not_mem_nil hp).elim⟩⟩⟩⟩
    · exact fun _ hp => (List.not_mem_nil hp).elim
  · cases h2
theorem role_Right.l2.fitO (o : Out U) (y : (List Int) ⊕ Bool) (h : role_Right.l2.re o = some y) : FitsO o (role_Right.l2.fin y) := by
  unfold role_Right.l2.re at h
  split at h
  · obtain ⟨q0, eq0, h1⟩ := Option.bind_eq_some_iff.1 h
    cases h1
    refine fitsO_exit (fits_ren [] ?_ ?_ ren_nil rfl)
    · exact List.forall_mem_cons.2 ⟨row_i64_fit eq0, fun _ hp => (List.not_mem_nil hp).elim⟩
    · exact fun _ hp => (List.not_mem_nil hp).elim
  · split at h
    · cases h; exact fitsO_ret
    · cases h
  · cases h
theorem role_Right.l2.sound (k : Nat) : LSound (role_Right.E k) Try.f28.ntmps Try.f28 (loopAt Try.f28 2) (role_Right.l2.L k) :=
  loop_sound (role_Right.ok k) mixed rfl (by kernel_rfl) (allL_of (l := []) (by kernel_rfl) allL_nil) role_Right.l2.un role_Right.l2.mk role_Right.l2.fin role_Right.l2.re (role_Right.l2.once k) k role_Right.l2.fit role_Right.l2.fitO (role_Right.l2.eq k) role_Right.l2.finK role_Right.l2.finK_eq
theorem role_Right.eq (k : Nat) (x : List Int) : runF (role_Right.E k) (codeOf Try.f28) (role_Right.mk x) role_Right.re = (role_Right.D k).f x := by kernel_rfl
theorem role_Right.sound (k : Nat) : Sound Try.prog DD 28 (role_Right.D k) :=
  fun_sound (E := role_Right.E k) (fn := Try.f28) (c := codeOf Try.f28) (role_Right.ok k) mixed rfl Try.func28 (by kernel_rfl) (by kernel_rfl) (allL_of (l := [loopAt Try.f28 2]) (by kernel_rfl) (allL_cons (key := 2) (by kernel_rfl) rfl (role_Right.l2.sound k) allL_nil)) (role_Right.D k) role_Right.mk role_Right.re
    (by intro args x h; replace h : role_Right.un args = some x := h; unfold role_Right.un at h; split at h; · cases h; rfl
        · cases h)
    (by intro v y h; unfold role_Right.re at h; split at h; · cases h; rfl
        · cases h)
    (fun _ => rfl) (fun x => Nat.le_of_ble_eq_true (by kernel_rfl)) (role_Right.eq k)
/-! ### pyx/role.bit: function 37 -/
noncomputable def role_bit.f (k : Nat) (a0 : Int) : Option Int := cond (decide (IntKind.wrap .u64 (a0) < 0)) none (some (IntKind.wrap .u64 (1 * 2 ^ (min (Int.toNat (IntKind.wrap .u64 (a0))) 64))))
noncomputable def role_bit.un : List (AV U) → Option Int | [.flat (.int .i64 x1)] => some x1 | _ => none
noncomputable def role_bit.mk (x : Int) : List (AV U) := [.flat (.int .i64 x)]
noncomputable def role_bit.D (k : Nat) : FDen U := { X := Int, Y := Int, un := role_bit.un, f := fun x => role_bit.f k (x), fin := fun y => .flat (.int .u64 y) }
noncomputable def role_bit.re : AV U → Option Int | .flat (.int .u64 x1) => some x1 | _ => none
noncomputable def role_bit.jl : List (Nat × JDen U) := []
noncomputable def role_bit.fl (k : Nat) : List (Nat × FDen U) := []
noncomputable def role_bit.ll (k : Nat) : List (Nat × LDen U) := []
noncomputable def role_bit.E (k : Nat) : Env U := { P := Try.prog, D := DD, fd := lk (role_bit.fl k), ld := lk (role_bit.ll k), jd := lk role_bit.jl, mode := lk [], elc := lk ec, dyn := fun t => false, vecs := fun d => false, results := Try.f37.results.toList }
theorem role_bit.ok (k : Nat) : EnvOk (role_bit.E k) := envOk lawful (role_bit.fl k) (role_bit.ll k) role_bit.jl _ _ _ _ _ (by
  intro p hp
  simp [role_bit.fl] at hp) (by
  intro p hp
  simp [role_bit.jl] at hp)
theorem role_bit.eq (k : Nat) (x : Int) : runF (role_bit.E k) (codeOf Try.f37) (role_bit.mk x) role_bit.re = (role_bit.D k).f x := by kernel_rfl
theorem role_bit.sound (k : Nat) : Sound Try.prog DD 37 (role_bit.D k) :=
  fun_sound (E := role_bit.E k) (fn := Try.f37) (c := codeOf Try.f37) (role_bit.ok k) mixed rfl Try.func37 (by kernel_rfl) (by kernel_rfl) (allL_of (l := []) (by kernel_rfl) allL_nil) (role_bit.D k) role_bit.mk role_bit.re
    (by intro args x h; replace h : role_bit.un args = some x := h; unfold role_bit.un at h; split at h; · cases h; rfl
        · cases h)
    (by intro v y h; unfold role_bit.re at h; split at h; · cases h; rfl
        · cases h)
    (fun _ => rfl) (fun x => Nat.le_of_ble_eq_true (by kernel_rfl)) (role_bit.eq k)
/-! ### pyx/role.All: function 27 -/
noncomputable def role_All.l5.once (k : Nat) (x : (List Int × Int × Int)) : Option ((List Int × Int × Int) ⊕ (Int)) := match x with | (x3, x4, x5) => cond (decide (x5 ≥ 0)) ((((((role_bit.f k x5).bind fun t6 => (cond (decide ((bits .and .u64 x4 t6) > 0)) (cond (inb x5 (List.length x3)) (some (x3, x4, x5, decide ((List.getD x3 (Int.toNat x5) 0) ≥ 0))) none) (some (x3, x4, x5, false)))) : Option (List Int × Int × Int × Bool)).bind fun y11 => (cond (y11.2.2.2) (cond (inb y11.2.2.1 (List.length y11.1)) ((role_bit.f k (List.getD y11.1 (Int.toNat y11.2.2.1) 0)).bind fun t12 => (some (y11.1, bits .or .u64 y11.2.1 t12, y11.2.2.1))) none) (some (y11.1, y11.2.1, y11.2.2.1)))) : Option (List Int × Int × Int)).bind fun y16 => (some (.inl (y16.1, y16.2.1, IntKind.wrap .i64 (y16.2.2 - 1))))) (some (.inr x4))
noncomputable def role_All.f (k : Nat) (a0 : List Int) (a1 : Int) : Option Int := (role_Right.f k a0).bind fun t1 => (cond (!t1) (some 0) ((role_bit.f k (List.length a0 : Int)).bind fun t2 => ((iter (role_All.l5.once k) k (a0, bits .and .u64 a1 (IntKind.wrap .u64 (t2 - 1)), IntKind.wrap .i64 ((List.length a0 : Int) - 1))).bind fun y18 => (some y18))))
noncomputable def role_All.un : List (AV U) → Option (List Int × Int) | [.row C.i64 x1, .flat (.int .u64 x2)] => some (x1, x2) | _ => none
noncomputable def role_All.mk (x : (List Int × Int)) : List (AV U) := [.row C.i64 x.1, .flat (.int .u64 x.2)]
noncomputable def role_All.D (k : Nat) : FDen U := { X := (List Int × Int), Y := Int, un := role_All.un, f := fun x => role_All.f k (x.1) (x.2), fin := fun y => .flat (.int .u64 y) }
noncomputable def role_All.re : AV U → Option Int | .flat (.int .u64 x1) => some x1 | _ => none
noncomputable def role_All.l5.mk (x : (List Int × Int × Int)) : St U := match x with | (x3, x4, x5) => ⟨[(0, .row C.i64 x3), (5, .flat (.int .u64 x4)), (6, .flat (.int .i64 x5))], []⟩
noncomputable def role_All.l5.un (s : St U) : Option (List Int × Int × Int) := (row_i64 (s.get 0)).bind fun q0 => (match s.get 5, s.get 6 with | .flat (.int .u64 x4), .flat (.int .i64 x5) => some (q0, x4, x5) | _, _ => none)
noncomputable def role_All.l5.fin (y : Int) : Out U := match y with | x17 => .exit 0 ⟨[(5, .flat (.int .u64 x17))], []⟩
noncomputable def role_All.l5.finK {ρ : Type} (y : Int) (K : Out U → Option ρ) : Option ρ := match y with | x17 => K (.exit 0 ⟨[(5, .flat (.int .u64 x17))], []⟩)
theorem role_All.l5.finK_eq {ρ : Type} (y : Int) (K : Out U → Option ρ) : role_All.l5.finK y K = K (role_All.l5.fin y) := by
  unfold role_All.l5.finK role_All.l5.fin
  first | rfl | (split <;> rfl)
noncomputable def role_All.l5.re : Out U → Option (Int) | .exit 0 s => (match s.get 5 with | .flat (.int .u64 x17) => some x17 | _ => none) | _ => none
noncomputable def role_All.l5.L (k : Nat) : LDen U := { X := (List Int × Int × Int), Y := Int, un := role_All.l5.un, f := iter (role_All.l5.once k) k, fin := role_All.l5.fin, finK := role_All.l5.finK, finK_eq := role_All.l5.finK_eq }
noncomputable def role_All.j7000.fin (y : (List Int × Int × Int × Bool)) : Out U := match y with | (x7, x8, x9, x10) => .norm ⟨[(0, .row C.i64 x7), (5, .flat (.int .u64 x8)), (6, .flat (.int .i64 x9)), (34, .flat (.bool x10))], []⟩
noncomputable def role_All.j7000.finK {ρ : Type} (y : (List Int × Int × Int × Bool)) (K : Out U → Option ρ) : Option ρ := match y with | (x7, x8, x9, x10) => K (.norm ⟨[(0, .row C.i64 x7), (5, .flat (.int .u64 x8)), (6, .flat (.int .i64 x9)), (34, .flat (.bool x10))], []⟩)
theorem role_All.j7000.finK_eq {ρ : Type} (y : (List Int × Int × Int × Bool)) (K : Out U → Option ρ) : role_All.j7000.finK y K = K (role_All.j7000.fin y) := by
  unfold role_All.j7000.finK role_All.j7000.fin
  first | rfl | (split <;> rfl)
noncomputable def role_All.j7000.re : Out U → Option ((List Int × Int × Int × Bool)) | .norm s => ((row_i64 (s.get 0)).bind fun q0 => (match s.get 5, s.get 6, s.get 34 with | .flat (.int .u64 x8), .flat (.int .i64 x9), .flat (.bool x10) => some (q0, x8, x9, x10) | _, _, _ => none)) | _ => none
noncomputable def role_All.j7000.J : JDen U := { Y := (List Int × Int × Int × Bool), re := role_All.j7000.re, fin := role_All.j7000.fin, finK := role_All.j7000.finK, finK_eq := role_All.j7000.finK_eq }
theorem role_All.j7000.fit (o : Out U) (y : (List Int × Int × Int × Bool)) (h : role_All.j7000.re o = some y) : FitsO o (role_All.j7000.fin y) := by
  unfold role_All.j7000.re at h
  split at h
  · obtain ⟨q0, eq0, h1⟩ := Option.bind_eq_some_iff.1 h
    split at h1
    · cases h1
      refine fitsO_norm (fits_ren [] ?_ ?_ ren_nil rfl)
      · exact List.forall_mem_cons.2 ⟨row_i64_fit eq0, List.forall_mem_cons.2 ⟨FV.same (by assumption) (fun _ _ _ hh => by cases hh) (fun _ hh => by cases hh), List.forall_mem_cons.2 ⟨FV.same (by assumption) (fun _ _ _ hh => by cases hh) (fun _ hh => by cases hh), List.forall_mem_cons.2 ⟨FV.same (by assumption) (fun _ _ _ hh => by cases hh) (fun _ hh => by cases hh), fun _ hp => (List.not_mem_nil hp).elim⟩⟩⟩⟩
      · exact fun _ hp => (List.not_mem_nil hp).elim
    · cases h1
  · cases h
noncomputable def role_All.j7001.fin (y : (List Int × Int × Int)) : Out U := match y with | (x13, x14, x15) => .norm ⟨[(0, .row C.i64 x13), (5, .flat (.int .u64 x14)), (6, .flat (.int .i64 x15))], []⟩
noncomputable def role_All.j7001.finK {ρ : Type} (y : (List Int × Int × Int)) (K : Out U → Option ρ) : Option ρ := match y with | (x13, x14, x15) => K (.norm ⟨[(0, .row C.i64 x13), (5, .flat (.int .u64 x14)), (6, .flat (.int .i64 x15))], []⟩)
theorem role_All.j7001.finK_eq {ρ : Type} (y : (List Int × Int × Int)) (K : Out U → Option ρ) : role_All.j7001.finK y K = K (role_All.j7001.fin y) := by
  unfold role_All.j7001.finK role_All.j7001.fin
  first | rfl | (split <;> rfl)
noncomputable def role_All.j7001.re : Out U → Option ((List Int × Int × Int)) | .norm s => ((row_i64 (s.get 0)).bind fun q0 => (match s.get 5, s.get 6 with | .flat (.int .u64 x14), .flat (.int .i64 x15) => some (q0, x14, x15) | _, _ => none)) | _ => none
noncomputable def role_All.j7001.J : JDen U := { Y := (List Int × Int × Int), re := role_All.j7001.re, fin := role_All.j7001.fin, finK := role_All.j7001.finK, finK_eq := role_All.j7001.finK_eq }
theorem role_All.j7001.fit (o : Out U) (y : (List Int × Int × Int)) (h : role_All.j7001.re o = some y) : FitsO o (role_All.j7001.fin y) := by
  unfold role_All.j7001.re at h
  split at h
  · obtain ⟨q0, eq0, h1⟩ := Option.bind_eq_some_iff.1 h
    split at h1
    · cases h1
      refine fitsO_norm (fits_ren [] ?_ ?_ ren_nil rfl)
      · exact List.forall_mem_cons.2 ⟨row_i64_fit eq0, List.forall_mem_cons.2 ⟨FV.same (by assumption) (fun _ _ _ hh => by cases hh) (fun _ hh => by cases hh), List.forall_mem_cons.2 ⟨FV.same (by assumption) (fun _ _ _ hh => by cases hh) (fun _ hh => by cases hh), fun _ hp => (List.not_mem_nil hp).elim⟩⟩⟩
      · exact fun _ hp => (List.not_mem_nil hp).elim
    · cases h1
  · cases h
noncomputable def role_All.jl : List (Nat × JDen U) := [(7000, role_All.j7000.J), (7001, role_All.j7001.J)]
noncomputable def role_All.fl (k : Nat) : List (Nat × FDen U) := [(28, role_Right.D k), (37, role_bit.D k)]
noncomputable def role_All.ll (k : Nat) : List (Nat × LDen U) := [(5, role_All.l5.L k)]
noncomputable def role_All.E (k : Nat) : Env U := { P := Try.prog, D := DD, fd := lk (role_All.fl k), ld := lk (role_All.ll k), jd := lk role_All.jl, mode := lk [], elc := lk ec, dyn := fun t => false, vecs := fun d => false, results := Try.f27.results.toList }
theorem role_All.ok (k : Nat) : EnvOk (role_All.E k) := envOk lawful (role_All.fl k) (role_All.ll k) role_All.jl _ _ _ _ _ (by
  intro p hp
  simp only [role_All.fl, List.mem_cons, List.not_mem_nil, or_false] at hp
  rcases hp with rfl | rfl
  · exact ⟨role_Right.sound k, enter_of Try.func28 (by kernel_rfl) (by kernel_rfl)⟩
  · exact ⟨role_bit.sound k, enter_of Try.func37 (by kernel_rfl) (by kernel_rfl)⟩) (by
  intro p hp
  simp only [role_All.jl, List.mem_cons, List.not_mem_nil, or_false] at hp
  rcases hp with rfl | rfl
  · exact role_All.j7000.fit
  · exact role_All.j7001.fit)
theorem role_All.l5.eq (k : Nat) (x : (List Int × Int × Int)) : evC (role_All.E k) (loopAt Try.f27 5) (role_All.l5.mk x) (headK role_All.l5.un role_All.l5.re) = role_All.l5.once k x := by kernel_rfl
theorem role_All.l5.fit (s : St U) (x : (List Int × Int × Int)) (h : role_All.l5.un s = some x) : Fits s (role_All.l5.mk x) := by
  unfold role_All.l5.un at h
  obtain ⟨q0, eq0, h1⟩ := Option.bind_eq_some_iff.1 h
  split at h1
  · cases h1
    refine fits_ren [] ?_ ?_ ren_nil rfl
    · exact List.forall_mem_cons.2 ⟨row_i64_fit eq0, List.forall_mem_cons.2 ⟨FV.same (by assumption) (fun _ _ _ hh => by cases hh) (fun _ hh => by cases hh), List.forall_mem_cons.2 ⟨FV.same (by assumption) (fun _ _ _ hh => by cases hh) (fun _ hh => by cases hh), fun _ hp => (List.not_mem_nil hp).elim⟩⟩⟩
    · exact fun _ hp => (List.not_mem_nil hp).elim
  · cases h1
theorem role_All.l5.fitO (o : Out U) (y : Int) (h : role_All.l5.re o = some y) : FitsO o (role_All.l5.fin y) := by
  unfold role_All.l5.re at h
  split at h
  · split at h
    · cases h
      refine fitsO_exit (fits_ren [] ?_ ?_ ren_nil rfl)
      · exact List.forall_mem_cons.2 ⟨FV.same (by assumption) (fun _ _ _ hh => by cases hh) (fun _ hh => by cases hh), fun _ hp => (List.not_mem_nil hp).elim⟩
      · exact fun _ hp => (List.not_mem_nil hp).elim
    · cases h
  · cases h
theorem role_All.l5.sound (k : Nat) : LSound (role_All.E k) Try.f27.ntmps Try.f27 (loopAt Try.f27 5) (role_All.l5.L k) :=
  loop_sound (role_All.ok k) mixed rfl (by kernel_rfl) (allL_of (l := []) (by kernel_rfl) allL_nil) role_All.l5.un role_All.l5.mk role_All.l5.fin role_All.l5.re (role_All.l5.once k) k role_All.l5.fit role_All.l5.fitO (role_All.l5.eq k) role_All.l5.finK role_All.l5.finK_eq
theorem role_All.eq (k : Nat) (x : (List Int × Int)) : runF (role_All.E k) (codeOf Try.f27) (role_All.mk x) role_All.re = (role_All.D k).f x := by kernel_rfl
theorem role_All.sound (k : Nat) : Sound Try.prog DD 27 (role_All.D k) :=
  fun_sound (E := role_All.E k) (fn := Try.f27) (c := codeOf Try.f27) (role_All.ok k) mixed rfl Try.func27 (by kernel_rfl) (by kernel_rfl) (allL_of (l := [loopAt Try.f27 5]) (by kernel_rfl) (allL_cons (key := 5) (by kernel_rfl) rfl (role_All.l5.sound k) allL_nil)) (role_All.D k) role_All.mk role_All.re
    (by intro args x h; replace h : role_All.un args = some x := h; unfold role_All.un at h; split at h; · cases h; rfl
        · cases h)
    (by intro v y h; unfold role_All.re at h; split at h; · cases h; rfl
        · cases h)
    (fun _ => rfl) (fun x => Nat.le_of_ble_eq_true (by kernel_rfl)) (role_All.eq k)
/-! ### pyx/pyxlaw9.known: function 26 -/
noncomputable def pyxlaw9_known.f (k : Nat)  : Option Bool := (role_All.f k [(-1), 0, 1] 4).bind fun t1 => (cond (t1 == 7) ((role_Right.f k [(-1), 0, 1]).bind fun t2 => (some t2)) (some false))
noncomputable def pyxlaw9_known.un : List (AV U) → Option Unit | [] => some () | _ => none
noncomputable def pyxlaw9_known.mk (x : Unit) : List (AV U) := []
noncomputable def pyxlaw9_known.D (k : Nat) : FDen U := { X := Unit, Y := Bool, un := pyxlaw9_known.un, f := fun x => pyxlaw9_known.f k , fin := fun y => .flat (.bool y) }
noncomputable def pyxlaw9_known.re : AV U → Option Bool | .flat (.bool x1) => some x1 | _ => none
noncomputable def pyxlaw9_known.jl : List (Nat × JDen U) := []
noncomputable def pyxlaw9_known.fl (k : Nat) : List (Nat × FDen U) := [(27, role_All.D k), (28, role_Right.D k)]
noncomputable def pyxlaw9_known.ll (k : Nat) : List (Nat × LDen U) := []
noncomputable def pyxlaw9_known.E (k : Nat) : Env U := { P := Try.prog, D := DD, fd := lk (pyxlaw9_known.fl k), ld := lk (pyxlaw9_known.ll k), jd := lk pyxlaw9_known.jl, mode := lk [], elc := lk ec, dyn := fun t => false, vecs := fun d => false, results := Try.f26.results.toList }
theorem pyxlaw9_known.ok (k : Nat) : EnvOk (pyxlaw9_known.E k) := envOk lawful (pyxlaw9_known.fl k) (pyxlaw9_known.ll k) pyxlaw9_known.jl _ _ _ _ _ (by
  intro p hp
  simp only [pyxlaw9_known.fl, List.mem_cons, List.not_mem_nil, or_false] at hp
  rcases hp with rfl | rfl
  · exact ⟨role_All.sound k, enter_of Try.func27 (by kernel_rfl) (by kernel_rfl)⟩
  · exact ⟨role_Right.sound k, enter_of Try.func28 (by kernel_rfl) (by kernel_rfl)⟩) (by
  intro p hp
  simp [pyxlaw9_known.jl] at hp)
theorem pyxlaw9_known.eq (k : Nat) (x : Unit) : runF (pyxlaw9_known.E k) (codeOf Try.f26) (pyxlaw9_known.mk x) pyxlaw9_known.re = (pyxlaw9_known.D k).f x := by kernel_rfl
theorem pyxlaw9_known.sound (k : Nat) : Sound Try.prog DD 26 (pyxlaw9_known.D k) :=
  fun_sound (E := pyxlaw9_known.E k) (fn := Try.f26) (c := codeOf Try.f26) (pyxlaw9_known.ok k) mixed rfl Try.func26 (by kernel_rfl) (by kernel_rfl) (allL_of (l := []) (by kernel_rfl) allL_nil) (pyxlaw9_known.D k) pyxlaw9_known.mk pyxlaw9_known.re
    (by intro args x h; replace h : pyxlaw9_known.un args = some x := h; unfold pyxlaw9_known.un at h; split at h; · cases h; rfl
        · cases h)
    (by intro v y h; unfold pyxlaw9_known.re at h; split at h; · cases h; rfl
        · cases h)
    (fun _ => rfl) (fun x => Nat.le_of_ble_eq_true (by kernel_rfl)) (pyxlaw9_known.eq k)
/-! ### pyx/pyxref4.RightRoles: function 31 -/
noncomputable def pyxref4_RightRoles.l4.once (k : Nat) (x : (List Int × Int)) : Option ((List Int × Int) ⊕ (Unit ⊕ Bool)) := match x with | (x1, x2) => cond (decide (x2 < (List.length x1 : Int))) (((cond (inb x2 (List.length x1)) (cond (decide ((List.getD x1 (Int.toNat x2) 0) < (-1))) (some (x1, x2, true)) (cond (inb x2 (List.length x1)) (some (x1, x2, decide ((List.getD x1 (Int.toNat x2) 0) ≥ x2))) none)) none) : Option (List Int × Int × Bool)).bind fun y6 => (cond (y6.2.2) (some (.inr (.inr false))) (some (.inl (y6.1, IntKind.wrap .i64 (y6.2.1 + 1)))))) (some (.inr (.inl ())))
noncomputable def pyxref4_RightRoles.f (k : Nat) (a0 : List Int) : Option Bool := cond (decide ((List.length a0 : Int) > 8)) (some false) ((iter (pyxref4_RightRoles.l4.once k) k (a0, 0)).bind fun | .inl y8 => (some true) | .inr y9 => (some y9))
noncomputable def pyxref4_RightRoles.un : List (AV U) → Option (List Int) | [.row C.i64 x1] => some x1 | _ => none
noncomputable def pyxref4_RightRoles.mk (x : List Int) : List (AV U) := [.row C.i64 x]
noncomputable def pyxref4_RightRoles.D (k : Nat) : FDen U := { X := List Int, Y := Bool, un := pyxref4_RightRoles.un, f := fun x => pyxref4_RightRoles.f k (x), fin := fun y => .flat (.bool y) }
noncomputable def pyxref4_RightRoles.re : AV U → Option Bool | .flat (.bool x1) => some x1 | _ => none
noncomputable def pyxref4_RightRoles.l4.mk (x : (List Int × Int)) : St U := match x with | (x1, x2) => ⟨[(0, .row C.i64 x1), (3, .flat (.int .i64 x2))], []⟩
noncomputable def pyxref4_RightRoles.l4.un (s : St U) : Option (List Int × Int) := (row_i64 (s.get 0)).bind fun q0 => (match s.get 3 with | .flat (.int .i64 x2) => some (q0, x2) | _ => none)
noncomputable def pyxref4_RightRoles.l4.fin (y : Unit ⊕ Bool) : Out U := match y with | .inl () => .exit 0 ⟨[], []⟩ | .inr z => .ret (.flat (.bool z))
noncomputable def pyxref4_RightRoles.l4.finK {ρ : Type} (y : Unit ⊕ Bool) (K : Out U → Option ρ) : Option ρ := match y with | .inl () => K (.exit 0 ⟨[], []⟩) | .inr z => K (.ret (.flat (.bool z)))
theorem pyxref4_RightRoles.l4.finK_eq {ρ : Type} (y : Unit ⊕ Bool) (K : Out U → Option ρ) : pyxref4_RightRoles.l4.finK y K = K (pyxref4_RightRoles.l4.fin y) := by
  unfold pyxref4_RightRoles.l4.finK pyxref4_RightRoles.l4.fin
  first | rfl | (split <;> rfl)
noncomputable def pyxref4_RightRoles.l4.re : Out U → Option (Unit ⊕ Bool) | .exit 0 s => (some (.inl ())) | .ret v => (match v with | .flat (.bool x1) => some (.inr x1) | _ => none) | _ => none
noncomputable def pyxref4_RightRoles.l4.L (k : Nat) : LDen U := { X := (List Int × Int), Y := Unit ⊕ Bool, un := pyxref4_RightRoles.l4.un, f := iter (pyxref4_RightRoles.l4.once k) k, fin := pyxref4_RightRoles.l4.fin, finK := pyxref4_RightRoles.l4.finK, finK_eq := pyxref4_RightRoles.l4.finK_eq }
noncomputable def pyxref4_RightRoles.j6000.fin (y : (List Int × Int × Bool)) : Out U := match y with | (x3, x4, x5) => .norm ⟨[(0, .row C.i64 x3), (3, .flat (.int .i64 x4)), (25, .flat (.bool x5))], []⟩
noncomputable def pyxref4_RightRoles.j6000.finK {ρ : Type} (y : (List Int × Int × Bool)) (K : Out U → Option ρ) : Option ρ := match y with | (x3, x4, x5) => K (.norm ⟨[(0, .row C.i64 x3), (3, .flat (.int .i64 x4)), (25, .flat (.bool x5))], []⟩)
theorem pyxref4_RightRoles.j6000.finK_eq {ρ : Type} (y : (List Int × Int × Bool)) (K : Out U → Option ρ) : pyxref4_RightRoles.j6000.finK y K = K (pyxref4_RightRoles.j6000.fin y) := by
  unfold pyxref4_RightRoles.j6000.finK pyxref4_RightRoles.j6000.fin
  first | rfl | (split <;> rfl)
noncomputable def pyxref4_RightRoles.j6000.re : Out U → Option ((List Int × Int × Bool)) | .norm s => ((row_i64 (s.get 0)).bind fun q0 => (match s.get 3, s.get 25 with | .flat (.int .i64 x4), .flat (.bool x5) => some (q0, x4, x5) | _, _ => none)) | _ => none
noncomputable def pyxref4_RightRoles.j6000.J : JDen U := { Y := (List Int × Int × Bool), re := pyxref4_RightRoles.j6000.re, fin := pyxref4_RightRoles.j6000.fin, finK := pyxref4_RightRoles.j6000.finK, finK_eq := pyxref4_RightRoles.j6000.finK_eq }
theorem pyxref4_RightRoles.j6000.fit (o : Out U) (y : (List Int × Int × Bool)) (h : pyxref4_RightRoles.j6000.re o = some y) : FitsO o (pyxref4_RightRoles.j6000.fin y) := by
  unfold pyxref4_RightRoles.j6000.re at h
  split at h
  · obtain ⟨q0, eq0, h1⟩ := Option.bind_eq_some_iff.1 h
    split at h1
    · cases h1
      refine fitsO_norm (fits_ren [] ?_ ?_ ren_nil rfl)
      · exact List.forall_mem_cons.2 ⟨row_i64_fit eq0, List.forall_mem_cons.2 ⟨FV.same (by assumption) (fun _ _ _ hh => by cases hh) (fun _ hh => by cases hh), List.forall_mem_cons.2 ⟨FV.same (by assumption) (fun _ _ _ hh => by cases hh) (fun _ hh => by cases hh), fun _ hp => (List.not_mem_nil hp).elim⟩⟩⟩
      · exact fun _ hp => (List.not_mem_nil hp).elim
    · cases h1
  · cases h
noncomputable def pyxref4_RightRoles.jl : List (Nat × JDen U) := [(6000, pyxref4_RightRoles.j6000.J)]
noncomputable def pyxref4_RightRoles.fl (k : Nat) : List (Nat × FDen U) := []
noncomputable def pyxref4_RightRoles.ll (k : Nat) : List (Nat × LDen U) := [(4, pyxref4_RightRoles.l4.L k)]
noncomputable def pyxref4_RightRoles.E (k : Nat) : Env U := { P := Try.prog, D := DD, fd := lk (pyxref4_RightRoles.fl k), ld := lk (pyxref4_RightRoles.ll k), jd := lk pyxref4_RightRoles.jl, mode := lk [], elc := lk ec, dyn := fun t => false, vecs := fun d => false, results := Try.f31.results.toList }
theorem pyxref4_RightRoles.ok (k : Nat) : EnvOk (pyxref4_RightRoles.E k) := envOk lawful (pyxref4_RightRoles.fl k) (pyxref4_RightRoles.ll k) pyxref4_RightRoles.jl _ _ _ _ _ (by
  intro p hp
  simp [pyxref4_RightRoles.fl] at hp) (by
  intro p hp
  simp only [pyxref4_RightRoles.jl, List.mem_cons, List.not_mem_nil, or_false] at hp
  rcases hp with rfl
  · exact pyxref4_RightRoles.j6000.fit)
theorem pyxref4_RightRoles.l4.eq (k : Nat) (x : (List Int × Int)) : evC (pyxref4_RightRoles.E k) (loopAt Try.f31 4) (pyxref4_RightRoles.l4.mk x) (headK pyxref4_RightRoles.l4.un pyxref4_RightRoles.l4.re) = pyxref4_RightRoles.l4.once k x := by kernel_rfl
theorem pyxref4_RightRoles.l4.fit (s : St U) (x : (List Int × Int)) (h : pyxref4_RightRoles.l4.un s = some x) : Fits s (pyxref4_RightRoles.l4.mk x) := by
  unfold pyxref4_RightRoles.l4.un at h
  obtain ⟨q0, eq0, h1⟩ := Option.bind_eq_some_iff.1 h
  split at h1
  · cases h1
    refine fits_ren [] ?_ ?_ ren_nil rfl
    · exact List.forall_mem_cons.2 ⟨row_i64_fit eq0, List.forall_mem_cons.2 ⟨FV.same (by assumption) (fun _ _ _ hh => by cases hh) (fun _ hh => by cases hh), fun _ hp => (List.not_mem_nil hp).elim⟩⟩
    · exact fun _ hp => (List.not_mem_nil hp).elim
  · cases h1
theorem pyxref4_RightRoles.l4.fitO (o : Out U) (y : Unit ⊕ Bool) (h : pyxref4_RightRoles.l4.re o = some y) : FitsO o (pyxref4_RightRoles.l4.fin y) := by
  unfold pyxref4_RightRoles.l4.re at h
  split at h
  · cases h
    refine fitsO_exit (fits_ren [] ?_ ?_ ren_nil rfl)
    · exact fun _ hp => (List.not_mem_nil hp).elim
    · exact fun _ hp => (List.not_mem_nil hp).elim
  · split at h
    · cases h; exact fitsO_ret
    · cases h
  · cases h
theorem pyxref4_RightRoles.l4.sound (k : Nat) : LSound (pyxref4_RightRoles.E k) Try.f31.ntmps Try.f31 (loopAt Try.f31 4) (pyxref4_RightRoles.l4.L k) :=
  loop_sound (pyxref4_RightRoles.ok k) mixed rfl (by kernel_rfl) (allL_of (l := []) (by kernel_rfl) allL_nil) pyxref4_RightRoles.l4.un pyxref4_RightRoles.l4.mk pyxref4_RightRoles.l4.fin pyxref4_RightRoles.l4.re (pyxref4_RightRoles.l4.once k) k pyxref4_RightRoles.l4.fit pyxref4_RightRoles.l4.fitO (pyxref4_RightRoles.l4.eq k) pyxref4_RightRoles.l4.finK pyxref4_RightRoles.l4.finK_eq
theorem pyxref4_RightRoles.eq (k : Nat) (x : List Int) : runF (pyxref4_RightRoles.E k) (codeOf Try.f31) (pyxref4_RightRoles.mk x) pyxref4_RightRoles.re = (pyxref4_RightRoles.D k).f x := by kernel_rfl
theorem pyxref4_RightRoles.sound (k : Nat) : Sound Try.prog DD 31 (pyxref4_RightRoles.D k) :=
  fun_sound (E := pyxref4_RightRoles.E k) (fn := Try.f31) (c := codeOf Try.f31) (pyxref4_RightRoles.ok k) mixed rfl Try.func31 (by kernel_rfl) (by kernel_rfl) (allL_of (l := [loopAt Try.f31 4]) (by kernel_rfl) (allL_cons (key := 4) (by kernel_rfl) rfl (pyxref4_RightRoles.l4.sound k) allL_nil)) (pyxref4_RightRoles.D k) pyxref4_RightRoles.mk pyxref4_RightRoles.re
    (by intro args x h; replace h : pyxref4_RightRoles.un args = some x := h; unfold pyxref4_RightRoles.un at h; split at h; · cases h; rfl
        · cases h)
    (by intro v y h; unfold pyxref4_RightRoles.re at h; split at h; · cases h; rfl
        · cases h)
    (fun _ => rfl) (fun x => Nat.le_of_ble_eq_true (by kernel_rfl)) (pyxref4_RightRoles.eq k)
/-! ### pyx/pyxref4.has: function 38 -/
noncomputable def pyxref4_has.f (k : Nat) (a0 : Int) (a1 : Int) : Option Bool := cond (decide (a1 ≥ 0)) (cond (decide (a1 < 64)) (cond (decide (IntKind.wrap .u64 (a1) < 0)) none (some ((Int.tmod (Int.fdiv a0 (2 ^ (min (Int.toNat (IntKind.wrap .u64 (a1))) 64))) 2) == 1))) (some false)) (some false)
noncomputable def pyxref4_has.un : List (AV U) → Option (Int × Int) | [.flat (.int .u64 x1), .flat (.int .i64 x2)] => some (x1, x2) | _ => none
noncomputable def pyxref4_has.mk (x : (Int × Int)) : List (AV U) := [.flat (.int .u64 x.1), .flat (.int .i64 x.2)]
noncomputable def pyxref4_has.D (k : Nat) : FDen U := { X := (Int × Int), Y := Bool, un := pyxref4_has.un, f := fun x => pyxref4_has.f k (x.1) (x.2), fin := fun y => .flat (.bool y) }
noncomputable def pyxref4_has.re : AV U → Option Bool | .flat (.bool x1) => some x1 | _ => none
noncomputable def pyxref4_has.jl : List (Nat × JDen U) := []
noncomputable def pyxref4_has.fl (k : Nat) : List (Nat × FDen U) := []
noncomputable def pyxref4_has.ll (k : Nat) : List (Nat × LDen U) := []
noncomputable def pyxref4_has.E (k : Nat) : Env U := { P := Try.prog, D := DD, fd := lk (pyxref4_has.fl k), ld := lk (pyxref4_has.ll k), jd := lk pyxref4_has.jl, mode := lk [], elc := lk ec, dyn := fun t => false, vecs := fun d => false, results := Try.f38.results.toList }
theorem pyxref4_has.ok (k : Nat) : EnvOk (pyxref4_has.E k) := envOk lawful (pyxref4_has.fl k) (pyxref4_has.ll k) pyxref4_has.jl _ _ _ _ _ (by
  intro p hp
  simp [pyxref4_has.fl] at hp) (by
  intro p hp
  simp [pyxref4_has.jl] at hp)
theorem pyxref4_has.eq (k : Nat) (x : (Int × Int)) : runF (pyxref4_has.E k) (codeOf Try.f38) (pyxref4_has.mk x) pyxref4_has.re = (pyxref4_has.D k).f x := by kernel_rfl
theorem pyxref4_has.sound (k : Nat) : Sound Try.prog DD 38 (pyxref4_has.D k) :=
  fun_sound (E := pyxref4_has.E k) (fn := Try.f38) (c := codeOf Try.f38) (pyxref4_has.ok k) mixed rfl Try.func38 (by kernel_rfl) (by kernel_rfl) (allL_of (l := []) (by kernel_rfl) allL_nil) (pyxref4_has.D k) pyxref4_has.mk pyxref4_has.re
    (by intro args x h; replace h : pyxref4_has.un args = some x := h; unfold pyxref4_has.un at h; split at h; · cases h; rfl
        · cases h)
    (by intro v y h; unfold pyxref4_has.re at h; split at h; · cases h; rfl
        · cases h)
    (fun _ => rfl) (fun x => Nat.le_of_ble_eq_true (by kernel_rfl)) (pyxref4_has.eq k)
/-! ### pyx/pyxref4.All: function 32 -/
noncomputable def pyxref4_All.l5.once (k : Nat) (x : (List Int × Int × Int × Int)) : Option ((List Int × Int × Int × Int) ⊕ (Int)) := match x with | (x2, x3, x4, x5) => cond (decide (x5 ≥ 0)) ((((((pyxref4_has.f k x3 x5).bind fun t6 => (cond (t6) (some (x2, x3, x4, x5, true)) ((pyxref4_has.f k x4 x5).bind fun t12 => (some (x2, x3, x4, x5, t12))))) : Option (List Int × Int × Int × Int × Bool)).bind fun y13 => (cond (y13.2.2.2.2) (cond (decide (IntKind.wrap .u64 (y13.2.2.2.1) < 0)) none (cond (inb y13.2.2.2.1 (List.length y13.1)) (cond (decide ((List.getD y13.1 (Int.toNat y13.2.2.2.1) 0) ≥ 0)) (cond (inb y13.2.2.2.1 (List.length y13.1)) (cond (decide (IntKind.wrap .u64 (List.getD y13.1 (Int.toNat y13.2.2.2.1) 0) < 0)) none (some (y13.1, y13.2.1, bits .or .u64 (bits .or .u64 y13.2.2.1 (IntKind.wrap .u64 (1 * 2 ^ (min (Int.toNat (IntKind.wrap .u64 (y13.2.2.2.1))) 64)))) (IntKind.wrap .u64 (1 * 2 ^ (min (Int.toNat (IntKind.wrap .u64 (List.getD y13.1 (Int.toNat y13.2.2.2.1) 0))) 64))), y13.2.2.2.1))) none) (some (y13.1, y13.2.1, bits .or .u64 y13.2.2.1 (IntKind.wrap .u64 (1 * 2 ^ (min (Int.toNat (IntKind.wrap .u64 (y13.2.2.2.1))) 64))), y13.2.2.2.1))) none)) (some (y13.1, y13.2.1, y13.2.2.1, y13.2.2.2.1)))) : Option (List Int × Int × Int × Int)).bind fun y18 => (some (.inl (y18.1, y18.2.1, y18.2.2.1, IntKind.wrap .i64 (y18.2.2.2 - 1))))) (some (.inr x4))
noncomputable def pyxref4_All.f (k : Nat) (a0 : List Int) (a1 : Int) : Option Int := (pyxref4_RightRoles.f k a0).bind fun t1 => (cond (!t1) (some 0) ((iter (pyxref4_All.l5.once k) k (a0, a1, 0, IntKind.wrap .i64 ((List.length a0 : Int) - 1))).bind fun y20 => (some y20)))
noncomputable def pyxref4_All.un : List (AV U) → Option (List Int × Int) | [.row C.i64 x1, .flat (.int .u64 x2)] => some (x1, x2) | _ => none
noncomputable def pyxref4_All.mk (x : (List Int × Int)) : List (AV U) := [.row C.i64 x.1, .flat (.int .u64 x.2)]
noncomputable def pyxref4_All.D (k : Nat) : FDen U := { X := (List Int × Int), Y := Int, un := pyxref4_All.un, f := fun x => pyxref4_All.f k (x.1) (x.2), fin := fun y => .flat (.int .u64 y) }
noncomputable def pyxref4_All.re : AV U → Option Int | .flat (.int .u64 x1) => some x1 | _ => none
noncomputable def pyxref4_All.l5.mk (x : (List Int × Int × Int × Int)) : St U := match x with | (x2, x3, x4, x5) => ⟨[(0, .row C.i64 x2), (1, .flat (.int .u64 x3)), (5, .flat (.int .u64 x4)), (6, .flat (.int .i64 x5))], []⟩
noncomputable def pyxref4_All.l5.un (s : St U) : Option (List Int × Int × Int × Int) := (row_i64 (s.get 0)).bind fun q0 => (match s.get 1, s.get 5, s.get 6 with | .flat (.int .u64 x3), .flat (.int .u64 x4), .flat (.int .i64 x5) => some (q0, x3, x4, x5) | _, _, _ => none)
noncomputable def pyxref4_All.l5.fin (y : Int) : Out U := match y with | x19 => .exit 0 ⟨[(5, .flat (.int .u64 x19))], []⟩
noncomputable def pyxref4_All.l5.finK {ρ : Type} (y : Int) (K : Out U → Option ρ) : Option ρ := match y with | x19 => K (.exit 0 ⟨[(5, .flat (.int .u64 x19))], []⟩)
theorem pyxref4_All.l5.finK_eq {ρ : Type} (y : Int) (K : Out U → Option ρ) : pyxref4_All.l5.finK y K = K (pyxref4_All.l5.fin y) := by
  unfold pyxref4_All.l5.finK pyxref4_All.l5.fin
  first | rfl | (split <;> rfl)
noncomputable def pyxref4_All.l5.re : Out U → Option (Int) | .exit 0 s => (match s.get 5 with | .flat (.int .u64 x19) => some x19 | _ => none) | _ => none
noncomputable def pyxref4_All.l5.L (k : Nat) : LDen U := { X := (List Int × Int × Int × Int), Y := Int, un := pyxref4_All.l5.un, f := iter (pyxref4_All.l5.once k) k, fin := pyxref4_All.l5.fin, finK := pyxref4_All.l5.finK, finK_eq := pyxref4_All.l5.finK_eq }
noncomputable def pyxref4_All.j7000.fin (y : (List Int × Int × Int × Int × Bool)) : Out U := match y with | (x7, x8, x9, x10, x11) => .norm ⟨[(0, .row C.i64 x7), (1, .flat (.int .u64 x8)), (5, .flat (.int .u64 x9)), (6, .flat (.int .i64 x10)), (24, .flat (.bool x11))], []⟩
noncomputable def pyxref4_All.j7000.finK {ρ : Type} (y : (List Int × Int × Int × Int × Bool)) (K : Out U → Option ρ) : Option ρ := match y with | (x7, x8, x9, x10, x11) => K (.norm ⟨[(0, .row C.i64 x7), (1, .flat (.int .u64 x8)), (5, .flat (.int .u64 x9)), (6, .flat (.int .i64 x10)), (24, .flat (.bool x11))], []⟩)
theorem pyxref4_All.j7000.finK_eq {ρ : Type} (y : (List Int × Int × Int × Int × Bool)) (K : Out U → Option ρ) : pyxref4_All.j7000.finK y K = K (pyxref4_All.j7000.fin y) := by
  unfold pyxref4_All.j7000.finK pyxref4_All.j7000.fin
  first | rfl | (split <;> rfl)
noncomputable def pyxref4_All.j7000.re : Out U → Option ((List Int × Int × Int × Int × Bool)) | .norm s => ((row_i64 (s.get 0)).bind fun q0 => (match s.get 1, s.get 5, s.get 6, s.get 24 with | .flat (.int .u64 x8), .flat (.int .u64 x9), .flat (.int .i64 x10), .flat (.bool x11) => some (q0, x8, x9, x10, x11) | _, _, _, _ => none)) | _ => none
noncomputable def pyxref4_All.j7000.J : JDen U := { Y := (List Int × Int × Int × Int × Bool), re := pyxref4_All.j7000.re, fin := pyxref4_All.j7000.fin, finK := pyxref4_All.j7000.finK, finK_eq := pyxref4_All.j7000.finK_eq }
theorem pyxref4_All.j7000.fit (o : Out U) (y : (List Int × Int × Int × Int × Bool)) (h : pyxref4_All.j7000.re o = some y) : FitsO o (pyxref4_All.j7000.fin y) := by
  unfold pyxref4_All.j7000.re at h
  split at h
  · obtain ⟨q0, eq0, h1⟩ := Option.bind_eq_some_iff.1 h
    split at h1
    · cases h1
      refine fitsO_norm (fits_ren [] ?_ ?_ ren_nil rfl)
      · exact List.forall_mem_cons.2 ⟨row_i64_fit eq0, List.forall_mem_cons.2 ⟨FV.same (by assumption) (fun _ _ _ hh => by cases hh) (fun _ hh => by cases hh), List.forall_mem_cons.2 ⟨FV.same (by assumption) (fun _ _ _ hh => by cases hh) (fun _ hh => by cases hh), List.forall_mem_cons.2 ⟨FV.same (by assumption) (fun _ _ _ hh => by cases hh) (fun _ hh => by cases hh), List.forall_mem_cons.2 ⟨FV.same (by assumption) (fun _ _ _ hh => by cases hh) (fun _ hh => by cases hh), fun _ hp => (List.not_mem_nil hp).elim⟩⟩⟩⟩⟩
      · exact fun _ hp => (List.not_mem_nil hp).elim
    · cases h1
  · cases h
noncomputable def pyxref4_All.j7001.fin (y : (List Int × Int × Int × Int)) : Out U := match y with | (x14, x15, x16, x17) => .norm ⟨[(0, .row C.i64 x14), (1, .flat (.int .u64 x15)), (5, .flat (.int .u64 x16)), (6, .flat (.int .i64 x17))], []⟩
noncomputable def pyxref4_All.j7001.finK {ρ : Type} (y : (List Int × Int × Int × Int)) (K : Out U → Option ρ) : Option ρ := match y with | (x14, x15, x16, x17) => K (.norm ⟨[(0, .row C.i64 x14), (1, .flat (.int .u64 x15)), (5, .flat (.int .u64 x16)), (6, .flat (.int .i64 x17))], []⟩)
theorem pyxref4_All.j7001.finK_eq {ρ : Type} (y : (List Int × Int × Int × Int)) (K : Out U → Option ρ) : pyxref4_All.j7001.finK y K = K (pyxref4_All.j7001.fin y) := by
  unfold pyxref4_All.j7001.finK pyxref4_All.j7001.fin
  first | rfl | (split <;> rfl)
noncomputable def pyxref4_All.j7001.re : Out U → Option ((List Int × Int × Int × Int)) | .norm s => ((row_i64 (s.get 0)).bind fun q0 => (match s.get 1, s.get 5, s.get 6 with | .flat (.int .u64 x15), .flat (.int .u64 x16), .flat (.int .i64 x17) => some (q0, x15, x16, x17) | _, _, _ => none)) | _ => none
noncomputable def pyxref4_All.j7001.J : JDen U := { Y := (List Int × Int × Int × Int), re := pyxref4_All.j7001.re, fin := pyxref4_All.j7001.fin, finK := pyxref4_All.j7001.finK, finK_eq := pyxref4_All.j7001.finK_eq }
theorem pyxref4_All.j7001.fit (o : Out U) (y : (List Int × Int × Int × Int)) (h : pyxref4_All.j7001.re o = some y) : FitsO o (pyxref4_All.j7001.fin y) := by
  unfold pyxref4_All.j7001.re at h
  split at h
  · obtain ⟨q0, eq0, h1⟩ := Option.bind_eq_some_iff.1 h
    split at h1
    · cases h1
      refine fitsO_norm (fits_ren [] ?_ ?_ ren_nil rfl)
      · exact List.forall_mem_cons.2 ⟨row_i64_fit eq0, List.forall_mem_cons.2 ⟨FV.same (by assumption) (fun _ _ _ hh => by cases hh) (fun _ hh => by cases hh), List.forall_mem_cons.2 ⟨FV.same (by assumption) (fun _ _ _ hh => by cases hh) (fun _ hh => by cases hh), List.forall_mem_cons.2 ⟨FV.same (by assumption) (fun _ _ _ hh => by cases hh) (fun _ hh => by cases hh), fun _ hp => (List.not_mem_nil hp).elim⟩⟩⟩⟩
      · exact fun _ hp => (List.not_mem_nil hp).elim
    · cases h1
  · cases h
noncomputable def pyxref4_All.jl : List (Nat × JDen U) := [(7000, pyxref4_All.j7000.J), (7001, pyxref4_All.j7001.J)]
noncomputable def pyxref4_All.fl (k : Nat) : List (Nat × FDen U) := [(31, pyxref4_RightRoles.D k), (38, pyxref4_has.D k)]
noncomputable def pyxref4_All.ll (k : Nat) : List (Nat × LDen U) := [(5, pyxref4_All.l5.L k)]
noncomputable def pyxref4_All.E (k : Nat) : Env U := { P := Try.prog, D := DD, fd := lk (pyxref4_All.fl k), ld := lk (pyxref4_All.ll k), jd := lk pyxref4_All.jl, mode := lk [], elc := lk ec, dyn := fun t => false, vecs := fun d => false, results := Try.f32.results.toList }
theorem pyxref4_All.ok (k : Nat) : EnvOk (pyxref4_All.E k) := envOk lawful (pyxref4_All.fl k) (pyxref4_All.ll k) pyxref4_All.jl _ _ _ _ _ (by
  intro p hp
  simp only [pyxref4_All.fl, List.mem_cons, List.not_mem_nil, or_false] at hp
  rcases hp with rfl | rfl
  · exact ⟨pyxref4_RightRoles.sound k, enter_of Try.func31 (by kernel_rfl) (by kernel_rfl)⟩
  · exact ⟨pyxref4_has.sound k, enter_of Try.func38 (by kernel_rfl) (by kernel_rfl)⟩) (by
  intro p hp
  simp only [pyxref4_All.jl, List.mem_cons, List.not_mem_nil, or_false] at hp
  rcases hp with rfl | rfl
  · exact pyxref4_All.j7000.fit
  · exact pyxref4_All.j7001.fit)
theorem pyxref4_All.l5.eq (k : Nat) (x : (List Int × Int × Int × Int)) : evC (pyxref4_All.E k) (loopAt Try.f32 5) (pyxref4_All.l5.mk x) (headK pyxref4_All.l5.un pyxref4_All.l5.re) = pyxref4_All.l5.once k x := by kernel_rfl
theorem pyxref4_All.l5.fit (s : St U) (x : (List Int × Int × Int × Int)) (h : pyxref4_All.l5.un s = some x) : Fits s (pyxref4_All.l5.mk x) := by
  unfold pyxref4_All.l5.un at h
  obtain ⟨q0, eq0, h1⟩ := Option.bind_eq_some_iff.1 h
  split at h1
  · cases h1
    refine fits_ren [] ?_ ?_ ren_nil rfl
    · exact List.forall_mem_cons.2 ⟨row_i64_fit eq0, List.forall_mem_cons.2 ⟨FV.same (by assumption) (fun _ _ _ hh => by cases hh) (fun _ hh => by cases hh), List.forall_mem_cons.2 ⟨FV.same (by assumption) (fun _ _ _ hh => by cases hh) (fun _ hh => by cases hh), List.forall_mem_cons.2 ⟨FV.same (by assumption) (fun _ _ _ hh => by cases hh) (fun _ hh => by cases hh), fun _ hp => (List.not_mem_nil hp).elim⟩⟩⟩⟩
    · exact fun _ hp => (List.not_mem_nil hp).elim
  · cases h1
theorem pyxref4_All.l5.fitO (o : Out U) (y : Int) (h : pyxref4_All.l5.re o = some y) : FitsO o (pyxref4_All.l5.fin y) := by
  unfold pyxref4_All.l5.re at h
  split at h
  · split at h
    · cases h
      refine fitsO_exit (fits_ren [] ?_ ?_ ren_nil rfl)
      · exact List.forall_mem_cons.2 ⟨FV.same (by assumption) (fun _ _ _ hh => by cases hh) (fun _ hh => by cases hh), fun _ hp => (List.not_mem_nil hp).elim⟩
      · exact fun _ hp => (List.not_mem_nil hp).elim
    · cases h
  · cases h
theorem pyxref4_All.l5.sound (k : Nat) : LSound (pyxref4_All.E k) Try.f32.ntmps Try.f32 (loopAt Try.f32 5) (pyxref4_All.l5.L k) :=
  loop_sound (pyxref4_All.ok k) mixed rfl (by kernel_rfl) (allL_of (l := []) (by kernel_rfl) allL_nil) pyxref4_All.l5.un pyxref4_All.l5.mk pyxref4_All.l5.fin pyxref4_All.l5.re (pyxref4_All.l5.once k) k pyxref4_All.l5.fit pyxref4_All.l5.fitO (pyxref4_All.l5.eq k) pyxref4_All.l5.finK pyxref4_All.l5.finK_eq
theorem pyxref4_All.eq (k : Nat) (x : (List Int × Int)) : runF (pyxref4_All.E k) (codeOf Try.f32) (pyxref4_All.mk x) pyxref4_All.re = (pyxref4_All.D k).f x := by kernel_rfl
theorem pyxref4_All.sound (k : Nat) : Sound Try.prog DD 32 (pyxref4_All.D k) :=
  fun_sound (E := pyxref4_All.E k) (fn := Try.f32) (c := codeOf Try.f32) (pyxref4_All.ok k) mixed rfl Try.func32 (by kernel_rfl) (by kernel_rfl) (allL_of (l := [loopAt Try.f32 5]) (by kernel_rfl) (allL_cons (key := 5) (by kernel_rfl) rfl (pyxref4_All.l5.sound k) allL_nil)) (pyxref4_All.D k) pyxref4_All.mk pyxref4_All.re
    (by intro args x h; replace h : pyxref4_All.un args = some x := h; unfold pyxref4_All.un at h; split at h; · cases h; rfl
        · cases h)
    (by intro v y h; unfold pyxref4_All.re at h; split at h; · cases h; rfl
        · cases h)
    (fun _ => rfl) (fun x => Nat.le_of_ble_eq_true (by kernel_rfl)) (pyxref4_All.eq k)
/-! ### pyx/role.Has: function 29 -/
noncomputable def role_Has.f (k : Nat) (a0 : List Int) (a1 : Int) (a2 : Int) : Option Bool := cond (decide (a2 ≥ 0)) (cond (decide (a2 < (List.length a0 : Int))) ((role_All.f k a0 a1).bind fun t1 => ((role_bit.f k a2).bind fun t2 => (some (decide ((bits .and .u64 t1 t2) > 0))))) (some false)) (some false)
noncomputable def role_Has.un : List (AV U) → Option (List Int × Int × Int) | [.row C.i64 x1, .flat (.int .u64 x2), .flat (.int .i64 x3)] => some (x1, x2, x3) | _ => none
noncomputable def role_Has.mk (x : (List Int × Int × Int)) : List (AV U) := [.row C.i64 x.1, .flat (.int .u64 x.2.1), .flat (.int .i64 x.2.2)]
noncomputable def role_Has.D (k : Nat) : FDen U := { X := (List Int × Int × Int), Y := Bool, un := role_Has.un, f := fun x => role_Has.f k (x.1) (x.2.1) (x.2.2), fin := fun y => .flat (.bool y) }
noncomputable def role_Has.re : AV U → Option Bool | .flat (.bool x1) => some x1 | _ => none
noncomputable def role_Has.jl : List (Nat × JDen U) := []
noncomputable def role_Has.fl (k : Nat) : List (Nat × FDen U) := [(27, role_All.D k), (37, role_bit.D k)]
noncomputable def role_Has.ll (k : Nat) : List (Nat × LDen U) := []
noncomputable def role_Has.E (k : Nat) : Env U := { P := Try.prog, D := DD, fd := lk (role_Has.fl k), ld := lk (role_Has.ll k), jd := lk role_Has.jl, mode := lk [], elc := lk ec, dyn := fun t => false, vecs := fun d => false, results := Try.f29.results.toList }
theorem role_Has.ok (k : Nat) : EnvOk (role_Has.E k) := envOk lawful (role_Has.fl k) (role_Has.ll k) role_Has.jl _ _ _ _ _ (by
  intro p hp
  simp only [role_Has.fl, List.mem_cons, List.not_mem_nil, or_false] at hp
  rcases hp with rfl | rfl
  · exact ⟨role_All.sound k, enter_of Try.func27 (by kernel_rfl) (by kernel_rfl)⟩
  · exact ⟨role_bit.sound k, enter_of Try.func37 (by kernel_rfl) (by kernel_rfl)⟩) (by
  intro p hp
  simp [role_Has.jl] at hp)
theorem role_Has.eq (k : Nat) (x : (List Int × Int × Int)) : runF (role_Has.E k) (codeOf Try.f29) (role_Has.mk x) role_Has.re = (role_Has.D k).f x := by kernel_rfl
theorem role_Has.sound (k : Nat) : Sound Try.prog DD 29 (role_Has.D k) :=
  fun_sound (E := role_Has.E k) (fn := Try.f29) (c := codeOf Try.f29) (role_Has.ok k) mixed rfl Try.func29 (by kernel_rfl) (by kernel_rfl) (allL_of (l := []) (by kernel_rfl) allL_nil) (role_Has.D k) role_Has.mk role_Has.re
    (by intro args x h; replace h : role_Has.un args = some x := h; unfold role_Has.un at h; split at h; · cases h; rfl
        · cases h)
    (by intro v y h; unfold role_Has.re at h; split at h; · cases h; rfl
        · cases h)
    (fun _ => rfl) (fun x => Nat.le_of_ble_eq_true (by kernel_rfl)) (role_Has.eq k)
/-! ### pyx/pyxref4.HasRole: function 33 -/
noncomputable def pyxref4_HasRole.f (k : Nat) (a0 : List Int) (a1 : Int) (a2 : Int) : Option Bool := (pyxref4_All.f k a0 a1).bind fun t1 => ((pyxref4_has.f k t1 a2).bind fun t2 => (some t2))
noncomputable def pyxref4_HasRole.un : List (AV U) → Option (List Int × Int × Int) | [.row C.i64 x1, .flat (.int .u64 x2), .flat (.int .i64 x3)] => some (x1, x2, x3) | _ => none
noncomputable def pyxref4_HasRole.mk (x : (List Int × Int × Int)) : List (AV U) := [.row C.i64 x.1, .flat (.int .u64 x.2.1), .flat (.int .i64 x.2.2)]
noncomputable def pyxref4_HasRole.D (k : Nat) : FDen U := { X := (List Int × Int × Int), Y := Bool, un := pyxref4_HasRole.un, f := fun x => pyxref4_HasRole.f k (x.1) (x.2.1) (x.2.2), fin := fun y => .flat (.bool y) }
noncomputable def pyxref4_HasRole.re : AV U → Option Bool | .flat (.bool x1) => some x1 | _ => none
noncomputable def pyxref4_HasRole.jl : List (Nat × JDen U) := []
noncomputable def pyxref4_HasRole.fl (k : Nat) : List (Nat × FDen U) := [(32, pyxref4_All.D k), (38, pyxref4_has.D k)]
noncomputable def pyxref4_HasRole.ll (k : Nat) : List (Nat × LDen U) := []
noncomputable def pyxref4_HasRole.E (k : Nat) : Env U := { P := Try.prog, D := DD, fd := lk (pyxref4_HasRole.fl k), ld := lk (pyxref4_HasRole.ll k), jd := lk pyxref4_HasRole.jl, mode := lk [], elc := lk ec, dyn := fun t => false, vecs := fun d => false, results := Try.f33.results.toList }
theorem pyxref4_HasRole.ok (k : Nat) : EnvOk (pyxref4_HasRole.E k) := envOk lawful (pyxref4_HasRole.fl k) (pyxref4_HasRole.ll k) pyxref4_HasRole.jl _ _ _ _ _ (by
  intro p hp
  simp only [pyxref4_HasRole.fl, List.mem_cons, List.not_mem_nil, or_false] at hp
  rcases hp with rfl | rfl
  · exact ⟨pyxref4_All.sound k, enter_of Try.func32 (by kernel_rfl) (by kernel_rfl)⟩
  · exact ⟨pyxref4_has.sound k, enter_of Try.func38 (by kernel_rfl) (by kernel_rfl)⟩) (by
  intro p hp
  simp [pyxref4_HasRole.jl] at hp)
theorem pyxref4_HasRole.eq (k : Nat) (x : (List Int × Int × Int)) : runF (pyxref4_HasRole.E k) (codeOf Try.f33) (pyxref4_HasRole.mk x) pyxref4_HasRole.re = (pyxref4_HasRole.D k).f x := by kernel_rfl
theorem pyxref4_HasRole.sound (k : Nat) : Sound Try.prog DD 33 (pyxref4_HasRole.D k) :=
  fun_sound (E := pyxref4_HasRole.E k) (fn := Try.f33) (c := codeOf Try.f33) (pyxref4_HasRole.ok k) mixed rfl Try.func33 (by kernel_rfl) (by kernel_rfl) (allL_of (l := []) (by kernel_rfl) allL_nil) (pyxref4_HasRole.D k) pyxref4_HasRole.mk pyxref4_HasRole.re
    (by intro args x h; replace h : pyxref4_HasRole.un args = some x := h; unfold pyxref4_HasRole.un at h; split at h; · cases h; rfl
        · cases h)
    (by intro v y h; unfold pyxref4_HasRole.re at h; split at h; · cases h; rfl
        · cases h)
    (fun _ => rfl) (fun x => Nat.le_of_ble_eq_true (by kernel_rfl)) (pyxref4_HasRole.eq k)
/-! ### pyx/pyxlaw9.RoleTells: function 10 -/
noncomputable def pyxlaw9_RoleTells.f (k : Nat) (a0 : List Int) (a1 : Int) (a2 : Int) (a3 : Int) : Option Bool := (pyxlaw9_parents.f k a0 a1).bind fun t1 => ((pyxhand_Pick.f k a3 14).bind fun t2 => ((pyxlaw9_known.f k).bind fun t3 => (cond (t3) ((role_Right.f k t1).bind fun t4 => ((pyxref4_RightRoles.f k t1).bind fun t5 => (cond (t4 == t5) ((role_All.f k t1 a2).bind fun t6 => ((pyxref4_All.f k t1 a2).bind fun t7 => (cond (t6 == t7) ((role_Has.f k t1 a2 (IntKind.wrap .i64 (t2 - 2))).bind fun t8 => ((pyxref4_HasRole.f k t1 a2 (IntKind.wrap .i64 (t2 - 2))).bind fun t9 => (some (t8 == t9)))) (some false)))) (some false)))) (some false))))
noncomputable def pyxlaw9_RoleTells.un : List (AV U) → Option (List Int × Int × Int × Int) | [.row C.i64 x1, .flat (.int .i64 x2), .flat (.int .u64 x3), .flat (.int .i64 x4)] => some (x1, x2, x3, x4) | _ => none
noncomputable def pyxlaw9_RoleTells.mk (x : (List Int × Int × Int × Int)) : List (AV U) := [.row C.i64 x.1, .flat (.int .i64 x.2.1), .flat (.int .u64 x.2.2.1), .flat (.int .i64 x.2.2.2)]
noncomputable def pyxlaw9_RoleTells.D (k : Nat) : FDen U := { X := (List Int × Int × Int × Int), Y := Bool, un := pyxlaw9_RoleTells.un, f := fun x => pyxlaw9_RoleTells.f k (x.1) (x.2.1) (x.2.2.1) (x.2.2.2), fin := fun y => .flat (.bool y) }
noncomputable def pyxlaw9_RoleTells.re : AV U → Option Bool | .flat (.bool x1) => some x1 | _ => none
noncomputable def pyxlaw9_RoleTells.jl : List (Nat × JDen U) := []
noncomputable def pyxlaw9_RoleTells.fl (k : Nat) : List (Nat × FDen U) := [(30, pyxlaw9_parents.D k), (22, pyxhand_Pick.D k), (26, pyxlaw9_known.D k), (28, role_Right.D k), (31, pyxref4_RightRoles.D k), (27, role_All.D k), (32, pyxref4_All.D k), (29, role_Has.D k), (33, pyxref4_HasRole.D k)]
noncomputable def pyxlaw9_RoleTells.ll (k : Nat) : List (Nat × LDen U) := []
noncomputable def pyxlaw9_RoleTells.E (k : Nat) : Env U := { P := Try.prog, D := DD, fd := lk (pyxlaw9_RoleTells.fl k), ld := lk (pyxlaw9_RoleTells.ll k), jd := lk pyxlaw9_RoleTells.jl, mode := lk [], elc := lk ec, dyn := fun t => false, vecs := fun d => false, results := Try.f10.results.toList }
theorem pyxlaw9_RoleTells.ok (k : Nat) : EnvOk (pyxlaw9_RoleTells.E k) := envOk lawful (pyxlaw9_RoleTells.fl k) (pyxlaw9_RoleTells.ll k) pyxlaw9_RoleTells.jl _ _ _ _ _ (by
  intro p hp
  simp only [pyxlaw9_RoleTells.fl, List.mem_cons, List.not_mem_nil, or_false] at hp
  rcases hp with rfl | rfl | rfl | rfl | rfl | rfl | rfl | rfl | rfl
  · exact ⟨pyxlaw9_parents.sound k, enter_of Try.func30 (by kernel_rfl) (by kernel_rfl)⟩
  · exact ⟨pyxhand_Pick.sound k, enter_of Try.func22 (by kernel_rfl) (by kernel_rfl)⟩
  · exact ⟨pyxlaw9_known.sound k, enter_of Try.func26 (by kernel_rfl) (by kernel_rfl)⟩
  · exact ⟨role_Right.sound k, enter_of Try.func28 (by kernel_rfl) (by kernel_rfl)⟩
  · exact ⟨pyxref4_RightRoles.sound k, enter_of Try.func31 (by kernel_rfl) (by kernel_rfl)⟩
  · exact ⟨role_All.sound k, enter_of Try.func27 (by kernel_rfl) (by kernel_rfl)⟩
  · exact ⟨pyxref4_All.sound k, enter_of Try.func32 (by kernel_rfl) (by kernel_rfl)⟩
  · exact ⟨role_Has.sound k, enter_of Try.func29 (by kernel_rfl) (by kernel_rfl)⟩
  · exact ⟨pyxref4_HasRole.sound k, enter_of Try.func33 (by kernel_rfl) (by kernel_rfl)⟩) (by
  intro p hp
  simp [pyxlaw9_RoleTells.jl] at hp)
theorem pyxlaw9_RoleTells.eq (k : Nat) (x : (List Int × Int × Int × Int)) : runF (pyxlaw9_RoleTells.E k) (codeOf Try.f10) (pyxlaw9_RoleTells.mk x) pyxlaw9_RoleTells.re = (pyxlaw9_RoleTells.D k).f x := by kernel_rfl
theorem pyxlaw9_RoleTells.sound (k : Nat) : Sound Try.prog DD 10 (pyxlaw9_RoleTells.D k) :=
  fun_sound (E := pyxlaw9_RoleTells.E k) (fn := Try.f10) (c := codeOf Try.f10) (pyxlaw9_RoleTells.ok k) mixed rfl Try.func10 (by kernel_rfl) (by kernel_rfl) (allL_of (l := []) (by kernel_rfl) allL_nil) (pyxlaw9_RoleTells.D k) pyxlaw9_RoleTells.mk pyxlaw9_RoleTells.re
    (by intro args x h; replace h : pyxlaw9_RoleTells.un args = some x := h; unfold pyxlaw9_RoleTells.un at h; split at h; · cases h; rfl
        · cases h)
    (by intro v y h; unfold pyxlaw9_RoleTells.re at h; split at h; · cases h; rfl
        · cases h)
    (fun _ => rfl) (fun x => Nat.le_of_ble_eq_true (by kernel_rfl)) (pyxlaw9_RoleTells.eq k)
/-! ### pyx/pyxlaw9.RoleGrows: function 11 -/
noncomputable def pyxlaw9_RoleGrows.l10.once (k : Nat) (x : (Int × List Int × Int × List Int × Int × Int)) : Option ((Int × List Int × Int × List Int × Int × Int) ⊕ (Unit ⊕ Bool)) := match x with | (x16, x17, x18, x19, x20, x21) => cond (decide (x21 < x20)) (cond (inb x21 (List.length x19)) ((((role_Has.f k x17 x16 x21).bind fun t22 => (cond (decide (IntKind.wrap .u64 (x21) < 0)) none (cond (!(t22 == ((Int.tmod (Int.fdiv x18 (2 ^ (min (Int.toNat (IntKind.wrap .u64 (x21))) 64))) 2) == 1))) (some (x16, x17, x18, x19, x20, x21, true)) (cond (decide ((List.getD x19 (Int.toNat x21) 0) ≥ 0)) ((role_Has.f k x17 x16 x21).bind fun t30 => (cond (t30) ((role_Has.f k x17 x16 (List.getD x19 (Int.toNat x21) 0)).bind fun t31 => (some (x16, x17, x18, x19, x20, x21, !t31))) (some (x16, x17, x18, x19, x20, x21, false)))) (some (x16, x17, x18, x19, x20, x21, false)))))) : Option (Int × List Int × Int × List Int × Int × Int × Bool)).bind fun y32 => (cond (y32.2.2.2.2.2.2) (some (.inr (.inr false))) (some (.inl (y32.1, y32.2.1, y32.2.2.1, y32.2.2.2.1, y32.2.2.2.2.1, IntKind.wrap .i64 (y32.2.2.2.2.2.1 + 1)))))) none) (some (.inr (.inl ())))
noncomputable def pyxlaw9_RoleGrows.f (k : Nat) (a0 : List Int) (a1 : Int) (a2 : Int) : Option Bool := (pyxlaw9_parents.f k a0 0).bind fun t1 => (((cond (decide ((List.length t1 : Int) > 8)) (cond (inS 0 8 (List.length t1)) (some (a1, a2, List.take (8) t1)) none) (some (a1, a2, t1))) : Option (Int × Int × List Int)).bind fun y5 => (cond (decide (IntKind.wrap .u64 ((List.length y5.2.2 : Int)) < 0)) none ((role_All.f k y5.2.2 y5.1).bind fun t6 => ((role_All.f k y5.2.2 y5.2.1).bind fun t7 => ((((pyxlaw9_known.f k).bind fun t8 => (cond (!t8) (some (y5.1, y5.2.2, t6, true)) (cond ((bits .and .u64 t6 (IntKind.wrap .u64 ((IntKind.wrap .u64 (1 * 2 ^ (min (Int.toNat (IntKind.wrap .u64 ((List.length y5.2.2 : Int)))) 64))) - 1))) != t6) (some (y5.1, y5.2.2, t6, true)) (cond ((bits .and .u64 t6 y5.1) != (bits .and .u64 y5.1 (IntKind.wrap .u64 ((IntKind.wrap .u64 (1 * 2 ^ (min (Int.toNat (IntKind.wrap .u64 ((List.length y5.2.2 : Int)))) 64))) - 1)))) (some (y5.1, y5.2.2, t6, true)) ((role_All.f k y5.2.2 t6).bind fun t13 => (cond (t13 != t6) (some (y5.1, y5.2.2, t6, true)) ((role_All.f k y5.2.2 (bits .or .u64 y5.1 y5.2.1)).bind fun t14 => (some (y5.1, y5.2.2, t6, t14 != (bits .or .u64 t6 t7)))))))))) : Option (Int × List Int × Int × Bool)).bind fun y15 => (cond (y15.2.2.2) (some false) ((iter (pyxlaw9_RoleGrows.l10.once k) k (y15.1, y15.2.1, y15.2.2.1, y15.2.1, (List.length y15.2.1 : Int), 0)).bind fun | .inl y34 => (some true) | .inr y35 => (some y35))))))))
noncomputable def pyxlaw9_RoleGrows.un : List (AV U) → Option (List Int × Int × Int) | [.row C.i64 x1, .flat (.int .u64 x2), .flat (.int .u64 x3)] => some (x1, x2, x3) | _ => none
noncomputable def pyxlaw9_RoleGrows.mk (x : (List Int × Int × Int)) : List (AV U) := [.row C.i64 x.1, .flat (.int .u64 x.2.1), .flat (.int .u64 x.2.2)]
noncomputable def pyxlaw9_RoleGrows.D (k : Nat) : FDen U := { X := (List Int × Int × Int), Y := Bool, un := pyxlaw9_RoleGrows.un, f := fun x => pyxlaw9_RoleGrows.f k (x.1) (x.2.1) (x.2.2), fin := fun y => .flat (.bool y) }
noncomputable def pyxlaw9_RoleGrows.re : AV U → Option Bool | .flat (.bool x1) => some x1 | _ => none
noncomputable def pyxlaw9_RoleGrows.l10.mk (x : (Int × List Int × Int × List Int × Int × Int)) : St U := match x with | (x16, x17, x18, x19, x20, x21) => ⟨[(1, .flat (.int .u64 x16)), (7, .row C.i64 x17), (9, .flat (.int .u64 x18)), (67, .row C.i64 x19), (68, .flat (.int .i64 x20)), (69, .flat (.int .i64 x21))], []⟩
noncomputable def pyxlaw9_RoleGrows.l10.un (s : St U) : Option (Int × List Int × Int × List Int × Int × Int) := (row_i64 (s.get 7)).bind fun q0 => ((row_i64 (s.get 67)).bind fun q1 => (match s.get 1, s.get 9, s.get 68, s.get 69 with | .flat (.int .u64 x16), .flat (.int .u64 x18), .flat (.int .i64 x20), .flat (.int .i64 x21) => some (x16, q0, x18, q1, x20, x21) | _, _, _, _ => none))
noncomputable def pyxlaw9_RoleGrows.l10.fin (y : Unit ⊕ Bool) : Out U := match y with | .inl () => .exit 0 ⟨[], []⟩ | .inr z => .ret (.flat (.bool z))
noncomputable def pyxlaw9_RoleGrows.l10.finK {ρ : Type} (y : Unit ⊕ Bool) (K : Out U → Option ρ) : Option ρ := match y with | .inl () => K (.exit 0 ⟨[], []⟩) | .inr z => K (.ret (.flat (.bool z)))
theorem pyxlaw9_RoleGrows.l10.finK_eq {ρ : Type} (y : Unit ⊕ Bool) (K : Out U → Option ρ) : pyxlaw9_RoleGrows.l10.finK y K = K (pyxlaw9_RoleGrows.l10.fin y) := by
  unfold pyxlaw9_RoleGrows.l10.finK pyxlaw9_RoleGrows.l10.fin
  first | rfl | (split <;> rfl)
noncomputable def pyxlaw9_RoleGrows.l10.re : Out U → Option (Unit ⊕ Bool) | .exit 0 s => (some (.inl ())) | .ret v => (match v with | .flat (.bool x1) => some (.inr x1) | _ => none) | _ => none
noncomputable def pyxlaw9_RoleGrows.l10.L (k : Nat) : LDen U := { X := (Int × List Int × Int × List Int × Int × Int), Y := Unit ⊕ Bool, un := pyxlaw9_RoleGrows.l10.un, f := iter (pyxlaw9_RoleGrows.l10.once k) k, fin := pyxlaw9_RoleGrows.l10.fin, finK := pyxlaw9_RoleGrows.l10.finK, finK_eq := pyxlaw9_RoleGrows.l10.finK_eq }
noncomputable def pyxlaw9_RoleGrows.j3001.fin (y : (Int × Int × List Int)) : Out U := match y with | (x2, x3, x4) => .norm ⟨[(1, .flat (.int .u64 x2)), (2, .flat (.int .u64 x3)), (7, .row C.i64 x4)], []⟩
noncomputable def pyxlaw9_RoleGrows.j3001.finK {ρ : Type} (y : (Int × Int × List Int)) (K : Out U → Option ρ) : Option ρ := match y with | (x2, x3, x4) => K (.norm ⟨[(1, .flat (.int .u64 x2)), (2, .flat (.int .u64 x3)), (7, .row C.i64 x4)], []⟩)
theorem pyxlaw9_RoleGrows.j3001.finK_eq {ρ : Type} (y : (Int × Int × List Int)) (K : Out U → Option ρ) : pyxlaw9_RoleGrows.j3001.finK y K = K (pyxlaw9_RoleGrows.j3001.fin y) := by
  unfold pyxlaw9_RoleGrows.j3001.finK pyxlaw9_RoleGrows.j3001.fin
  first | rfl | (split <;> rfl)
noncomputable def pyxlaw9_RoleGrows.j3001.re : Out U → Option ((Int × Int × List Int)) | .norm s => ((row_i64 (s.get 7)).bind fun q0 => (match s.get 1, s.get 2 with | .flat (.int .u64 x2), .flat (.int .u64 x3) => some (x2, x3, q0) | _, _ => none)) | _ => none
noncomputable def pyxlaw9_RoleGrows.j3001.J : JDen U := { Y := (Int × Int × List Int), re := pyxlaw9_RoleGrows.j3001.re, fin := pyxlaw9_RoleGrows.j3001.fin, finK := pyxlaw9_RoleGrows.j3001.finK, finK_eq := pyxlaw9_RoleGrows.j3001.finK_eq }
theorem pyxlaw9_RoleGrows.j3001.fit (o : Out U) (y : (Int × Int × List Int)) (h : pyxlaw9_RoleGrows.j3001.re o = some y) : FitsO o (pyxlaw9_RoleGrows.j3001.fin y) := by
  unfold pyxlaw9_RoleGrows.j3001.re at h
  split at h
  · obtain ⟨q0, eq0, h1⟩ := Option.bind_eq_some_iff.1 h
    split at h1
    · cases h1
      refine fitsO_norm (fits_ren [] ?_ ?_ ren_nil rfl)
      · exact List.forall_mem_cons.2 ⟨FV.same (by assumption) (fun _ _ _ hh => by cases hh) (fun _ hh => by cases hh), List.forall_mem_cons.2 ⟨FV.same (by assumption) (fun _ _ _ hh => by cases hh) (fun _ hh => by cases hh), List.forall_mem_cons.2 ⟨row_i64_fit eq0, fun _ hp => (List.not_mem_nil hp).elim⟩⟩⟩
      · exact fun _ hp => (List.not_mem_nil hp).elim
    · cases h1
  · cases h
noncomputable def pyxlaw9_RoleGrows.j7000.fin (y : (Int × List Int × Int × Bool)) : Out U := match y with | (x9, x10, x11, x12) => .norm ⟨[(1, .flat (.int .u64 x9)), (7, .row C.i64 x10), (9, .flat (.int .u64 x11)), (66, .flat (.bool x12))], []⟩
noncomputable def pyxlaw9_RoleGrows.j7000.finK {ρ : Type} (y : (Int × List Int × Int × Bool)) (K : Out U → Option ρ) : Option ρ := match y with | (x9, x10, x11, x12) => K (.norm ⟨[(1, .flat (.int .u64 x9)), (7, .row C.i64 x10), (9, .flat (.int .u64 x11)), (66, .flat (.bool x12))], []⟩)
theorem pyxlaw9_RoleGrows.j7000.finK_eq {ρ : Type} (y : (Int × List Int × Int × Bool)) (K : Out U → Option ρ) : pyxlaw9_RoleGrows.j7000.finK y K = K (pyxlaw9_RoleGrows.j7000.fin y) := by
  unfold pyxlaw9_RoleGrows.j7000.finK pyxlaw9_RoleGrows.j7000.fin
  first | rfl | (split <;> rfl)
noncomputable def pyxlaw9_RoleGrows.j7000.re : Out U → Option ((Int × List Int × Int × Bool)) | .norm s => ((row_i64 (s.get 7)).bind fun q0 => (match s.get 1, s.get 9, s.get 66 with | .flat (.int .u64 x9), .flat (.int .u64 x11), .flat (.bool x12) => some (x9, q0, x11, x12) | _, _, _ => none)) | _ => none
noncomputable def pyxlaw9_RoleGrows.j7000.J : JDen U := { Y := (Int × List Int × Int × Bool), re := pyxlaw9_RoleGrows.j7000.re, fin := pyxlaw9_RoleGrows.j7000.fin, finK := pyxlaw9_RoleGrows.j7000.finK, finK_eq := pyxlaw9_RoleGrows.j7000.finK_eq }
theorem pyxlaw9_RoleGrows.j7000.fit (o : Out U) (y : (Int × List Int × Int × Bool)) (h : pyxlaw9_RoleGrows.j7000.re o = some y) : FitsO o (pyxlaw9_RoleGrows.j7000.fin y) := by
  unfold pyxlaw9_RoleGrows.j7000.re at h
  split at h
  · obtain ⟨q0, eq0, h1⟩ := Option.bind_eq_some_iff.1 h
    split at h1
    · cases h1
      refine fitsO_norm (fits_ren [] ?_ ?_ ren_nil rfl)
      · exact List.forall_mem_cons.2 ⟨FV.same (by assumption) (fun _ _ _ hh => by cases hh) (fun _ hh => by cases hh), List.forall_mem_cons.2 ⟨row_i64_fit eq0, List.forall_mem_cons.2 ⟨FV.same (by assumption) (fun _ _ _ hh => by cases hh) (fun _ hh => by cases hh), List.forall_mem_cons.2 ⟨FV.same (by assumption) (fun _ _ _ hh => by cases hh) (fun _ hh => by cases hh), fun _ hp => (List.not_mem_nil hp).elim⟩⟩⟩⟩
      · exact fun _ hp => (List.not_mem_nil hp).elim
    · cases h1
  · cases h
noncomputable def pyxlaw9_RoleGrows.j12000.fin (y : (Int × List Int × Int × List Int × Int × Int × Bool)) : Out U := match y with | (x23, x24, x25, x26, x27, x28, x29) => .norm ⟨[(1, .flat (.int .u64 x23)), (7, .row C.i64 x24), (9, .flat (.int .u64 x25)), (67, .row C.i64 x26), (68, .flat (.int .i64 x27)), (69, .flat (.int .i64 x28)), (101, .flat (.bool x29))], []⟩
noncomputable def pyxlaw9_RoleGrows.j12000.finK {ρ : Type} (y : (Int × List Int × Int × List Int × Int × Int × Bool)) (K : Out U → Option ρ) : Option ρ := match y with | (x23, x24, x25, x26, x27, x28, x29) => K (.norm ⟨[(1, .flat (.int .u64 x23)), (7, .row C.i64 x24), (9, .flat (.int .u64 x25)), (67, .row C.i64 x26), (68, .flat (.int .i64 x27)), (69, .flat (.int .i64 x28)), (101, .flat (.bool x29))], []⟩)
theorem pyxlaw9_RoleGrows.j12000.finK_eq {ρ : Type} (y : (Int × List Int × Int × List Int × Int × Int × Bool)) (K : Out U → Option ρ) : pyxlaw9_RoleGrows.j12000.finK y K = K (pyxlaw9_RoleGrows.j12000.fin y) := by
  unfold pyxlaw9_RoleGrows.j12000.finK pyxlaw9_RoleGrows.j12000.fin
  first | rfl | (split <;> rfl)
noncomputable def pyxlaw9_RoleGrows.j12000.re : Out U → Option ((Int × List Int × Int × List Int × Int × Int × Bool)) | .norm s => ((row_i64 (s.get 7)).bind fun q0 => ((row_i64 (s.get 67)).bind fun q1 => (match s.get 1, s.get 9, s.get 68, s.get 69, s.get 101 with | .flat (.int .u64 x23), .flat (.int .u64 x25), .flat (.int .i64 x27), .flat (.int .i64 x28), .flat (.bool x29) => some (x23, q0, x25, q1, x27, x28, x29) | _, _, _, _, _ => none))) | _ => none
noncomputable def pyxlaw9_RoleGrows.j12000.J : JDen U := { Y := (Int × List Int × Int × List Int × Int × Int × Bool), re := pyxlaw9_RoleGrows.j12000.re, fin := pyxlaw9_RoleGrows.j12000.fin, finK := pyxlaw9_RoleGrows.j12000.finK, finK_eq := pyxlaw9_RoleGrows.j12000.finK_eq }
theorem pyxlaw9_RoleGrows.j12000.fit (o : Out U) (y : (Int × List Int × Int × List Int × Int × Int × Bool)) (h : pyxlaw9_RoleGrows.j12000.re o = some y) : FitsO o (pyxlaw9_RoleGrows.j12000.fin y) := by
  unfold pyxlaw9_RoleGrows.j12000.re at h
  split at h
  · obtain ⟨q0, eq0, h1⟩ := Option.bind_eq_some_iff.1 h
    obtain ⟨q1, eq1, h2⟩ := Option.bind_eq_some_iff.1 h1
    split at h2
    · cases h2
      refine fitsO_norm (fits_ren [] ?_ ?_ ren_nil rfl)
      · exact List.forall_mem_cons.2 ⟨FV.same (by assumption) (fun _ _ _ hh => by cases hh) (fun _ hh => by cases hh), List.forall_mem_cons.2 ⟨row_i64_fit eq0, List.forall_mem_cons.2 ⟨FV.same (by assumption) (fun _ _ _ hh => by cases hh) (fun _ hh => by cases hh), List.forall_mem_cons.2 ⟨row_i64_fit eq1, List.forall_mem_cons.2 ⟨FV.same (by assumption) (fun _ _ _ hh => by cases hh) (fun _ hh => by cases hh), List.forall_mem_cons.2 ⟨FV.same (by assumption) (fun _ _ _ hh => by cases hh) (fun _ hh => by cases hh), List.forall_mem_cons.2 ⟨FV.same (by assumption) (fun _ _ _ hh => by cases hh) (fun _ hh => by cases hh), fun _ hp => (List.not_mem_nil hp).elim⟩⟩⟩⟩⟩⟩⟩
      · exact fun _ hp => (List.not_mem_nil hp).elim
    · cases h2
  · cases h
noncomputable def pyxlaw9_RoleGrows.jl : List (Nat × JDen U) := [(3001, pyxlaw9_RoleGrows.j3001.J), (7000, pyxlaw9_RoleGrows.j7000.J), (12000, pyxlaw9_RoleGrows.j12000.J)]
noncomputable def pyxlaw9_RoleGrows.fl (k : Nat) : List (Nat × FDen U) := [(30, pyxlaw9_parents.D k), (27, role_All.D k), (26, pyxlaw9_known.D k), (29, role_Has.D k)]
noncomputable def pyxlaw9_RoleGrows.ll (k : Nat) : List (Nat × LDen U) := [(10, pyxlaw9_RoleGrows.l10.L k)]
noncomputable def pyxlaw9_RoleGrows.E (k : Nat) : Env U := { P := Try.prog, D := DD, fd := lk (pyxlaw9_RoleGrows.fl k), ld := lk (pyxlaw9_RoleGrows.ll k), jd := lk pyxlaw9_RoleGrows.jl, mode := lk [], elc := lk ec, dyn := fun t => false, vecs := fun d => false, results := Try.f11.results.toList }
theorem pyxlaw9_RoleGrows.ok (k : Nat) : EnvOk (pyxlaw9_RoleGrows.E k) := envOk lawful (pyxlaw9_RoleGrows.fl k) (pyxlaw9_RoleGrows.ll k) pyxlaw9_RoleGrows.jl _ _ _ _ _ (by
  intro p hp
  simp only [pyxlaw9_RoleGrows.fl, List.mem_cons, List.not_mem_nil, or_false] at hp
  rcases hp with rfl | rfl | rfl | rfl
  · exact ⟨pyxlaw9_parents.sound k, enter_of Try.func30 (by kernel_rfl) (by kernel_rfl)⟩
  · exact ⟨role_All.sound k, enter_of Try.func27 (by kernel_rfl) (by kernel_rfl)⟩
  · exact ⟨pyxlaw9_known.sound k, enter_of Try.func26 (by kernel_rfl) (by kernel_rfl)⟩
  · exact ⟨role_Has.sound k, enter_of Try.func29 (by kernel_rfl) (by kernel_rfl)⟩) (by
  intro p hp
  simp only [pyxlaw9_RoleGrows.jl, List.mem_cons, List.not_mem_nil, or_false] at hp
  rcases hp with rfl | rfl | rfl
  · exact pyxlaw9_RoleGrows.j3001.fit
  · exact pyxlaw9_RoleGrows.j7000.fit
  · exact pyxlaw9_RoleGrows.j12000.fit)
theorem pyxlaw9_RoleGrows.l10.eq (k : Nat) (x : (Int × List Int × Int × List Int × Int × Int)) : evC (pyxlaw9_RoleGrows.E k) (loopAt Try.f11 10) (pyxlaw9_RoleGrows.l10.mk x) (headK pyxlaw9_RoleGrows.l10.un pyxlaw9_RoleGrows.l10.re) = pyxlaw9_RoleGrows.l10.once k x := by kernel_rfl
theorem pyxlaw9_RoleGrows.l10.fit (s : St U) (x : (Int × List Int × Int × List Int × Int × Int)) (h : pyxlaw9_RoleGrows.l10.un s = some x) : Fits s (pyxlaw9_RoleGrows.l10.mk x) := by
  unfold pyxlaw9_RoleGrows.l10.un at h
  obtain ⟨q0, eq0, h1⟩ := Option.bind_eq_some_iff.1 h
  obtain ⟨q1, eq1, h2⟩ := Option.bind_eq_some_iff.1 h1
  split at h2
  · cases h2
    refine fits_ren [] ?_ ?_ ren_nil rfl
    · exact List.forall_mem_cons.2 ⟨FV.same (by assumption) (fun _ _ _ hh => by cases hh) (fun _ hh => by cases hh), List.forall_mem_cons.2 ⟨row_i64_fit eq0, List.forall_mem_cons.2 ⟨FV.same (by assumption) (fun _ _ _ hh => by cases hh) (fun _ hh => by cases hh), List.forall_mem_cons.2 ⟨row_i64_fit eq1, List.forall_mem_cons.2 ⟨FV.same (by assumption) (fun _ _ _ hh => by cases hh) (fun _ hh => by cases hh), List.forall_mem_cons.2 ⟨FV.same (by assumption) (fun _ _ _ hh => by cases hh) (fun _ hh => by cases hh), fun _ hp => (List.not_mem_nil hp).elim⟩⟩⟩⟩⟩⟩
    · exact fun _ hp => (List.not_mem_nil hp).elim
  · cases h2
theorem pyxlaw9_RoleGrows.l10.fitO (o : Out U) (y : Unit ⊕ Bool) (h : pyxlaw9_RoleGrows.l10.re o = some y) : FitsO o (pyxlaw9_RoleGrows.l10.fin y) := by
  unfold pyxlaw9_RoleGrows.l10.re at h
  split at h
  · cases h
    refine fitsO_exit (fits_ren [] ?_ ?_ ren_nil rfl)
    · exact fun _ hp => (List.not_mem_nil hp).elim
    · exact fun _ hp => (List.not_mem_nil hp).elim
  · split at h
    · cases h; exact fitsO_ret
    · cases h
  · cases h
theorem pyxlaw9_RoleGrows.l10.sound (k : Nat) : LSound (pyxlaw9_RoleGrows.E k) Try.f11.ntmps Try.f11 (loopAt Try.f11 10) (pyxlaw9_RoleGrows.l10.L k) :=
  loop_sound (pyxlaw9_RoleGrows.ok k) mixed rfl (by kernel_rfl) (allL_of (l := []) (by kernel_rfl) allL_nil) pyxlaw9_RoleGrows.l10.un pyxlaw9_RoleGrows.l10.mk pyxlaw9_RoleGrows.l10.fin pyxlaw9_RoleGrows.l10.re (pyxlaw9_RoleGrows.l10.once k) k pyxlaw9_RoleGrows.l10.fit pyxlaw9_RoleGrows.l10.fitO (pyxlaw9_RoleGrows.l10.eq k) pyxlaw9_RoleGrows.l10.finK pyxlaw9_RoleGrows.l10.finK_eq
theorem pyxlaw9_RoleGrows.eq (k : Nat) (x : (List Int × Int × Int)) : runF (pyxlaw9_RoleGrows.E k) (codeOf Try.f11) (pyxlaw9_RoleGrows.mk x) pyxlaw9_RoleGrows.re = (pyxlaw9_RoleGrows.D k).f x := by kernel_rfl
theorem pyxlaw9_RoleGrows.sound (k : Nat) : Sound Try.prog DD 11 (pyxlaw9_RoleGrows.D k) :=
  fun_sound (E := pyxlaw9_RoleGrows.E k) (fn := Try.f11) (c := codeOf Try.f11) (pyxlaw9_RoleGrows.ok k) mixed rfl Try.func11 (by kernel_rfl) (by kernel_rfl) (allL_of (l := [loopAt Try.f11 10]) (by kernel_rfl) (allL_cons (key := 10) (by kernel_rfl) rfl (pyxlaw9_RoleGrows.l10.sound k) allL_nil)) (pyxlaw9_RoleGrows.D k) pyxlaw9_RoleGrows.mk pyxlaw9_RoleGrows.re
    (by intro args x h; replace h : pyxlaw9_RoleGrows.un args = some x := h; unfold pyxlaw9_RoleGrows.un at h; split at h; · cases h; rfl
        · cases h)
    (by intro v y h; unfold pyxlaw9_RoleGrows.re at h; split at h; · cases h; rfl
        · cases h)
    (fun _ => rfl) (fun x => Nat.le_of_ble_eq_true (by kernel_rfl)) (pyxlaw9_RoleGrows.eq k)
/-! ### pyx/period.is: function 35 -/
noncomputable def period_is.f (k : Nat) (a0 : Int) : Option Bool := cond (decide (a0 ≥ 0)) (some (decide (a0 < 12))) (some false)
noncomputable def period_is.un : List (AV U) → Option Int | [.flat (.int .i64 x1)] => some x1 | _ => none
noncomputable def period_is.mk (x : Int) : List (AV U) := [.flat (.int .i64 x)]
noncomputable def period_is.D (k : Nat) : FDen U := { X := Int, Y := Bool, un := period_is.un, f := fun x => period_is.f k (x), fin := fun y => .flat (.bool y) }
noncomputable def period_is.re : AV U → Option Bool | .flat (.bool x1) => some x1 | _ => none
noncomputable def period_is.jl : List (Nat × JDen U) := []
noncomputable def period_is.fl (k : Nat) : List (Nat × FDen U) := []
noncomputable def period_is.ll (k : Nat) : List (Nat × LDen U) := []
noncomputable def period_is.E (k : Nat) : Env U := { P := Try.prog, D := DD, fd := lk (period_is.fl k), ld := lk (period_is.ll k), jd := lk period_is.jl, mode := lk [], elc := lk ec, dyn := fun t => false, vecs := fun d => false, results := Try.f35.results.toList }
theorem period_is.ok (k : Nat) : EnvOk (period_is.E k) := envOk lawful (period_is.fl k) (period_is.ll k) period_is.jl _ _ _ _ _ (by
  intro p hp
  simp [period_is.fl] at hp) (by
  intro p hp
  simp [period_is.jl] at hp)
theorem period_is.eq (k : Nat) (x : Int) : runF (period_is.E k) (codeOf Try.f35) (period_is.mk x) period_is.re = (period_is.D k).f x := by kernel_rfl
theorem period_is.sound (k : Nat) : Sound Try.prog DD 35 (period_is.D k) :=
  fun_sound (E := period_is.E k) (fn := Try.f35) (c := codeOf Try.f35) (period_is.ok k) mixed rfl Try.func35 (by kernel_rfl) (by kernel_rfl) (allL_of (l := []) (by kernel_rfl) allL_nil) (period_is.D k) period_is.mk period_is.re
    (by intro args x h; replace h : period_is.un args = some x := h; unfold period_is.un at h; split at h; · cases h; rfl
        · cases h)
    (by intro v y h; unfold period_is.re at h; split at h; · cases h; rfl
        · cases h)
    (fun _ => rfl) (fun x => Nat.le_of_ble_eq_true (by kernel_rfl)) (period_is.eq k)
end
end Go.Proofs.Ytojkgadihooplaa
