import Derived.Test.YthknecaigoilmaaF1
/-! Functions, told; their equations with the evaluator; that they are sound. Written by gen.py. -/
namespace Go.Proofs.Ythknecaigoilmaa
open Go Go.Ev
noncomputable section
set_option linter.unusedVariables false
set_option linter.unusedSimpArgs false
set_option maxRecDepth 100000
/-! ### pyx/pyxref1.CmpNat: function 33 -/
noncomputable def pyxref1_CmpNat.l6.once (k : Nat) (x : (List Int × List Int × Int)) : Option ((List Int × List Int × Int) ⊕ (Unit ⊕ Int)) := match x with | (x1, x2, x3) => cond (decide (x3 ≥ 0)) (cond (inb x3 (List.length x1)) (cond (inb x3 (List.length x2)) (cond (decide ((List.getD x1 (Int.toNat x3) 0) < (List.getD x2 (Int.toNat x3) 0))) (some (.inr (.inr (-1)))) (cond (inb x3 (List.length x1)) (cond (inb x3 (List.length x2)) (cond (decide ((List.getD x1 (Int.toNat x3) 0) > (List.getD x2 (Int.toNat x3) 0))) (some (.inr (.inr 1))) (some (.inl (x1, x2, IntKind.wrap .i64 (x3 - 1))))) none) none)) none) none) (some (.inr (.inl ())))
noncomputable def pyxref1_CmpNat.f (k : Nat) (a0 : List Int) (a1 : List Int) : Option Int := cond ((List.length a0 : Int) != (List.length a1 : Int)) (cond (decide ((List.length a0 : Int) < (List.length a1 : Int))) (some (-1)) (some 1)) ((iter (pyxref1_CmpNat.l6.once k) k (a0, a1, IntKind.wrap .i64 ((List.length a0 : Int) - 1))).bind fun | .inl y5 => (some 0) | .inr y6 => (some y6))
noncomputable def pyxref1_CmpNat.un : List (AV U) → Option (List Int × List Int) | [.row C.i64 x1, .row C.i64 x2] => some (x1, x2) | _ => none
noncomputable def pyxref1_CmpNat.mk (x : (List Int × List Int)) : List (AV U) := [.row C.i64 x.1, .row C.i64 x.2]
noncomputable def pyxref1_CmpNat.D (k : Nat) : FDen U := { X := (List Int × List Int), Y := Int, un := pyxref1_CmpNat.un, f := fun x => pyxref1_CmpNat.f k (x.1) (x.2), fin := fun y => .flat (.int .i64 y) }
noncomputable def pyxref1_CmpNat.re : AV U → Option Int | .flat (.int .i64 x1) => some x1 | _ => none
noncomputable def pyxref1_CmpNat.l6.mk (x : (List Int × List Int × Int)) : St U := match x with | (x1, x2, x3) => ⟨[(0, .row C.i64 x1), (1, .row C.i64 x2), (5, .flat (.int .i64 x3))], []⟩
noncomputable def pyxref1_CmpNat.l6.un (s : St U) : Option (List Int × List Int × Int) := (row_i64 (s.get 0)).bind fun q0 => ((row_i64 (s.get 1)).bind fun q1 => (match s.get 5 with | .flat (.int .i64 x3) => some (q0, q1, x3) | _ => none))
noncomputable def pyxref1_CmpNat.l6.fin (y : Unit ⊕ Int) : Out U := match y with | .inl () => .exit 0 ⟨[], []⟩ | .inr z => .ret (.flat (.int .i64 z))
noncomputable def pyxref1_CmpNat.l6.finK {ρ : Type} (y : Unit ⊕ Int) (K : Out U → Option ρ) : Option ρ := match y with | .inl () => K (.exit 0 ⟨[], []⟩) | .inr z => K (.ret (.flat (.int .i64 z)))
theorem pyxref1_CmpNat.l6.finK_eq {ρ : Type} (y : Unit ⊕ Int) (K : Out U → Option ρ) : pyxref1_CmpNat.l6.finK y K = K (pyxref1_CmpNat.l6.fin y) := by
  unfold pyxref1_CmpNat.l6.finK pyxref1_CmpNat.l6.fin
  first | rfl | (split <;> rfl)
noncomputable def pyxref1_CmpNat.l6.re : Out U → Option (Unit ⊕ Int) | .exit 0 s => (some (.inl ())) | .ret v => (match v with | .flat (.int .i64 x1) => some (.inr x1) | _ => none) | _ => none
noncomputable def pyxref1_CmpNat.l6.L (k : Nat) : LDen U := { X := (List Int × List Int × Int), Y := Unit ⊕ Int, un := pyxref1_CmpNat.l6.un, f := iter (pyxref1_CmpNat.l6.once k) k, fin := pyxref1_CmpNat.l6.fin, finK := pyxref1_CmpNat.l6.finK, finK_eq := pyxref1_CmpNat.l6.finK_eq }
noncomputable def pyxref1_CmpNat.jl : List (Nat × JDen U) := []
noncomputable def pyxref1_CmpNat.fl (k : Nat) : List (Nat × FDen U) := []
noncomputable def pyxref1_CmpNat.ll (k : Nat) : List (Nat × LDen U) := [(6, pyxref1_CmpNat.l6.L k)]
noncomputable def pyxref1_CmpNat.E (k : Nat) : Env U := { P := Try.prog, D := DD, fd := lk (pyxref1_CmpNat.fl k), ld := lk (pyxref1_CmpNat.ll k), jd := lk pyxref1_CmpNat.jl, mode := lk [], elc := lk ec, dyn := fun t => false, vecs := fun d => false, results := Try.f33.results.toList }
theorem pyxref1_CmpNat.ok (k : Nat) : EnvOk (pyxref1_CmpNat.E k) := envOk lawful (pyxref1_CmpNat.fl k) (pyxref1_CmpNat.ll k) pyxref1_CmpNat.jl _ _ _ _ _ (by
  intro p hp
  simp [pyxref1_CmpNat.fl] at hp) (by
  intro p hp
  simp [pyxref1_CmpNat.jl] at hp)
theorem pyxref1_CmpNat.l6.eq (k : Nat) (x : (List Int × List Int × Int)) : evC (pyxref1_CmpNat.E k) (loopAt Try.f33 6) (pyxref1_CmpNat.l6.mk x) (headK pyxref1_CmpNat.l6.un pyxref1_CmpNat.l6.re) = pyxref1_CmpNat.l6.once k x := by kernel_rfl
theorem pyxref1_CmpNat.l6.fit (s : St U) (x : (List Int × List Int × Int)) (h : pyxref1_CmpNat.l6.un s = some x) : Fits s (pyxref1_CmpNat.l6.mk x) := by
  unfold pyxref1_CmpNat.l6.un at h
  obtain ⟨q0, eq0, h1⟩ := Option.bind_eq_some_iff.1 h
  obtain ⟨q1, eq1, h2⟩ := Option.bind_eq_some_iff.1 h1
  split at h2
  · cases h2
    refine fits_ren [] ?_ ?_ ren_nil rfl
    · exact List.forall_mem_cons.2 ⟨row_i64_fit eq0, List.forall_mem_cons.2 ⟨row_i64_fit eq1, List.forall_mem_cons.2 ⟨FV.same (by assumption) (fun _ _ _ hh => by cases hh) (fun _ hh => by cases hh), fun _ hp => (List.not_mem_nil hp).elim⟩⟩⟩
    · exact fun _ hp => (List.not_mem_nil hp).elim
  · cases h2
theorem pyxref1_CmpNat.l6.fitO (o : Out U) (y : Unit ⊕ Int) (h : pyxref1_CmpNat.l6.re o = some y) : FitsO o (pyxref1_CmpNat.l6.fin y) := by
  unfold pyxref1_CmpNat.l6.re at h
  split at h
  · cases h
    refine fitsO_exit (fits_ren [] ?_ ?_ ren_nil rfl)
    · exact fun _ hp => (List.not_mem_nil hp).elim
    · exact fun _ hp => (List.not_mem_nil hp).elim
  · split at h
    · cases h; exact fitsO_ret
    · cases h
  · cases h
theorem pyxref1_CmpNat.l6.sound (k : Nat) : LSound (pyxref1_CmpNat.E k) Try.f33.ntmps Try.f33 (loopAt Try.f33 6) (pyxref1_CmpNat.l6.L k) :=
  loop_sound (pyxref1_CmpNat.ok k) mixed rfl (by kernel_rfl) (allL_of (l := []) (by kernel_rfl) allL_nil) pyxref1_CmpNat.l6.un pyxref1_CmpNat.l6.mk pyxref1_CmpNat.l6.fin pyxref1_CmpNat.l6.re (pyxref1_CmpNat.l6.once k) k pyxref1_CmpNat.l6.fit pyxref1_CmpNat.l6.fitO (pyxref1_CmpNat.l6.eq k) pyxref1_CmpNat.l6.finK pyxref1_CmpNat.l6.finK_eq
theorem pyxref1_CmpNat.eq (k : Nat) (x : (List Int × List Int)) : runF (pyxref1_CmpNat.E k) (codeOf Try.f33) (pyxref1_CmpNat.mk x) pyxref1_CmpNat.re = (pyxref1_CmpNat.D k).f x := by kernel_rfl
theorem pyxref1_CmpNat.sound (k : Nat) : Sound Try.prog DD 33 (pyxref1_CmpNat.D k) :=
  fun_sound (E := pyxref1_CmpNat.E k) (fn := Try.f33) (c := codeOf Try.f33) (pyxref1_CmpNat.ok k) mixed rfl Try.func33 (by kernel_rfl) (by kernel_rfl) (allL_of (l := [loopAt Try.f33 6]) (by kernel_rfl) (allL_cons (key := 6) (by kernel_rfl) rfl (pyxref1_CmpNat.l6.sound k) allL_nil)) (pyxref1_CmpNat.D k) pyxref1_CmpNat.mk pyxref1_CmpNat.re
    (by intro args x h; replace h : pyxref1_CmpNat.un args = some x := h; unfold pyxref1_CmpNat.un at h; split at h; · cases h; rfl
        · cases h)
    (by intro v y h; unfold pyxref1_CmpNat.re at h; split at h; · cases h; rfl
        · cases h)
    (fun _ => rfl) (fun x => Nat.le_of_ble_eq_true (by kernel_rfl)) (pyxref1_CmpNat.eq k)
/-! ### pyx/pyxref1.SubNat: function 72 -/
noncomputable def pyxref1_SubNat.l4.once (k : Nat) (x : (List Int × List Int × List Int × Int × Int)) : Option ((List Int × List Int × List Int × Int × Int) ⊕ (List Int)) := match x with | (x1, x2, x3, x4, x5) => cond (decide (x5 < (List.length x1 : Int))) (((cond (inb x5 (List.length x1)) ((pyxref1_digit.f k x2 x5).bind fun t6 => (((cond (decide ((IntKind.wrap .i64 ((IntKind.wrap .i64 ((List.getD x1 (Int.toNat x5) 0) - t6)) - x4)) < 0)) (some (x1, x2, x3, 1, x5, IntKind.wrap .i64 ((IntKind.wrap .i64 ((IntKind.wrap .i64 ((List.getD x1 (Int.toNat x5) 0) - t6)) - x4)) + 10))) (some (x1, x2, x3, 0, x5, IntKind.wrap .i64 ((IntKind.wrap .i64 ((List.getD x1 (Int.toNat x5) 0) - t6)) - x4)))) : Option (List Int × List Int × List Int × Int × Int × Int)).bind fun y13 => (cond (okLen (List.length y13.2.2.1 + List.length [y13.2.2.2.2.2]) 8) (some (y13.1, y13.2.1, y13.2.2.1 ++ [y13.2.2.2.2.2], y13.2.2.2.1, y13.2.2.2.2.1)) none))) none) : Option (List Int × List Int × List Int × Int × Int)).bind fun y19 => (some (.inl (y19.1, y19.2.1, y19.2.2.1, y19.2.2.2.1, IntKind.wrap .i64 (y19.2.2.2.2 + 1))))) (some (.inr x3))
noncomputable def pyxref1_SubNat.f (k : Nat) (a0 : List Int) (a1 : List Int) : Option (List Int) := (iter (pyxref1_SubNat.l4.once k) k (a0, a1, ([] : List Int), 0, 0)).bind fun y21 => ((pyxref1_trim.f k y21).bind fun t22 => (some t22))
noncomputable def pyxref1_SubNat.un : List (AV U) → Option (List Int × List Int) | [.row C.i64 x1, .row C.i64 x2] => some (x1, x2) | _ => none
noncomputable def pyxref1_SubNat.mk (x : (List Int × List Int)) : List (AV U) := [.row C.i64 x.1, .row C.i64 x.2]
noncomputable def pyxref1_SubNat.D (k : Nat) : FDen U := { X := (List Int × List Int), Y := List Int, un := pyxref1_SubNat.un, f := fun x => pyxref1_SubNat.f k (x.1) (x.2), fin := fun y => .row C.i64 y }
noncomputable def pyxref1_SubNat.re : AV U → Option (List Int) | .row C.i64 x1 => some x1 | _ => none
noncomputable def pyxref1_SubNat.l4.mk (x : (List Int × List Int × List Int × Int × Int)) : St U := match x with | (x1, x2, x3, x4, x5) => ⟨[(0, .row C.i64 x1), (1, .row C.i64 x2), (5, .tip 1004005 C.i64 x3), (6, .flat (.int .i64 x4)), (7, .flat (.int .i64 x5))], [(1004005, .tip 1)]⟩
noncomputable def pyxref1_SubNat.l4.un (s : St U) : Option (List Int × List Int × List Int × Int × Int) := (row_i64 (s.get 0)).bind fun q0 => ((row_i64 (s.get 1)).bind fun q1 => ((tip_i64 s.o 1 (s.get 5)).bind fun q2 => (match s.get 6, s.get 7 with | .flat (.int .i64 x4), .flat (.int .i64 x5) => some (q0, q1, q2.2, x4, x5) | _, _ => none)))
noncomputable def pyxref1_SubNat.l4.fin (y : List Int) : Out U := match y with | x20 => .exit 0 ⟨[(5, .tip 1004005 C.i64 x20)], [(1004005, .tip 1)]⟩
noncomputable def pyxref1_SubNat.l4.finK {ρ : Type} (y : List Int) (K : Out U → Option ρ) : Option ρ := match y with | x20 => K (.exit 0 ⟨[(5, .tip 1004005 C.i64 x20)], [(1004005, .tip 1)]⟩)
theorem pyxref1_SubNat.l4.finK_eq {ρ : Type} (y : List Int) (K : Out U → Option ρ) : pyxref1_SubNat.l4.finK y K = K (pyxref1_SubNat.l4.fin y) := by
  unfold pyxref1_SubNat.l4.finK pyxref1_SubNat.l4.fin
  first | rfl | (split <;> rfl)
noncomputable def pyxref1_SubNat.l4.re : Out U → Option (List Int) | .exit 0 s => ((tip_i64 s.o 1 (s.get 5)).bind fun q0 => (some q0.2)) | _ => none
noncomputable def pyxref1_SubNat.l4.L (k : Nat) : LDen U := { X := (List Int × List Int × List Int × Int × Int), Y := List Int, un := pyxref1_SubNat.l4.un, f := iter (pyxref1_SubNat.l4.once k) k, fin := pyxref1_SubNat.l4.fin, finK := pyxref1_SubNat.l4.finK, finK_eq := pyxref1_SubNat.l4.finK_eq }
noncomputable def pyxref1_SubNat.j9001.fin (y : (List Int × List Int × List Int × Int × Int × Int)) : Out U := match y with | (x7, x8, x9, x10, x11, x12) => .norm ⟨[(0, .row C.i64 x7), (1, .row C.i64 x8), (5, .tip 1010001005 C.i64 x9), (6, .flat (.int .i64 x10)), (7, .flat (.int .i64 x11)), (8, .flat (.int .i64 x12))], [(1010001005, .tip 1)]⟩
noncomputable def pyxref1_SubNat.j9001.finK {ρ : Type} (y : (List Int × List Int × List Int × Int × Int × Int)) (K : Out U → Option ρ) : Option ρ := match y with | (x7, x8, x9, x10, x11, x12) => K (.norm ⟨[(0, .row C.i64 x7), (1, .row C.i64 x8), (5, .tip 1010001005 C.i64 x9), (6, .flat (.int .i64 x10)), (7, .flat (.int .i64 x11)), (8, .flat (.int .i64 x12))], [(1010001005, .tip 1)]⟩)
theorem pyxref1_SubNat.j9001.finK_eq {ρ : Type} (y : (List Int × List Int × List Int × Int × Int × Int)) (K : Out U → Option ρ) : pyxref1_SubNat.j9001.finK y K = K (pyxref1_SubNat.j9001.fin y) := by
  unfold pyxref1_SubNat.j9001.finK pyxref1_SubNat.j9001.fin
  first | rfl | (split <;> rfl)
noncomputable def pyxref1_SubNat.j9001.re : Out U → Option ((List Int × List Int × List Int × Int × Int × Int)) | .norm s => ((row_i64 (s.get 0)).bind fun q0 => ((row_i64 (s.get 1)).bind fun q1 => ((tip_i64 s.o 1 (s.get 5)).bind fun q2 => (match s.get 6, s.get 7, s.get 8 with | .flat (.int .i64 x10), .flat (.int .i64 x11), .flat (.int .i64 x12) => some (q0, q1, q2.2, x10, x11, x12) | _, _, _ => none)))) | _ => none
noncomputable def pyxref1_SubNat.j9001.J : JDen U := { Y := (List Int × List Int × List Int × Int × Int × Int), re := pyxref1_SubNat.j9001.re, fin := pyxref1_SubNat.j9001.fin, finK := pyxref1_SubNat.j9001.finK, finK_eq := pyxref1_SubNat.j9001.finK_eq }
theorem pyxref1_SubNat.j9001.fit (o : Out U) (y : (List Int × List Int × List Int × Int × Int × Int)) (h : pyxref1_SubNat.j9001.re o = some y) : FitsO o (pyxref1_SubNat.j9001.fin y) := by
  unfold pyxref1_SubNat.j9001.re at h
  split at h
  · obtain ⟨q0, eq0, h1⟩ := Option.bind_eq_some_iff.1 h
    obtain ⟨q1, eq1, h2⟩ := Option.bind_eq_some_iff.1 h1
    obtain ⟨q2, eq2, h3⟩ := Option.bind_eq_some_iff.1 h2
    split at h3
    · cases h3
      refine fitsO_norm (fits_ren [(1010001005, q2.1)] ?_ ?_ ren_one rfl)
      · exact List.forall_mem_cons.2 ⟨row_i64_fit eq0, List.forall_mem_cons.2 ⟨row_i64_fit eq1, List.forall_mem_cons.2 ⟨(tip_i64_fit eq2 rfl).1, List.forall_mem_cons.2 ⟨FV.same (by assumption) (fun _ _ _ hh => by cases hh) (fun _ hh => by cases hh), List.forall_mem_cons.2 ⟨FV.same (by assumption) (fun _ _ _ hh => by cases hh) (fun _ hh => by cases hh), List.forall_mem_cons.2 ⟨FV.same (by assumption) (fun _ _ _ hh => by cases hh) (fun _ hh => by cases hh), fun _ hp => (List.not_mem_nil hp).elim⟩⟩⟩⟩⟩⟩
      · exact List.forall_mem_cons.2 ⟨(tip_i64_fit eq2 rfl).2, fun _ hp => (List.not_mem_nil hp).elim⟩
    · cases h3
  · cases h
noncomputable def pyxref1_SubNat.j6001.fin (y : (List Int × List Int × List Int × Int × Int)) : Out U := match y with | (x14, x15, x16, x17, x18) => .norm ⟨[(0, .row C.i64 x14), (1, .row C.i64 x15), (5, .tip 1007001005 C.i64 x16), (6, .flat (.int .i64 x17)), (7, .flat (.int .i64 x18))], [(1007001005, .tip 1)]⟩
noncomputable def pyxref1_SubNat.j6001.finK {ρ : Type} (y : (List Int × List Int × List Int × Int × Int)) (K : Out U → Option ρ) : Option ρ := match y with | (x14, x15, x16, x17, x18) => K (.norm ⟨[(0, .row C.i64 x14), (1, .row C.i64 x15), (5, .tip 1007001005 C.i64 x16), (6, .flat (.int .i64 x17)), (7, .flat (.int .i64 x18))], [(1007001005, .tip 1)]⟩)
theorem pyxref1_SubNat.j6001.finK_eq {ρ : Type} (y : (List Int × List Int × List Int × Int × Int)) (K : Out U → Option ρ) : pyxref1_SubNat.j6001.finK y K = K (pyxref1_SubNat.j6001.fin y) := by
  unfold pyxref1_SubNat.j6001.finK pyxref1_SubNat.j6001.fin
  first | rfl | (split <;> rfl)
noncomputable def pyxref1_SubNat.j6001.re : Out U → Option ((List Int × List Int × List Int × Int × Int)) | .norm s => ((row_i64 (s.get 0)).bind fun q0 => ((row_i64 (s.get 1)).bind fun q1 => ((tip_i64 s.o 1 (s.get 5)).bind fun q2 => (match s.get 6, s.get 7 with | .flat (.int .i64 x17), .flat (.int .i64 x18) => some (q0, q1, q2.2, x17, x18) | _, _ => none)))) | _ => none
noncomputable def pyxref1_SubNat.j6001.J : JDen U := { Y := (List Int × List Int × List Int × Int × Int), re := pyxref1_SubNat.j6001.re, fin := pyxref1_SubNat.j6001.fin, finK := pyxref1_SubNat.j6001.finK, finK_eq := pyxref1_SubNat.j6001.finK_eq }
theorem pyxref1_SubNat.j6001.fit (o : Out U) (y : (List Int × List Int × List Int × Int × Int)) (h : pyxref1_SubNat.j6001.re o = some y) : FitsO o (pyxref1_SubNat.j6001.fin y) := by
  unfold pyxref1_SubNat.j6001.re at h
  split at h
  · obtain ⟨q0, eq0, h1⟩ := Option.bind_eq_some_iff.1 h
    obtain ⟨q1, eq1, h2⟩ := Option.bind_eq_some_iff.1 h1
    obtain ⟨q2, eq2, h3⟩ := Option.bind_eq_some_iff.1 h2
    split at h3
    · cases h3
      refine fitsO_norm (fits_ren [(1007001005, q2.1)] ?_ ?_ ren_one rfl)
      · exact List.forall_mem_cons.2 ⟨row_i64_fit eq0, List.forall_mem_cons.2 ⟨row_i64_fit eq1, List.forall_mem_cons.2 ⟨(tip_i64_fit eq2 rfl).1, List.forall_mem_cons.2 ⟨FV.same (by assumption) (fun _ _ _ hh => by cases hh) (fun _ hh => by cases hh), List.forall_mem_cons.2 ⟨FV.same (by assumption) (fun _ _ _ hh => by cases hh) (fun _ hh => by cases hh), fun _ hp => (List.not_mem_nil hp).elim⟩⟩⟩⟩⟩
      · exact List.forall_mem_cons.2 ⟨(tip_i64_fit eq2 rfl).2, fun _ hp => (List.not_mem_nil hp).elim⟩
    · cases h3
  · cases h
noncomputable def pyxref1_SubNat.jl : List (Nat × JDen U) := [(9001, pyxref1_SubNat.j9001.J), (6001, pyxref1_SubNat.j6001.J)]
noncomputable def pyxref1_SubNat.fl (k : Nat) : List (Nat × FDen U) := [(70, pyxref1_digit.D k), (71, pyxref1_trim.D k)]
noncomputable def pyxref1_SubNat.ll (k : Nat) : List (Nat × LDen U) := [(4, pyxref1_SubNat.l4.L k)]
noncomputable def pyxref1_SubNat.E (k : Nat) : Env U := { P := Try.prog, D := DD, fd := lk (pyxref1_SubNat.fl k), ld := lk (pyxref1_SubNat.ll k), jd := lk pyxref1_SubNat.jl, mode := lk [], elc := lk ec, dyn := fun t => false, vecs := fun d => false, results := Try.f72.results.toList }
theorem pyxref1_SubNat.ok (k : Nat) : EnvOk (pyxref1_SubNat.E k) := envOk lawful (pyxref1_SubNat.fl k) (pyxref1_SubNat.ll k) pyxref1_SubNat.jl _ _ _ _ _ (by
  intro p hp
  simp only [pyxref1_SubNat.fl, List.mem_cons, List.not_mem_nil, or_false] at hp
  rcases hp with rfl | rfl
  · exact ⟨pyxref1_digit.sound k, enter_of Try.func70 (by kernel_rfl) (by kernel_rfl)⟩
  · exact ⟨pyxref1_trim.sound k, enter_of Try.func71 (by kernel_rfl) (by kernel_rfl)⟩) (by
  intro p hp
  simp only [pyxref1_SubNat.jl, List.mem_cons, List.not_mem_nil, or_false] at hp
  rcases hp with rfl | rfl
  · exact pyxref1_SubNat.j9001.fit
  · exact pyxref1_SubNat.j6001.fit)
theorem pyxref1_SubNat.l4.eq (k : Nat) (x : (List Int × List Int × List Int × Int × Int)) : evC (pyxref1_SubNat.E k) (loopAt Try.f72 4) (pyxref1_SubNat.l4.mk x) (headK pyxref1_SubNat.l4.un pyxref1_SubNat.l4.re) = pyxref1_SubNat.l4.once k x := by kernel_rfl
theorem pyxref1_SubNat.l4.fit (s : St U) (x : (List Int × List Int × List Int × Int × Int)) (h : pyxref1_SubNat.l4.un s = some x) : Fits s (pyxref1_SubNat.l4.mk x) := by
  unfold pyxref1_SubNat.l4.un at h
  obtain ⟨q0, eq0, h1⟩ := Option.bind_eq_some_iff.1 h
  obtain ⟨q1, eq1, h2⟩ := Option.bind_eq_some_iff.1 h1
  obtain ⟨q2, eq2, h3⟩ := Option.bind_eq_some_iff.1 h2
  split at h3
  · cases h3
    refine fits_ren [(1004005, q2.1)] ?_ ?_ ren_one rfl
    · exact List.forall_mem_cons.2 ⟨row_i64_fit eq0, List.forall_mem_cons.2 ⟨row_i64_fit eq1, List.forall_mem_cons.2 ⟨(tip_i64_fit eq2 rfl).1, List.forall_mem_cons.2 ⟨FV.same (by assumption) (fun _ _ _ hh => by cases hh) (fun _ hh => by cases hh), List.forall_mem_cons.2 ⟨FV.same (by assumption) (fun _ _ _ hh => by cases hh) (fun _ hh => by cases hh), fun _ hp => (List.not_mem_nil hp).elim⟩⟩⟩⟩⟩
    · exact List.forall_mem_cons.2 ⟨(tip_i64_fit eq2 rfl).2, fun _ hp => (List.not_mem_nil hp).elim⟩
  · cases h3
theorem pyxref1_SubNat.l4.fitO (o : Out U) (y : List Int) (h : pyxref1_SubNat.l4.re o = some y) : FitsO o (pyxref1_SubNat.l4.fin y) := by
  unfold pyxref1_SubNat.l4.re at h
  split at h
  · obtain ⟨q0, eq0, h1⟩ := Option.bind_eq_some_iff.1 h
    cases h1
    refine fitsO_exit (fits_ren [(1004005, q0.1)] ?_ ?_ ren_one rfl)
    · exact List.forall_mem_cons.2 ⟨(tip_i64_fit eq0 rfl).1, fun _ hp => (List.not_mem_nil hp).elim⟩
    · exact List.forall_mem_cons.2 ⟨(tip_i64_fit eq0 rfl).2, fun _ hp => (List.not_mem_nil hp).elim⟩
  · cases h
theorem pyxref1_SubNat.l4.sound (k : Nat) : LSound (pyxref1_SubNat.E k) Try.f72.ntmps Try.f72 (loopAt Try.f72 4) (pyxref1_SubNat.l4.L k) :=
  loop_sound (pyxref1_SubNat.ok k) mixed rfl (by kernel_rfl) (allL_of (l := []) (by kernel_rfl) allL_nil) pyxref1_SubNat.l4.un pyxref1_SubNat.l4.mk pyxref1_SubNat.l4.fin pyxref1_SubNat.l4.re (pyxref1_SubNat.l4.once k) k pyxref1_SubNat.l4.fit pyxref1_SubNat.l4.fitO (pyxref1_SubNat.l4.eq k) pyxref1_SubNat.l4.finK pyxref1_SubNat.l4.finK_eq
theorem pyxref1_SubNat.eq (k : Nat) (x : (List Int × List Int)) : runF (pyxref1_SubNat.E k) (codeOf Try.f72) (pyxref1_SubNat.mk x) pyxref1_SubNat.re = (pyxref1_SubNat.D k).f x := by kernel_rfl
theorem pyxref1_SubNat.sound (k : Nat) : Sound Try.prog DD 72 (pyxref1_SubNat.D k) :=
  fun_sound (E := pyxref1_SubNat.E k) (fn := Try.f72) (c := codeOf Try.f72) (pyxref1_SubNat.ok k) mixed rfl Try.func72 (by kernel_rfl) (by kernel_rfl) (allL_of (l := [loopAt Try.f72 4]) (by kernel_rfl) (allL_cons (key := 4) (by kernel_rfl) rfl (pyxref1_SubNat.l4.sound k) allL_nil)) (pyxref1_SubNat.D k) pyxref1_SubNat.mk pyxref1_SubNat.re
    (by intro args x h; replace h : pyxref1_SubNat.un args = some x := h; unfold pyxref1_SubNat.un at h; split at h; · cases h; rfl
        · cases h)
    (by intro v y h; unfold pyxref1_SubNat.re at h; split at h; · cases h; rfl
        · cases h)
    (fun _ => rfl) (fun x => Nat.le_of_ble_eq_true (by kernel_rfl)) (pyxref1_SubNat.eq k)
/-! ### pyx/pyxref1.DivNat: function 36 -/
noncomputable def pyxref1_DivNat.l7.once (k : Nat) (x : (List Int × List Int × List Int × Int × List Int)) : Option ((List Int × List Int × List Int × Int × List Int) ⊕ ((List Int × List Int × List Int × Int × List Int))) := match x with | (x7, x8, x10, x11, x9) => (pyxref1_CmpNat.f k x10 x8).bind fun t12 => (cond (decide (t12 ≥ 0)) ((pyxref1_SubNat.f k x10 x8).bind fun t13 => (cond (inb x11 (List.length x9)) (cond (Nat.blt (Int.toNat x11) (List.length x9)) (cond (inb x11 (List.length x9)) (cond (Nat.blt (Int.toNat x11) (List.length x9)) (some (.inl (x7, x8, t13, x11, List.set x9 (Int.toNat x11) (IntKind.wrap .i64 ((List.getD x9 (Int.toNat x11) 0) + 1))))) none) none) none) none)) (some (.inr (x7, x8, x10, x11, x9))))
noncomputable def pyxref1_DivNat.l4.once (k : Nat) (x : (List Int × List Int × List Int × Int × List Int)) : Option ((List Int × List Int × List Int × Int × List Int) ⊕ ((List Int × List Int))) := match x with | (x1, x2, x4, x5, x3) => cond (decide (x5 ≥ 0)) (cond (inb x5 (List.length x1)) (cond (okLen (List.length [List.getD x1 (Int.toNat x5) 0] + List.length x4) 8) ((pyxref1_trim.f k ([List.getD x1 (Int.toNat x5) 0] ++ x4)).bind fun t6 => ((iter (pyxref1_DivNat.l7.once k) k (x1, x2, t6, x5, x3)).bind fun y19 => (some (.inl (y19.1, y19.2.1, y19.2.2.1, IntKind.wrap .i64 (y19.2.2.2.1 - 1), y19.2.2.2.2))))) none) none) (some (.inr (x4, x3)))
noncomputable def pyxref1_DivNat.f (k : Nat) (a0 : List Int) (a1 : List Int) : Option (List Int × List Int) := cond ((decide (0 ≤ (List.length a0 : Int)) && decide ((List.length a0 : Int) = (List.length a0 : Int))) && decide ((List.length a0 : Int) * 8 ≤ 140737488355328)) ((iter (pyxref1_DivNat.l4.once k) k (a0, a1, ([] : List Int), IntKind.wrap .i64 ((List.length a0 : Int) - 1), List.replicate (Int.toNat (List.length a0 : Int)) (0 : Int))).bind fun y22 => ((pyxref1_trim.f k y22.2).bind fun t23 => (some (t23, y22.1)))) none
noncomputable def pyxref1_DivNat.un : List (AV U) → Option (List Int × List Int) | [.row C.i64 x1, .row C.i64 x2] => some (x1, x2) | _ => none
noncomputable def pyxref1_DivNat.mk (x : (List Int × List Int)) : List (AV U) := [.row C.i64 x.1, .row C.i64 x.2]
noncomputable def pyxref1_DivNat.D (k : Nat) : FDen U := { X := (List Int × List Int), Y := (List Int × List Int), un := pyxref1_DivNat.un, f := fun x => pyxref1_DivNat.f k (x.1) (x.2), fin := fun y => .tup [.row C.i64 y.1, .row C.i64 y.2] }
noncomputable def pyxref1_DivNat.re : AV U → Option (List Int × List Int) | .tup [.row C.i64 x1, .row C.i64 x2] => some (x1, x2) | _ => none
noncomputable def pyxref1_DivNat.l7.mk (x : (List Int × List Int × List Int × Int × List Int)) : St U := match x with | (x7, x8, x10, x11, x9) => ⟨[(0, .row C.i64 x7), (1, .row C.i64 x8), (6, .vs 1007006), (7, .row C.i64 x10), (8, .flat (.int .i64 x11))], [(1007006, .vec C.i64 x9)]⟩
noncomputable def pyxref1_DivNat.l7.un (s : St U) : Option (List Int × List Int × List Int × Int × List Int) := (row_i64 (s.get 0)).bind fun q0 => ((row_i64 (s.get 1)).bind fun q1 => ((vec_i64 s.o (s.get 6)).bind fun q2 => ((row_i64 (s.get 7)).bind fun q3 => (match s.get 8 with | .flat (.int .i64 x11) => some (q0, q1, q3, x11, q2.2) | _ => none))))
noncomputable def pyxref1_DivNat.l7.fin (y : (List Int × List Int × List Int × Int × List Int)) : Out U := match y with | (x14, x15, x17, x18, x16) => .exit 2 ⟨[(0, .row C.i64 x14), (1, .row C.i64 x15), (6, .vs 1007006), (7, .row C.i64 x17), (8, .flat (.int .i64 x18))], [(1007006, .vec C.i64 x16)]⟩
noncomputable def pyxref1_DivNat.l7.finK {ρ : Type} (y : (List Int × List Int × List Int × Int × List Int)) (K : Out U → Option ρ) : Option ρ := match y with | (x14, x15, x17, x18, x16) => K (.exit 2 ⟨[(0, .row C.i64 x14), (1, .row C.i64 x15), (6, .vs 1007006), (7, .row C.i64 x17), (8, .flat (.int .i64 x18))], [(1007006, .vec C.i64 x16)]⟩)
theorem pyxref1_DivNat.l7.finK_eq {ρ : Type} (y : (List Int × List Int × List Int × Int × List Int)) (K : Out U → Option ρ) : pyxref1_DivNat.l7.finK y K = K (pyxref1_DivNat.l7.fin y) := by
  unfold pyxref1_DivNat.l7.finK pyxref1_DivNat.l7.fin
  first | rfl | (split <;> rfl)
noncomputable def pyxref1_DivNat.l7.re : Out U → Option ((List Int × List Int × List Int × Int × List Int)) | .exit 2 s => ((row_i64 (s.get 0)).bind fun q0 => ((row_i64 (s.get 1)).bind fun q1 => ((vec_i64 s.o (s.get 6)).bind fun q2 => ((row_i64 (s.get 7)).bind fun q3 => (match s.get 8 with | .flat (.int .i64 x18) => some (q0, q1, q3, x18, q2.2) | _ => none))))) | _ => none
noncomputable def pyxref1_DivNat.l7.L (k : Nat) : LDen U := { X := (List Int × List Int × List Int × Int × List Int), Y := (List Int × List Int × List Int × Int × List Int), un := pyxref1_DivNat.l7.un, f := iter (pyxref1_DivNat.l7.once k) k, fin := pyxref1_DivNat.l7.fin, finK := pyxref1_DivNat.l7.finK, finK_eq := pyxref1_DivNat.l7.finK_eq }
noncomputable def pyxref1_DivNat.l4.mk (x : (List Int × List Int × List Int × Int × List Int)) : St U := match x with | (x1, x2, x4, x5, x3) => ⟨[(0, .row C.i64 x1), (1, .row C.i64 x2), (6, .vs 1004006), (7, .row C.i64 x4), (8, .flat (.int .i64 x5))], [(1004006, .vec C.i64 x3)]⟩
noncomputable def pyxref1_DivNat.l4.un (s : St U) : Option (List Int × List Int × List Int × Int × List Int) := (row_i64 (s.get 0)).bind fun q0 => ((row_i64 (s.get 1)).bind fun q1 => ((vec_i64 s.o (s.get 6)).bind fun q2 => ((row_i64 (s.get 7)).bind fun q3 => (match s.get 8 with | .flat (.int .i64 x5) => some (q0, q1, q3, x5, q2.2) | _ => none))))
noncomputable def pyxref1_DivNat.l4.fin (y : (List Int × List Int)) : Out U := match y with | (x21, x20) => .exit 0 ⟨[(6, .vs 1004006), (7, .row C.i64 x21)], [(1004006, .vec C.i64 x20)]⟩
noncomputable def pyxref1_DivNat.l4.finK {ρ : Type} (y : (List Int × List Int)) (K : Out U → Option ρ) : Option ρ := match y with | (x21, x20) => K (.exit 0 ⟨[(6, .vs 1004006), (7, .row C.i64 x21)], [(1004006, .vec C.i64 x20)]⟩)
theorem pyxref1_DivNat.l4.finK_eq {ρ : Type} (y : (List Int × List Int)) (K : Out U → Option ρ) : pyxref1_DivNat.l4.finK y K = K (pyxref1_DivNat.l4.fin y) := by
  unfold pyxref1_DivNat.l4.finK pyxref1_DivNat.l4.fin
  first | rfl | (split <;> rfl)
noncomputable def pyxref1_DivNat.l4.re : Out U → Option ((List Int × List Int)) | .exit 0 s => ((vec_i64 s.o (s.get 6)).bind fun q0 => ((row_i64 (s.get 7)).bind fun q1 => (some (q1, q0.2)))) | _ => none
noncomputable def pyxref1_DivNat.l4.L (k : Nat) : LDen U := { X := (List Int × List Int × List Int × Int × List Int), Y := (List Int × List Int), un := pyxref1_DivNat.l4.un, f := iter (pyxref1_DivNat.l4.once k) k, fin := pyxref1_DivNat.l4.fin, finK := pyxref1_DivNat.l4.finK, finK_eq := pyxref1_DivNat.l4.finK_eq }
noncomputable def pyxref1_DivNat.jl : List (Nat × JDen U) := []
noncomputable def pyxref1_DivNat.fl (k : Nat) : List (Nat × FDen U) := [(71, pyxref1_trim.D k), (33, pyxref1_CmpNat.D k), (72, pyxref1_SubNat.D k)]
noncomputable def pyxref1_DivNat.ll (k : Nat) : List (Nat × LDen U) := [(7, pyxref1_DivNat.l7.L k), (4, pyxref1_DivNat.l4.L k)]
noncomputable def pyxref1_DivNat.E (k : Nat) : Env U := { P := Try.prog, D := DD, fd := lk (pyxref1_DivNat.fl k), ld := lk (pyxref1_DivNat.ll k), jd := lk pyxref1_DivNat.jl, mode := lk [], elc := lk ec, dyn := fun t => false, vecs := fun d => Nat.beq d 11, results := Try.f36.results.toList }
theorem pyxref1_DivNat.ok (k : Nat) : EnvOk (pyxref1_DivNat.E k) := envOk lawful (pyxref1_DivNat.fl k) (pyxref1_DivNat.ll k) pyxref1_DivNat.jl _ _ _ _ _ (by
  intro p hp
  simp only [pyxref1_DivNat.fl, List.mem_cons, List.not_mem_nil, or_false] at hp
  rcases hp with rfl | rfl | rfl
  · exact ⟨pyxref1_trim.sound k, enter_of Try.func71 (by kernel_rfl) (by kernel_rfl)⟩
  · exact ⟨pyxref1_CmpNat.sound k, enter_of Try.func33 (by kernel_rfl) (by kernel_rfl)⟩
  · exact ⟨pyxref1_SubNat.sound k, enter_of Try.func72 (by kernel_rfl) (by kernel_rfl)⟩) (by
  intro p hp
  simp [pyxref1_DivNat.jl] at hp)
theorem pyxref1_DivNat.l7.eq (k : Nat) (x : (List Int × List Int × List Int × Int × List Int)) : evC (pyxref1_DivNat.E k) (loopAt Try.f36 7) (pyxref1_DivNat.l7.mk x) (headK pyxref1_DivNat.l7.un pyxref1_DivNat.l7.re) = pyxref1_DivNat.l7.once k x := by kernel_rfl
theorem pyxref1_DivNat.l7.fit (s : St U) (x : (List Int × List Int × List Int × Int × List Int)) (h : pyxref1_DivNat.l7.un s = some x) : Fits s (pyxref1_DivNat.l7.mk x) := by
  unfold pyxref1_DivNat.l7.un at h
  obtain ⟨q0, eq0, h1⟩ := Option.bind_eq_some_iff.1 h
  obtain ⟨q1, eq1, h2⟩ := Option.bind_eq_some_iff.1 h1
  obtain ⟨q2, eq2, h3⟩ := Option.bind_eq_some_iff.1 h2
  obtain ⟨q3, eq3, h4⟩ := Option.bind_eq_some_iff.1 h3
  split at h4
  · cases h4
    refine fits_ren [(1007006, q2.1)] ?_ ?_ ren_one rfl
    · exact List.forall_mem_cons.2 ⟨row_i64_fit eq0, List.forall_mem_cons.2 ⟨row_i64_fit eq1, List.forall_mem_cons.2 ⟨(vec_i64_fit eq2 rfl).1, List.forall_mem_cons.2 ⟨row_i64_fit eq3, List.forall_mem_cons.2 ⟨FV.same (by assumption) (fun _ _ _ hh => by cases hh) (fun _ hh => by cases hh), fun _ hp => (List.not_mem_nil hp).elim⟩⟩⟩⟩⟩
    · exact List.forall_mem_cons.2 ⟨(vec_i64_fit eq2 rfl).2, fun _ hp => (List.not_mem_nil hp).elim⟩
  · cases h4
theorem pyxref1_DivNat.l7.fitO (o : Out U) (y : (List Int × List Int × List Int × Int × List Int)) (h : pyxref1_DivNat.l7.re o = some y) : FitsO o (pyxref1_DivNat.l7.fin y) := by
  unfold pyxref1_DivNat.l7.re at h
  split at h
  · obtain ⟨q0, eq0, h1⟩ := Option.bind_eq_some_iff.1 h
    obtain ⟨q1, eq1, h2⟩ := Option.bind_eq_some_iff.1 h1
    obtain ⟨q2, eq2, h3⟩ := Option.bind_eq_some_iff.1 h2
    obtain ⟨q3, eq3, h4⟩ := Option.bind_eq_some_iff.1 h3
    split at h4
    · cases h4
      refine fitsO_exit (fits_ren [(1007006, q2.1)] ?_ ?_ ren_one rfl)
      · exact List.forall_mem_cons.2 ⟨row_i64_fit eq0, List.forall_mem_cons.2 ⟨row_i64_fit eq1, List.forall_mem_cons.2 ⟨(vec_i64_fit eq2 rfl).1, List.forall_mem_cons.2 ⟨row_i64_fit eq3, List.forall_mem_cons.2 ⟨FV.same (by assumption) (fun _ _ _ hh => by cases hh) (fun _ hh => by cases hh), fun _ hp => (List.not_mem_nil hp).elim⟩⟩⟩⟩⟩
      · exact List.forall_mem_cons.2 ⟨(vec_i64_fit eq2 rfl).2, fun _ hp => (List.not_mem_nil hp).elim⟩
    · cases h4
  · cases h
theorem pyxref1_DivNat.l7.sound (k : Nat) : LSound (pyxref1_DivNat.E k) Try.f36.ntmps Try.f36 (loopAt Try.f36 7) (pyxref1_DivNat.l7.L k) :=
  loop_sound (pyxref1_DivNat.ok k) mixed rfl (by kernel_rfl) (allL_of (l := []) (by kernel_rfl) allL_nil) pyxref1_DivNat.l7.un pyxref1_DivNat.l7.mk pyxref1_DivNat.l7.fin pyxref1_DivNat.l7.re (pyxref1_DivNat.l7.once k) k pyxref1_DivNat.l7.fit pyxref1_DivNat.l7.fitO (pyxref1_DivNat.l7.eq k) pyxref1_DivNat.l7.finK pyxref1_DivNat.l7.finK_eq
theorem pyxref1_DivNat.l4.eq (k : Nat) (x : (List Int × List Int × List Int × Int × List Int)) : evC (pyxref1_DivNat.E k) (loopAt Try.f36 4) (pyxref1_DivNat.l4.mk x) (headK pyxref1_DivNat.l4.un pyxref1_DivNat.l4.re) = pyxref1_DivNat.l4.once k x := by kernel_rfl
theorem pyxref1_DivNat.l4.fit (s : St U) (x : (List Int × List Int × List Int × Int × List Int)) (h : pyxref1_DivNat.l4.un s = some x) : Fits s (pyxref1_DivNat.l4.mk x) := by
  unfold pyxref1_DivNat.l4.un at h
  obtain ⟨q0, eq0, h1⟩ := Option.bind_eq_some_iff.1 h
  obtain ⟨q1, eq1, h2⟩ := Option.bind_eq_some_iff.1 h1
  obtain ⟨q2, eq2, h3⟩ := Option.bind_eq_some_iff.1 h2
  obtain ⟨q3, eq3, h4⟩ := Option.bind_eq_some_iff.1 h3
  split at h4
  · cases h4
    refine fits_ren [(1004006, q2.1)] ?_ ?_ ren_one rfl
    · exact List.forall_mem_cons.2 ⟨row_i64_fit eq0, List.forall_mem_cons.2 ⟨row_i64_fit eq1, List.forall_mem_cons.2 ⟨(vec_i64_fit eq2 rfl).1, List.forall_mem_cons.2 ⟨row_i64_fit eq3, List.forall_mem_cons.2 ⟨FV.same (by assumption) (fun _ _ _ hh => by cases hh) (fun _ hh => by cases hh), fun _ hp => (List.not_mem_nil hp).elim⟩⟩⟩⟩⟩
    · exact List.forall_mem_cons.2 ⟨(vec_i64_fit eq2 rfl).2, fun _ hp => (List.not_mem_nil hp).elim⟩
  · cases h4
theorem pyxref1_DivNat.l4.fitO (o : Out U) (y : (List Int × List Int)) (h : pyxref1_DivNat.l4.re o = some y) : FitsO o (pyxref1_DivNat.l4.fin y) := by
  unfold pyxref1_DivNat.l4.re at h
  split at h
  · obtain ⟨q0, eq0, h1⟩ := Option.bind_eq_some_iff.1 h
    obtain ⟨q1, eq1, h2⟩ := Option.bind_eq_some_iff.1 h1
    cases h2
    refine fitsO_exit (fits_ren [(1004006, q0.1)] ?_ ?_ ren_one rfl)
    · exact List.forall_mem_cons.2 ⟨(vec_i64_fit eq0 rfl).1, List.forall_mem_cons.2 ⟨row_i64_fit eq1, fun _ hp => (List.not_mem_nil hp).elim⟩⟩
    · exact List.forall_mem_cons.2 ⟨(vec_i64_fit eq0 rfl).2, fun _ hp => (List.not_mem_nil hp).elim⟩
  · cases h
theorem pyxref1_DivNat.l4.sound (k : Nat) : LSound (pyxref1_DivNat.E k) Try.f36.ntmps Try.f36 (loopAt Try.f36 4) (pyxref1_DivNat.l4.L k) :=
  loop_sound (pyxref1_DivNat.ok k) mixed rfl (by kernel_rfl) (allL_of (l := [loopAt Try.f36 7]) (by kernel_rfl) (allL_cons (key := 7) (by kernel_rfl) rfl (pyxref1_DivNat.l7.sound k) allL_nil)) pyxref1_DivNat.l4.un pyxref1_DivNat.l4.mk pyxref1_DivNat.l4.fin pyxref1_DivNat.l4.re (pyxref1_DivNat.l4.once k) k pyxref1_DivNat.l4.fit pyxref1_DivNat.l4.fitO (pyxref1_DivNat.l4.eq k) pyxref1_DivNat.l4.finK pyxref1_DivNat.l4.finK_eq
theorem pyxref1_DivNat.eq (k : Nat) (x : (List Int × List Int)) : runF (pyxref1_DivNat.E k) (codeOf Try.f36) (pyxref1_DivNat.mk x) pyxref1_DivNat.re = (pyxref1_DivNat.D k).f x := by kernel_rfl
theorem pyxref1_DivNat.sound (k : Nat) : Sound Try.prog DD 36 (pyxref1_DivNat.D k) :=
  fun_sound (E := pyxref1_DivNat.E k) (fn := Try.f36) (c := codeOf Try.f36) (pyxref1_DivNat.ok k) mixed rfl Try.func36 (by kernel_rfl) (by kernel_rfl) (allL_of (l := [loopAt Try.f36 4]) (by kernel_rfl) (allL_cons (key := 4) (by kernel_rfl) rfl (pyxref1_DivNat.l4.sound k) allL_nil)) (pyxref1_DivNat.D k) pyxref1_DivNat.mk pyxref1_DivNat.re
    (by intro args x h; replace h : pyxref1_DivNat.un args = some x := h; unfold pyxref1_DivNat.un at h; split at h; · cases h; rfl
        · cases h)
    (by intro v y h; unfold pyxref1_DivNat.re at h; split at h; · cases h; rfl
        · cases h)
    (fun _ => rfl) (fun x => Nat.le_of_ble_eq_true (by kernel_rfl)) (pyxref1_DivNat.eq k)
/-! ### pyx/pyxref1.short: function 69 -/
noncomputable def pyxref1_short.l3.once (k : Nat) (x : (List Int × Int × Int)) : Option ((List Int × Int × Int) ⊕ (Int)) := match x with | (x1, x2, x3) => cond (decide (x3 ≥ 0)) (cond (inb x3 (List.length x1)) (some (.inl (x1, IntKind.wrap .u64 ((IntKind.wrap .u64 (10 * x2)) + (IntKind.wrap .u64 (List.getD x1 (Int.toNat x3) 0))), IntKind.wrap .i64 (x3 - 1)))) none) (some (.inr x2))
noncomputable def pyxref1_short.f (k : Nat) (a0 : List Int) : Option Int := (iter (pyxref1_short.l3.once k) k (a0, 0, IntKind.wrap .i64 ((List.length a0 : Int) - 1))).bind fun y5 => (some y5)
noncomputable def pyxref1_short.un : List (AV U) → Option (List Int) | [.row C.i64 x1] => some x1 | _ => none
noncomputable def pyxref1_short.mk (x : List Int) : List (AV U) := [.row C.i64 x]
noncomputable def pyxref1_short.D (k : Nat) : FDen U := { X := List Int, Y := Int, un := pyxref1_short.un, f := fun x => pyxref1_short.f k (x), fin := fun y => .flat (.int .u64 y) }
noncomputable def pyxref1_short.re : AV U → Option Int | .flat (.int .u64 x1) => some x1 | _ => none
noncomputable def pyxref1_short.l3.mk (x : (List Int × Int × Int)) : St U := match x with | (x1, x2, x3) => ⟨[(0, .row C.i64 x1), (3, .flat (.int .u64 x2)), (4, .flat (.int .i64 x3))], []⟩
noncomputable def pyxref1_short.l3.un (s : St U) : Option (List Int × Int × Int) := (row_i64 (s.get 0)).bind fun q0 => (match s.get 3, s.get 4 with | .flat (.int .u64 x2), .flat (.int .i64 x3) => some (q0, x2, x3) | _, _ => none)
noncomputable def pyxref1_short.l3.fin (y : Int) : Out U := match y with | x4 => .exit 0 ⟨[(3, .flat (.int .u64 x4))], []⟩
noncomputable def pyxref1_short.l3.finK {ρ : Type} (y : Int) (K : Out U → Option ρ) : Option ρ := match y with | x4 => K (.exit 0 ⟨[(3, .flat (.int .u64 x4))], []⟩)
theorem pyxref1_short.l3.finK_eq {ρ : Type} (y : Int) (K : Out U → Option ρ) : pyxref1_short.l3.finK y K = K (pyxref1_short.l3.fin y) := by
  unfold pyxref1_short.l3.finK pyxref1_short.l3.fin
  first | rfl | (split <;> rfl)
noncomputable def pyxref1_short.l3.re : Out U → Option (Int) | .exit 0 s => (match s.get 3 with | .flat (.int .u64 x4) => some x4 | _ => none) | _ => none
noncomputable def pyxref1_short.l3.L (k : Nat) : LDen U := { X := (List Int × Int × Int), Y := Int, un := pyxref1_short.l3.un, f := iter (pyxref1_short.l3.once k) k, fin := pyxref1_short.l3.fin, finK := pyxref1_short.l3.finK, finK_eq := pyxref1_short.l3.finK_eq }
noncomputable def pyxref1_short.jl : List (Nat × JDen U) := []
noncomputable def pyxref1_short.fl (k : Nat) : List (Nat × FDen U) := []
noncomputable def pyxref1_short.ll (k : Nat) : List (Nat × LDen U) := [(3, pyxref1_short.l3.L k)]
noncomputable def pyxref1_short.E (k : Nat) : Env U := { P := Try.prog, D := DD, fd := lk (pyxref1_short.fl k), ld := lk (pyxref1_short.ll k), jd := lk pyxref1_short.jl, mode := lk [], elc := lk ec, dyn := fun t => false, vecs := fun d => false, results := Try.f69.results.toList }
theorem pyxref1_short.ok (k : Nat) : EnvOk (pyxref1_short.E k) := envOk lawful (pyxref1_short.fl k) (pyxref1_short.ll k) pyxref1_short.jl _ _ _ _ _ (by
  intro p hp
  simp [pyxref1_short.fl] at hp) (by
  intro p hp
  simp [pyxref1_short.jl] at hp)
theorem pyxref1_short.l3.eq (k : Nat) (x : (List Int × Int × Int)) : evC (pyxref1_short.E k) (loopAt Try.f69 3) (pyxref1_short.l3.mk x) (headK pyxref1_short.l3.un pyxref1_short.l3.re) = pyxref1_short.l3.once k x := by kernel_rfl
theorem pyxref1_short.l3.fit (s : St U) (x : (List Int × Int × Int)) (h : pyxref1_short.l3.un s = some x) : Fits s (pyxref1_short.l3.mk x) := by
  unfold pyxref1_short.l3.un at h
  obtain ⟨q0, eq0, h1⟩ := Option.bind_eq_some_iff.1 h
  split at h1
  · cases h1
    refine fits_ren [] ?_ ?_ ren_nil rfl
    · exact List.forall_mem_cons.2 ⟨row_i64_fit eq0, List.forall_mem_cons.2 ⟨FV.same (by assumption) (fun _ _ _ hh => by cases hh) (fun _ hh => by cases hh), List.forall_mem_cons.2 ⟨FV.same (by assumption) (fun _ _ _ hh => by cases hh) (fun _ hh => by cases hh), fun _ hp => (List.not_mem_nil hp).elim⟩⟩⟩
    · exact fun _ hp => (List.not_mem_nil hp).elim
  · cases h1
theorem pyxref1_short.l3.fitO (o : Out U) (y : Int) (h : pyxref1_short.l3.re o = some y) : FitsO o (pyxref1_short.l3.fin y) := by
  unfold pyxref1_short.l3.re at h
  split at h
  · split at h
    · cases h
      refine fitsO_exit (fits_ren [] ?_ ?_ ren_nil rfl)
      · exact List.forall_mem_cons.2 ⟨FV.same (by assumption) (fun _ _ _ hh => by cases hh) (fun _ hh => by cases hh), fun _ hp => (List.not_mem_nil hp).elim⟩
      · exact fun _ hp => (List.not_mem_nil hp).elim
    · cases h
  · cases h
theorem pyxref1_short.l3.sound (k : Nat) : LSound (pyxref1_short.E k) Try.f69.ntmps Try.f69 (loopAt Try.f69 3) (pyxref1_short.l3.L k) :=
  loop_sound (pyxref1_short.ok k) mixed rfl (by kernel_rfl) (allL_of (l := []) (by kernel_rfl) allL_nil) pyxref1_short.l3.un pyxref1_short.l3.mk pyxref1_short.l3.fin pyxref1_short.l3.re (pyxref1_short.l3.once k) k pyxref1_short.l3.fit pyxref1_short.l3.fitO (pyxref1_short.l3.eq k) pyxref1_short.l3.finK pyxref1_short.l3.finK_eq
theorem pyxref1_short.eq (k : Nat) (x : List Int) : runF (pyxref1_short.E k) (codeOf Try.f69) (pyxref1_short.mk x) pyxref1_short.re = (pyxref1_short.D k).f x := by kernel_rfl
theorem pyxref1_short.sound (k : Nat) : Sound Try.prog DD 69 (pyxref1_short.D k) :=
  fun_sound (E := pyxref1_short.E k) (fn := Try.f69) (c := codeOf Try.f69) (pyxref1_short.ok k) mixed rfl Try.func69 (by kernel_rfl) (by kernel_rfl) (allL_of (l := [loopAt Try.f69 3]) (by kernel_rfl) (allL_cons (key := 3) (by kernel_rfl) rfl (pyxref1_short.l3.sound k) allL_nil)) (pyxref1_short.D k) pyxref1_short.mk pyxref1_short.re
    (by intro args x h; replace h : pyxref1_short.un args = some x := h; unfold pyxref1_short.un at h; split at h; · cases h; rfl
        · cases h)
    (by intro v y h; unfold pyxref1_short.re at h; split at h; · cases h; rfl
        · cases h)
    (fun _ => rfl) (fun x => Nat.le_of_ble_eq_true (by kernel_rfl)) (pyxref1_short.eq k)
/-! ### pyx/pyxref1.Words2: function 31 -/
noncomputable def pyxref1_Words2.f (k : Nat) (a0 : List Int) : Option ((Int × Int) × Bool) := (pyxref1_radix.f k).bind fun t1 => ((pyxref1_DivNat.f k a0 t1).bind fun t2 => ((pyxref1_radix.f k).bind fun t3 => ((pyxref1_CmpNat.f k t2.1 t3).bind fun t4 => (cond (decide (t4 ≥ 0)) (some ((0, 0), false)) ((pyxref1_short.f k t2.2).bind fun t5 => ((pyxref1_short.f k t2.1).bind fun t6 => (some ((t5, t6), true))))))))
noncomputable def pyxref1_Words2.un : List (AV U) → Option (List Int) | [.row C.i64 x1] => some x1 | _ => none
noncomputable def pyxref1_Words2.mk (x : List Int) : List (AV U) := [.row C.i64 x]
noncomputable def pyxref1_Words2.D (k : Nat) : FDen U := { X := List Int, Y := ((Int × Int) × Bool), un := pyxref1_Words2.un, f := fun x => pyxref1_Words2.f k (x), fin := fun y => .tup [.agg [.flat (.int .u64 y.1.1), .flat (.int .u64 y.1.2)], .flat (.bool y.2)] }
noncomputable def pyxref1_Words2.re : AV U → Option ((Int × Int) × Bool) | .tup [.agg [.flat (.int .u64 x1), .flat (.int .u64 x2)], .flat (.bool x3)] => some ((x1, x2), x3) | _ => none
noncomputable def pyxref1_Words2.jl : List (Nat × JDen U) := []
noncomputable def pyxref1_Words2.fl (k : Nat) : List (Nat × FDen U) := [(68, pyxref1_radix.D k), (36, pyxref1_DivNat.D k), (33, pyxref1_CmpNat.D k), (69, pyxref1_short.D k)]
noncomputable def pyxref1_Words2.ll (k : Nat) : List (Nat × LDen U) := []
noncomputable def pyxref1_Words2.E (k : Nat) : Env U := { P := Try.prog, D := DD, fd := lk (pyxref1_Words2.fl k), ld := lk (pyxref1_Words2.ll k), jd := lk pyxref1_Words2.jl, mode := lk [], elc := lk ec, dyn := fun t => false, vecs := fun d => false, results := Try.f31.results.toList }
theorem pyxref1_Words2.ok (k : Nat) : EnvOk (pyxref1_Words2.E k) := envOk lawful (pyxref1_Words2.fl k) (pyxref1_Words2.ll k) pyxref1_Words2.jl _ _ _ _ _ (by
  intro p hp
  simp only [pyxref1_Words2.fl, List.mem_cons, List.not_mem_nil, or_false] at hp
  rcases hp with rfl | rfl | rfl | rfl
  · exact ⟨pyxref1_radix.sound k, enter_of Try.func68 (by kernel_rfl) (by kernel_rfl)⟩
  · exact ⟨pyxref1_DivNat.sound k, enter_of Try.func36 (by kernel_rfl) (by kernel_rfl)⟩
  · exact ⟨pyxref1_CmpNat.sound k, enter_of Try.func33 (by kernel_rfl) (by kernel_rfl)⟩
  · exact ⟨pyxref1_short.sound k, enter_of Try.func69 (by kernel_rfl) (by kernel_rfl)⟩) (by
  intro p hp
  simp [pyxref1_Words2.jl] at hp)
theorem pyxref1_Words2.eq (k : Nat) (x : List Int) : runF (pyxref1_Words2.E k) (codeOf Try.f31) (pyxref1_Words2.mk x) pyxref1_Words2.re = (pyxref1_Words2.D k).f x := by kernel_rfl
theorem pyxref1_Words2.sound (k : Nat) : Sound Try.prog DD 31 (pyxref1_Words2.D k) :=
  fun_sound (E := pyxref1_Words2.E k) (fn := Try.f31) (c := codeOf Try.f31) (pyxref1_Words2.ok k) mixed rfl Try.func31 (by kernel_rfl) (by kernel_rfl) (allL_of (l := []) (by kernel_rfl) allL_nil) (pyxref1_Words2.D k) pyxref1_Words2.mk pyxref1_Words2.re
    (by intro args x h; replace h : pyxref1_Words2.un args = some x := h; unfold pyxref1_Words2.un at h; split at h; · cases h; rfl
        · cases h)
    (by intro v y h; unfold pyxref1_Words2.re at h; split at h; · cases h; rfl
        · cases h)
    (fun _ => rfl) (fun x => Nat.le_of_ble_eq_true (by kernel_rfl)) (pyxref1_Words2.eq k)
/-! ### pyx/pyxref1.Words4: function 34 -/
noncomputable def pyxref1_Words4.l3.once (k : Nat) (x : (List Int × Int × List Int × List Int)) : Option ((List Int × Int × List Int × List Int) ⊕ ((List Int × List Int))) := match x with | (x1, x4, x2, x3) => cond (decide (x4 < 4)) ((pyxref1_radix.f k).bind fun t5 => ((pyxref1_DivNat.f k x1 t5).bind fun t6 => ((pyxref1_short.f k t6.2).bind fun t7 => (cond (inb x4 4) (cond (Nat.blt (Int.toNat x4) 4) (some (.inl (t6.1, IntKind.wrap .i64 (x4 + 1), x2, List.set x3 (Int.toNat x4) t7))) none) none)))) (some (.inr (x2, x3)))
noncomputable def pyxref1_Words4.f (k : Nat) (a0 : List Int) : Option (Int × Int × Int × Int) := (iter (pyxref1_Words4.l3.once k) k (a0, 0, [0, 0, 0, 0], [0, 0, 0, 0])).bind fun y10 => (some (List.getD [List.getD y10.2 0 0, List.getD y10.2 1 0, List.getD y10.2 2 0, List.getD y10.2 3 0] 0 0, List.getD [List.getD y10.2 0 0, List.getD y10.2 1 0, List.getD y10.2 2 0, List.getD y10.2 3 0] 1 0, List.getD [List.getD y10.2 0 0, List.getD y10.2 1 0, List.getD y10.2 2 0, List.getD y10.2 3 0] 2 0, List.getD [List.getD y10.2 0 0, List.getD y10.2 1 0, List.getD y10.2 2 0, List.getD y10.2 3 0] 3 0))
noncomputable def pyxref1_Words4.un : List (AV U) → Option (List Int) | [.row C.i64 x1] => some x1 | _ => none
noncomputable def pyxref1_Words4.mk (x : List Int) : List (AV U) := [.row C.i64 x]
noncomputable def pyxref1_Words4.D (k : Nat) : FDen U := { X := List Int, Y := (Int × Int × Int × Int), un := pyxref1_Words4.un, f := fun x => pyxref1_Words4.f k (x), fin := fun y => .agg [.flat (.int .u64 y.1), .flat (.int .u64 y.2.1), .flat (.int .u64 y.2.2.1), .flat (.int .u64 y.2.2.2)] }
noncomputable def pyxref1_Words4.re : AV U → Option (Int × Int × Int × Int) | .agg [.flat (.int .u64 x1), .flat (.int .u64 x2), .flat (.int .u64 x3), .flat (.int .u64 x4)] => some (x1, x2, x3, x4) | _ => none
noncomputable def pyxref1_Words4.l3.mk (x : (List Int × Int × List Int × List Int)) : St U := match x with | (x1, x4, x2, x3) => ⟨[(2, .ptr 2 0), (3, .ptr 3 0), (0, .row C.i64 x1), (4, .flat (.int .i64 x4))], [(2, .arr 4 C.u64 x2), (3, .arr 4 C.u64 x3)]⟩
noncomputable def pyxref1_Words4.l3.un (s : St U) : Option (List Int × Int × List Int × List Int) := (row_i64 (s.get 0)).bind fun q0 => (match s.get 2, s.get 3, s.get 4, lk s.o 2, lk s.o 3 with | .ptr 2 0, .ptr 3 0, .flat (.int .i64 x4), some (.arr 4 C.u64 x2), some (.arr 4 C.u64 x3) => some (q0, x4, x2, x3) | _, _, _, _, _ => none)
noncomputable def pyxref1_Words4.l3.fin (y : (List Int × List Int)) : Out U := match y with | (x8, x9) => .exit 0 ⟨[(2, .ptr 2 0), (3, .ptr 3 0)], [(2, .arr 4 C.u64 x8), (3, .arr 4 C.u64 x9)]⟩
noncomputable def pyxref1_Words4.l3.finK {ρ : Type} (y : (List Int × List Int)) (K : Out U → Option ρ) : Option ρ := match y with | (x8, x9) => K (.exit 0 ⟨[(2, .ptr 2 0), (3, .ptr 3 0)], [(2, .arr 4 C.u64 x8), (3, .arr 4 C.u64 x9)]⟩)
theorem pyxref1_Words4.l3.finK_eq {ρ : Type} (y : (List Int × List Int)) (K : Out U → Option ρ) : pyxref1_Words4.l3.finK y K = K (pyxref1_Words4.l3.fin y) := by
  unfold pyxref1_Words4.l3.finK pyxref1_Words4.l3.fin
  first | rfl | (split <;> rfl)
noncomputable def pyxref1_Words4.l3.re : Out U → Option ((List Int × List Int)) | .exit 0 s => (match s.get 2, s.get 3, lk s.o 2, lk s.o 3 with | .ptr 2 0, .ptr 3 0, some (.arr 4 C.u64 x8), some (.arr 4 C.u64 x9) => some (x8, x9) | _, _, _, _ => none) | _ => none
noncomputable def pyxref1_Words4.l3.L (k : Nat) : LDen U := { X := (List Int × Int × List Int × List Int), Y := (List Int × List Int), un := pyxref1_Words4.l3.un, f := iter (pyxref1_Words4.l3.once k) k, fin := pyxref1_Words4.l3.fin, finK := pyxref1_Words4.l3.finK, finK_eq := pyxref1_Words4.l3.finK_eq }
noncomputable def pyxref1_Words4.jl : List (Nat × JDen U) := []
noncomputable def pyxref1_Words4.fl (k : Nat) : List (Nat × FDen U) := [(68, pyxref1_radix.D k), (36, pyxref1_DivNat.D k), (69, pyxref1_short.D k)]
noncomputable def pyxref1_Words4.ll (k : Nat) : List (Nat × LDen U) := [(3, pyxref1_Words4.l3.L k)]
noncomputable def pyxref1_Words4.E (k : Nat) : Env U := { P := Try.prog, D := DD, fd := lk (pyxref1_Words4.fl k), ld := lk (pyxref1_Words4.ll k), jd := lk pyxref1_Words4.jl, mode := lk [(30, (4, C.u64))], elc := lk ec, dyn := fun t => false, vecs := fun d => false, results := Try.f34.results.toList }
theorem pyxref1_Words4.ok (k : Nat) : EnvOk (pyxref1_Words4.E k) := envOk lawful (pyxref1_Words4.fl k) (pyxref1_Words4.ll k) pyxref1_Words4.jl _ _ _ _ _ (by
  intro p hp
  simp only [pyxref1_Words4.fl, List.mem_cons, List.not_mem_nil, or_false] at hp
  rcases hp with rfl | rfl | rfl
  · exact ⟨pyxref1_radix.sound k, enter_of Try.func68 (by kernel_rfl) (by kernel_rfl)⟩
  · exact ⟨pyxref1_DivNat.sound k, enter_of Try.func36 (by kernel_rfl) (by kernel_rfl)⟩
  · exact ⟨pyxref1_short.sound k, enter_of Try.func69 (by kernel_rfl) (by kernel_rfl)⟩) (by
  intro p hp
  simp [pyxref1_Words4.jl] at hp)
theorem pyxref1_Words4.l3.eq (k : Nat) (x : (List Int × Int × List Int × List Int)) : evC (pyxref1_Words4.E k) (loopAt Try.f34 3) (pyxref1_Words4.l3.mk x) (headK pyxref1_Words4.l3.un pyxref1_Words4.l3.re) = pyxref1_Words4.l3.once k x := by kernel_rfl
theorem pyxref1_Words4.l3.fit (s : St U) (x : (List Int × Int × List Int × List Int)) (h : pyxref1_Words4.l3.un s = some x) : Fits s (pyxref1_Words4.l3.mk x) := by
  unfold pyxref1_Words4.l3.un at h
  obtain ⟨q0, eq0, h1⟩ := Option.bind_eq_some_iff.1 h
  split at h1
  · cases h1
    refine fits_ren [] ?_ ?_ ren_nil rfl
    · exact List.forall_mem_cons.2 ⟨FV.same (by assumption) (fun _ _ _ hh => by cases hh) (fun _ hh => by cases hh), List.forall_mem_cons.2 ⟨FV.same (by assumption) (fun _ _ _ hh => by cases hh) (fun _ hh => by cases hh), List.forall_mem_cons.2 ⟨row_i64_fit eq0, List.forall_mem_cons.2 ⟨FV.same (by assumption) (fun _ _ _ hh => by cases hh) (fun _ hh => by cases hh), fun _ hp => (List.not_mem_nil hp).elim⟩⟩⟩⟩
    · exact List.forall_mem_cons.2 ⟨(show lk (St.o _) 2 = some _ from by assumption), List.forall_mem_cons.2 ⟨(show lk (St.o _) 3 = some _ from by assumption), fun _ hp => (List.not_mem_nil hp).elim⟩⟩
  · cases h1
theorem pyxref1_Words4.l3.fitO (o : Out U) (y : (List Int × List Int)) (h : pyxref1_Words4.l3.re o = some y) : FitsO o (pyxref1_Words4.l3.fin y) := by
  unfold pyxref1_Words4.l3.re at h
  split at h
  · split at h
    · cases h
      refine fitsO_exit (fits_ren [] ?_ ?_ ren_nil rfl)
      · exact List.forall_mem_cons.2 ⟨FV.same (by assumption) (fun _ _ _ hh => by cases hh) (fun _ hh => by cases hh), List.forall_mem_cons.2 ⟨FV.same (by assumption) (fun _ _ _ hh => by cases hh) (fun _ hh => by cases hh), fun _ hp => (List.not_mem_nil hp).elim⟩⟩
      · exact List.forall_mem_cons.2 ⟨(show lk (St.o _) 2 = some _ from by assumption), List.forall_mem_cons.2 ⟨(show lk (St.o _) 3 = some _ from by assumption), fun _ hp => (List.not_mem_nil hp).elim⟩⟩
    · cases h
  · cases h
theorem pyxref1_Words4.l3.sound (k : Nat) : LSound (pyxref1_Words4.E k) Try.f34.ntmps Try.f34 (loopAt Try.f34 3) (pyxref1_Words4.l3.L k) :=
  loop_sound (pyxref1_Words4.ok k) mixed rfl (by kernel_rfl) (allL_of (l := []) (by kernel_rfl) allL_nil) pyxref1_Words4.l3.un pyxref1_Words4.l3.mk pyxref1_Words4.l3.fin pyxref1_Words4.l3.re (pyxref1_Words4.l3.once k) k pyxref1_Words4.l3.fit pyxref1_Words4.l3.fitO (pyxref1_Words4.l3.eq k) pyxref1_Words4.l3.finK pyxref1_Words4.l3.finK_eq
theorem pyxref1_Words4.eq (k : Nat) (x : List Int) : runF (pyxref1_Words4.E k) (codeOf Try.f34) (pyxref1_Words4.mk x) pyxref1_Words4.re = (pyxref1_Words4.D k).f x := by kernel_rfl
theorem pyxref1_Words4.sound (k : Nat) : Sound Try.prog DD 34 (pyxref1_Words4.D k) :=
  fun_sound (E := pyxref1_Words4.E k) (fn := Try.f34) (c := codeOf Try.f34) (pyxref1_Words4.ok k) mixed rfl Try.func34 (by kernel_rfl) (by kernel_rfl) (allL_of (l := [loopAt Try.f34 3]) (by kernel_rfl) (allL_cons (key := 3) (by kernel_rfl) rfl (pyxref1_Words4.l3.sound k) allL_nil)) (pyxref1_Words4.D k) pyxref1_Words4.mk pyxref1_Words4.re
    (by intro args x h; replace h : pyxref1_Words4.un args = some x := h; unfold pyxref1_Words4.un at h; split at h; · cases h; rfl
        · cases h)
    (by intro v y h; unfold pyxref1_Words4.re at h; split at h; · cases h; rfl
        · cases h)
    (fun _ => rfl) (fun x => Nat.le_of_ble_eq_true (by kernel_rfl)) (pyxref1_Words4.eq k)
/-! ### pyx/limb.Sub: function 18 -/
noncomputable def limb_Sub.f (k : Nat) (a0 : (Int × Int)) (a1 : (Int × Int)) : Option ((Int × Int) × Bool) := (limb_less.f k a0.1 a1.1 0).bind fun t1 => ((limb_less.f k a0.2 a1.2 t1.2).bind fun t2 => (cond (decide (t2.2 > 0)) (some ((0, 0), false)) (some ((t1.1, t2.1), true))))
noncomputable def limb_Sub.un : List (AV U) → Option ((Int × Int) × (Int × Int)) | [.agg [.flat (.int .u64 x1), .flat (.int .u64 x2)], .agg [.flat (.int .u64 x3), .flat (.int .u64 x4)]] => some ((x1, x2), (x3, x4)) | _ => none
noncomputable def limb_Sub.mk (x : ((Int × Int) × (Int × Int))) : List (AV U) := [.agg [.flat (.int .u64 x.1.1), .flat (.int .u64 x.1.2)], .agg [.flat (.int .u64 x.2.1), .flat (.int .u64 x.2.2)]]
noncomputable def limb_Sub.D (k : Nat) : FDen U := { X := ((Int × Int) × (Int × Int)), Y := ((Int × Int) × Bool), un := limb_Sub.un, f := fun x => limb_Sub.f k (x.1) (x.2), fin := fun y => .tup [.agg [.flat (.int .u64 y.1.1), .flat (.int .u64 y.1.2)], .flat (.bool y.2)] }
noncomputable def limb_Sub.re : AV U → Option ((Int × Int) × Bool) | .tup [.agg [.flat (.int .u64 x1), .flat (.int .u64 x2)], .flat (.bool x3)] => some ((x1, x2), x3) | _ => none
noncomputable def limb_Sub.jl : List (Nat × JDen U) := []
noncomputable def limb_Sub.fl (k : Nat) : List (Nat × FDen U) := [(65, limb_less.D k)]
noncomputable def limb_Sub.ll (k : Nat) : List (Nat × LDen U) := []
noncomputable def limb_Sub.E (k : Nat) : Env U := { P := Try.prog, D := DD, fd := lk (limb_Sub.fl k), ld := lk (limb_Sub.ll k), jd := lk limb_Sub.jl, mode := lk [], elc := lk ec, dyn := fun t => false, vecs := fun d => false, results := Try.f18.results.toList }
theorem limb_Sub.ok (k : Nat) : EnvOk (limb_Sub.E k) := envOk lawful (limb_Sub.fl k) (limb_Sub.ll k) limb_Sub.jl _ _ _ _ _ (by
  intro p hp
  simp only [limb_Sub.fl, List.mem_cons, List.not_mem_nil, or_false] at hp
  rcases hp with rfl
  · exact ⟨limb_less.sound k, enter_of Try.func65 (by kernel_rfl) (by kernel_rfl)⟩) (by
  intro p hp
  simp [limb_Sub.jl] at hp)
theorem limb_Sub.eq (k : Nat) (x : ((Int × Int) × (Int × Int))) : runF (limb_Sub.E k) (codeOf Try.f18) (limb_Sub.mk x) limb_Sub.re = (limb_Sub.D k).f x := by kernel_rfl
theorem limb_Sub.sound (k : Nat) : Sound Try.prog DD 18 (limb_Sub.D k) :=
  fun_sound (E := limb_Sub.E k) (fn := Try.f18) (c := codeOf Try.f18) (limb_Sub.ok k) mixed rfl Try.func18 (by kernel_rfl) (by kernel_rfl) (allL_of (l := []) (by kernel_rfl) allL_nil) (limb_Sub.D k) limb_Sub.mk limb_Sub.re
    (by intro args x h; replace h : limb_Sub.un args = some x := h; unfold limb_Sub.un at h; split at h; · cases h; rfl
        · cases h)
    (by intro v y h; unfold limb_Sub.re at h; split at h; · cases h; rfl
        · cases h)
    (fun _ => rfl) (fun x => Nat.le_of_ble_eq_true (by kernel_rfl)) (limb_Sub.eq k)
/-! ### pyx/pyxref1.Nat4: function 37 -/
noncomputable def pyxref1_Nat4.l3.once (k : Nat) (x : (List Int × Int × List Int)) : Option ((List Int × Int × List Int) ⊕ (List Int)) := match x with | (x2, x3, x1) => cond (decide (x3 ≥ 0)) ((pyxref1_radix.f k).bind fun t4 => ((pyxref1_MulNat.f k x2 t4).bind fun t5 => (cond (inb x3 4) (cond (Nat.blt (Int.toNat x3) 4) ((pyxref1_Word.f k (List.getD x1 (Int.toNat x3) 0)).bind fun t6 => ((pyxref1_AddNat.f k t5 t6).bind fun t7 => (some (.inl (t7, IntKind.wrap .i64 (x3 - 1), x1))))) none) none))) (some (.inr x2))
noncomputable def pyxref1_Nat4.f (k : Nat) (a0 : (Int × Int × Int × Int)) : Option (List Int) := (iter (pyxref1_Nat4.l3.once k) k (([] : List Int), 3, [a0.1, a0.2.1, a0.2.2.1, a0.2.2.2])).bind fun y9 => (some y9)
noncomputable def pyxref1_Nat4.un : List (AV U) → Option (Int × Int × Int × Int) | [.agg [.flat (.int .u64 x1), .flat (.int .u64 x2), .flat (.int .u64 x3), .flat (.int .u64 x4)]] => some (x1, x2, x3, x4) | _ => none
noncomputable def pyxref1_Nat4.mk (x : (Int × Int × Int × Int)) : List (AV U) := [.agg [.flat (.int .u64 x.1), .flat (.int .u64 x.2.1), .flat (.int .u64 x.2.2.1), .flat (.int .u64 x.2.2.2)]]
noncomputable def pyxref1_Nat4.D (k : Nat) : FDen U := { X := (Int × Int × Int × Int), Y := List Int, un := pyxref1_Nat4.un, f := fun x => pyxref1_Nat4.f k (x), fin := fun y => .row C.i64 y }
noncomputable def pyxref1_Nat4.re : AV U → Option (List Int) | .row C.i64 x1 => some x1 | _ => none
noncomputable def pyxref1_Nat4.l3.mk (x : (List Int × Int × List Int)) : St U := match x with | (x2, x3, x1) => ⟨[(1, .ptr 1 0), (3, .row C.i64 x2), (4, .flat (.int .i64 x3))], [(1, .arr 4 C.u64 x1)]⟩
noncomputable def pyxref1_Nat4.l3.un (s : St U) : Option (List Int × Int × List Int) := (row_i64 (s.get 3)).bind fun q0 => (match s.get 1, s.get 4, lk s.o 1 with | .ptr 1 0, .flat (.int .i64 x3), some (.arr 4 C.u64 x1) => some (q0, x3, x1) | _, _, _ => none)
noncomputable def pyxref1_Nat4.l3.fin (y : List Int) : Out U := match y with | x8 => .exit 0 ⟨[(3, .row C.i64 x8)], []⟩
noncomputable def pyxref1_Nat4.l3.finK {ρ : Type} (y : List Int) (K : Out U → Option ρ) : Option ρ := match y with | x8 => K (.exit 0 ⟨[(3, .row C.i64 x8)], []⟩)
theorem pyxref1_Nat4.l3.finK_eq {ρ : Type} (y : List Int) (K : Out U → Option ρ) : pyxref1_Nat4.l3.finK y K = K (pyxref1_Nat4.l3.fin y) := by
  unfold pyxref1_Nat4.l3.finK pyxref1_Nat4.l3.fin
  first | rfl | (split <;> rfl)
noncomputable def pyxref1_Nat4.l3.re : Out U → Option (List Int) | .exit 0 s => ((row_i64 (s.get 3)).bind fun q0 => (some q0)) | _ => none
noncomputable def pyxref1_Nat4.l3.L (k : Nat) : LDen U := { X := (List Int × Int × List Int), Y := List Int, un := pyxref1_Nat4.l3.un, f := iter (pyxref1_Nat4.l3.once k) k, fin := pyxref1_Nat4.l3.fin, finK := pyxref1_Nat4.l3.finK, finK_eq := pyxref1_Nat4.l3.finK_eq }
noncomputable def pyxref1_Nat4.jl : List (Nat × JDen U) := []
noncomputable def pyxref1_Nat4.fl (k : Nat) : List (Nat × FDen U) := [(68, pyxref1_radix.D k), (35, pyxref1_MulNat.D k), (67, pyxref1_Word.D k), (32, pyxref1_AddNat.D k)]
noncomputable def pyxref1_Nat4.ll (k : Nat) : List (Nat × LDen U) := [(3, pyxref1_Nat4.l3.L k)]
noncomputable def pyxref1_Nat4.E (k : Nat) : Env U := { P := Try.prog, D := DD, fd := lk (pyxref1_Nat4.fl k), ld := lk (pyxref1_Nat4.ll k), jd := lk pyxref1_Nat4.jl, mode := lk [(30, (4, C.u64))], elc := lk ec, dyn := fun t => false, vecs := fun d => false, results := Try.f37.results.toList }
theorem pyxref1_Nat4.ok (k : Nat) : EnvOk (pyxref1_Nat4.E k) := envOk lawful (pyxref1_Nat4.fl k) (pyxref1_Nat4.ll k) pyxref1_Nat4.jl _ _ _ _ _ (by
  intro p hp
  simp only [pyxref1_Nat4.fl, List.mem_cons, List.not_mem_nil, or_false] at hp
  rcases hp with rfl | rfl | rfl | rfl
  · exact ⟨pyxref1_radix.sound k, enter_of Try.func68 (by kernel_rfl) (by kernel_rfl)⟩
  · exact ⟨pyxref1_MulNat.sound k, enter_of Try.func35 (by kernel_rfl) (by kernel_rfl)⟩
  · exact ⟨pyxref1_Word.sound k, enter_of Try.func67 (by kernel_rfl) (by kernel_rfl)⟩
  · exact ⟨pyxref1_AddNat.sound k, enter_of Try.func32 (by kernel_rfl) (by kernel_rfl)⟩) (by
  intro p hp
  simp [pyxref1_Nat4.jl] at hp)
theorem pyxref1_Nat4.l3.eq (k : Nat) (x : (List Int × Int × List Int)) : evC (pyxref1_Nat4.E k) (loopAt Try.f37 3) (pyxref1_Nat4.l3.mk x) (headK pyxref1_Nat4.l3.un pyxref1_Nat4.l3.re) = pyxref1_Nat4.l3.once k x := by kernel_rfl
theorem pyxref1_Nat4.l3.fit (s : St U) (x : (List Int × Int × List Int)) (h : pyxref1_Nat4.l3.un s = some x) : Fits s (pyxref1_Nat4.l3.mk x) := by
  unfold pyxref1_Nat4.l3.un at h
  obtain ⟨q0, eq0, h1⟩ := Option.bind_eq_some_iff.1 h
  split at h1
  · cases h1
    refine fits_ren [] ?_ ?_ ren_nil rfl
    · exact List.forall_mem_cons.2 ⟨FV.same (by assumption) (fun _ _ _ hh => by cases hh) (fun _ hh => by cases hh), List.forall_mem_cons.2 ⟨row_i64_fit eq0, List.forall_mem_cons.2 ⟨FV.same (by assumption) (fun _ _ _ hh => by cases hh) (fun _ hh => by cases hh), fun _ hp => (List.not_mem_nil hp).elim⟩⟩⟩
    · exact List.forall_mem_cons.2 ⟨(show lk (St.o _) 1 = some _ from by assumption), fun _ hp => (List.not_mem_nil hp).elim⟩
  · cases h1
theorem pyxref1_Nat4.l3.fitO (o : Out U) (y : List Int) (h : pyxref1_Nat4.l3.re o = some y) : FitsO o (pyxref1_Nat4.l3.fin y) := by
  unfold pyxref1_Nat4.l3.re at h
  split at h
  · obtain ⟨q0, eq0, h1⟩ := Option.bind_eq_some_iff.1 h
    cases h1
    refine fitsO_exit (fits_ren [] ?_ ?_ ren_nil rfl)
    · exact List.forall_mem_cons.2 ⟨row_i64_fit eq0, fun _ hp => (List.not_mem_nil hp).elim⟩
    · exact fun _ hp => (List.not_mem_nil hp).elim
  · cases h
theorem pyxref1_Nat4.l3.sound (k : Nat) : LSound (pyxref1_Nat4.E k) Try.f37.ntmps Try.f37 (loopAt Try.f37 3) (pyxref1_Nat4.l3.L k) :=
  loop_sound (pyxref1_Nat4.ok k) mixed rfl (by kernel_rfl) (allL_of (l := []) (by kernel_rfl) allL_nil) pyxref1_Nat4.l3.un pyxref1_Nat4.l3.mk pyxref1_Nat4.l3.fin pyxref1_Nat4.l3.re (pyxref1_Nat4.l3.once k) k pyxref1_Nat4.l3.fit pyxref1_Nat4.l3.fitO (pyxref1_Nat4.l3.eq k) pyxref1_Nat4.l3.finK pyxref1_Nat4.l3.finK_eq
theorem pyxref1_Nat4.eq (k : Nat) (x : (Int × Int × Int × Int)) : runF (pyxref1_Nat4.E k) (codeOf Try.f37) (pyxref1_Nat4.mk x) pyxref1_Nat4.re = (pyxref1_Nat4.D k).f x := by kernel_rfl
theorem pyxref1_Nat4.sound (k : Nat) : Sound Try.prog DD 37 (pyxref1_Nat4.D k) :=
  fun_sound (E := pyxref1_Nat4.E k) (fn := Try.f37) (c := codeOf Try.f37) (pyxref1_Nat4.ok k) mixed rfl Try.func37 (by kernel_rfl) (by kernel_rfl) (allL_of (l := [loopAt Try.f37 3]) (by kernel_rfl) (allL_cons (key := 3) (by kernel_rfl) rfl (pyxref1_Nat4.l3.sound k) allL_nil)) (pyxref1_Nat4.D k) pyxref1_Nat4.mk pyxref1_Nat4.re
    (by intro args x h; replace h : pyxref1_Nat4.un args = some x := h; unfold pyxref1_Nat4.un at h; split at h; · cases h; rfl
        · cases h)
    (by intro v y h; unfold pyxref1_Nat4.re at h; split at h; · cases h; rfl
        · cases h)
    (fun _ => rfl) (fun x => Nat.le_of_ble_eq_true (by kernel_rfl)) (pyxref1_Nat4.eq k)
/-! ### pyx/pyxref1.TenNat: function 38 -/
noncomputable def pyxref1_TenNat.f (k : Nat) (a0 : Int) : Option (List Int) := cond ((decide (0 ≤ IntKind.wrap .i64 (a0 + 1)) && decide (IntKind.wrap .i64 (a0 + 1) = IntKind.wrap .i64 (a0 + 1))) && decide ((IntKind.wrap .i64 (a0 + 1)) * 8 ≤ 140737488355328)) (cond (inb a0 (List.length (List.replicate (Int.toNat (IntKind.wrap .i64 (a0 + 1))) (0 : Int)))) (cond (Nat.blt (Int.toNat a0) (List.length (List.replicate (Int.toNat (IntKind.wrap .i64 (a0 + 1))) (0 : Int)))) (some (List.set (List.replicate (Int.toNat (IntKind.wrap .i64 (a0 + 1))) (0 : Int)) (Int.toNat a0) 1)) none) none) none
noncomputable def pyxref1_TenNat.un : List (AV U) → Option Int | [.flat (.int .i64 x1)] => some x1 | _ => none
noncomputable def pyxref1_TenNat.mk (x : Int) : List (AV U) := [.flat (.int .i64 x)]
noncomputable def pyxref1_TenNat.D (k : Nat) : FDen U := { X := Int, Y := List Int, un := pyxref1_TenNat.un, f := fun x => pyxref1_TenNat.f k (x), fin := fun y => .row C.i64 y }
noncomputable def pyxref1_TenNat.re : AV U → Option (List Int) | .row C.i64 x1 => some x1 | _ => none
noncomputable def pyxref1_TenNat.jl : List (Nat × JDen U) := []
noncomputable def pyxref1_TenNat.fl (k : Nat) : List (Nat × FDen U) := []
noncomputable def pyxref1_TenNat.ll (k : Nat) : List (Nat × LDen U) := []
noncomputable def pyxref1_TenNat.E (k : Nat) : Env U := { P := Try.prog, D := DD, fd := lk (pyxref1_TenNat.fl k), ld := lk (pyxref1_TenNat.ll k), jd := lk pyxref1_TenNat.jl, mode := lk [], elc := lk ec, dyn := fun t => false, vecs := fun d => Nat.beq d 6, results := Try.f38.results.toList }
theorem pyxref1_TenNat.ok (k : Nat) : EnvOk (pyxref1_TenNat.E k) := envOk lawful (pyxref1_TenNat.fl k) (pyxref1_TenNat.ll k) pyxref1_TenNat.jl _ _ _ _ _ (by
  intro p hp
  simp [pyxref1_TenNat.fl] at hp) (by
  intro p hp
  simp [pyxref1_TenNat.jl] at hp)
theorem pyxref1_TenNat.eq (k : Nat) (x : Int) : runF (pyxref1_TenNat.E k) (codeOf Try.f38) (pyxref1_TenNat.mk x) pyxref1_TenNat.re = (pyxref1_TenNat.D k).f x := by kernel_rfl
theorem pyxref1_TenNat.sound (k : Nat) : Sound Try.prog DD 38 (pyxref1_TenNat.D k) :=
  fun_sound (E := pyxref1_TenNat.E k) (fn := Try.f38) (c := codeOf Try.f38) (pyxref1_TenNat.ok k) mixed rfl Try.func38 (by kernel_rfl) (by kernel_rfl) (allL_of (l := []) (by kernel_rfl) allL_nil) (pyxref1_TenNat.D k) pyxref1_TenNat.mk pyxref1_TenNat.re
    (by intro args x h; replace h : pyxref1_TenNat.un args = some x := h; unfold pyxref1_TenNat.un at h; split at h; · cases h; rfl
        · cases h)
    (by intro v y h; unfold pyxref1_TenNat.re at h; split at h; · cases h; rfl
        · cases h)
    (fun _ => rfl) (fun x => Nat.le_of_ble_eq_true (by kernel_rfl)) (pyxref1_TenNat.eq k)
/-! ### pyx/pyxref1.Within: function 74 -/
noncomputable def pyxref1_Within.f (k : Nat) (a0 : Int) (a1 : Int) (a2 : Int) : Option Int := some (if (if a0 < a2 then a0 else a2) > a1 then (if a0 < a2 then a0 else a2) else a1)
noncomputable def pyxref1_Within.un : List (AV U) → Option (Int × Int × Int) | [.flat (.int .i64 x1), .flat (.int .i64 x2), .flat (.int .i64 x3)] => some (x1, x2, x3) | _ => none
noncomputable def pyxref1_Within.mk (x : (Int × Int × Int)) : List (AV U) := [.flat (.int .i64 x.1), .flat (.int .i64 x.2.1), .flat (.int .i64 x.2.2)]
noncomputable def pyxref1_Within.D (k : Nat) : FDen U := { X := (Int × Int × Int), Y := Int, un := pyxref1_Within.un, f := fun x => pyxref1_Within.f k (x.1) (x.2.1) (x.2.2), fin := fun y => .flat (.int .i64 y) }
noncomputable def pyxref1_Within.re : AV U → Option Int | .flat (.int .i64 x1) => some x1 | _ => none
noncomputable def pyxref1_Within.jl : List (Nat × JDen U) := []
noncomputable def pyxref1_Within.fl (k : Nat) : List (Nat × FDen U) := []
noncomputable def pyxref1_Within.ll (k : Nat) : List (Nat × LDen U) := []
noncomputable def pyxref1_Within.E (k : Nat) : Env U := { P := Try.prog, D := DD, fd := lk (pyxref1_Within.fl k), ld := lk (pyxref1_Within.ll k), jd := lk pyxref1_Within.jl, mode := lk [], elc := lk ec, dyn := fun t => false, vecs := fun d => false, results := Try.f74.results.toList }
theorem pyxref1_Within.ok (k : Nat) : EnvOk (pyxref1_Within.E k) := envOk lawful (pyxref1_Within.fl k) (pyxref1_Within.ll k) pyxref1_Within.jl _ _ _ _ _ (by
  intro p hp
  simp [pyxref1_Within.fl] at hp) (by
  intro p hp
  simp [pyxref1_Within.jl] at hp)
theorem pyxref1_Within.eq (k : Nat) (x : (Int × Int × Int)) : runF (pyxref1_Within.E k) (codeOf Try.f74) (pyxref1_Within.mk x) pyxref1_Within.re = (pyxref1_Within.D k).f x := by kernel_rfl
theorem pyxref1_Within.sound (k : Nat) : Sound Try.prog DD 74 (pyxref1_Within.D k) :=
  fun_sound (E := pyxref1_Within.E k) (fn := Try.f74) (c := codeOf Try.f74) (pyxref1_Within.ok k) mixed rfl Try.func74 (by kernel_rfl) (by kernel_rfl) (allL_of (l := []) (by kernel_rfl) allL_nil) (pyxref1_Within.D k) pyxref1_Within.mk pyxref1_Within.re
    (by intro args x h; replace h : pyxref1_Within.un args = some x := h; unfold pyxref1_Within.un at h; split at h; · cases h; rfl
        · cases h)
    (by intro v y h; unfold pyxref1_Within.re at h; split at h; · cases h; rfl
        · cases h)
    (fun _ => rfl) (fun x => Nat.le_of_ble_eq_true (by kernel_rfl)) (pyxref1_Within.eq k)
/-! ### pyx/pyxref1.Two: function 73 -/
noncomputable def pyxref1_Two.l2.once (k : Nat) (x : (Int × List Int)) : Option ((Int × List Int) ⊕ (List Int)) := match x with | (x1, x2) => cond (decide (x1 > 0)) ((pyxref1_AddNat.f k x2 x2).bind fun t3 => (some (.inl (IntKind.wrap .i64 (x1 - 1), t3)))) (some (.inr x2))
noncomputable def pyxref1_Two.f (k : Nat) (a0 : Int) : Option (List Int) := (iter (pyxref1_Two.l2.once k) k (a0, [1])).bind fun y5 => (some y5)
noncomputable def pyxref1_Two.un : List (AV U) → Option Int | [.flat (.int .i64 x1)] => some x1 | _ => none
noncomputable def pyxref1_Two.mk (x : Int) : List (AV U) := [.flat (.int .i64 x)]
noncomputable def pyxref1_Two.D (k : Nat) : FDen U := { X := Int, Y := List Int, un := pyxref1_Two.un, f := fun x => pyxref1_Two.f k (x), fin := fun y => .row C.i64 y }
noncomputable def pyxref1_Two.re : AV U → Option (List Int) | .row C.i64 x1 => some x1 | _ => none
noncomputable def pyxref1_Two.l2.mk (x : (Int × List Int)) : St U := match x with | (x1, x2) => ⟨[(0, .flat (.int .i64 x1)), (3, .row C.i64 x2)], []⟩
noncomputable def pyxref1_Two.l2.un (s : St U) : Option (Int × List Int) := (row_i64 (s.get 3)).bind fun q0 => (match s.get 0 with | .flat (.int .i64 x1) => some (x1, q0) | _ => none)
noncomputable def pyxref1_Two.l2.fin (y : List Int) : Out U := match y with | x4 => .exit 0 ⟨[(3, .row C.i64 x4)], []⟩
noncomputable def pyxref1_Two.l2.finK {ρ : Type} (y : List Int) (K : Out U → Option ρ) : Option ρ := match y with | x4 => K (.exit 0 ⟨[(3, .row C.i64 x4)], []⟩)
theorem pyxref1_Two.l2.finK_eq {ρ : Type} (y : List Int) (K : Out U → Option ρ) : pyxref1_Two.l2.finK y K = K (pyxref1_Two.l2.fin y) := by
  unfold pyxref1_Two.l2.finK pyxref1_Two.l2.fin
  first | rfl | (split <;> rfl)
noncomputable def pyxref1_Two.l2.re : Out U → Option (List Int) | .exit 0 s => ((row_i64 (s.get 3)).bind fun q0 => (some q0)) | _ => none
noncomputable def pyxref1_Two.l2.L (k : Nat) : LDen U := { X := (Int × List Int), Y := List Int, un := pyxref1_Two.l2.un, f := iter (pyxref1_Two.l2.once k) k, fin := pyxref1_Two.l2.fin, finK := pyxref1_Two.l2.finK, finK_eq := pyxref1_Two.l2.finK_eq }
noncomputable def pyxref1_Two.jl : List (Nat × JDen U) := []
noncomputable def pyxref1_Two.fl (k : Nat) : List (Nat × FDen U) := [(32, pyxref1_AddNat.D k)]
noncomputable def pyxref1_Two.ll (k : Nat) : List (Nat × LDen U) := [(2, pyxref1_Two.l2.L k)]
noncomputable def pyxref1_Two.E (k : Nat) : Env U := { P := Try.prog, D := DD, fd := lk (pyxref1_Two.fl k), ld := lk (pyxref1_Two.ll k), jd := lk pyxref1_Two.jl, mode := lk [], elc := lk ec, dyn := fun t => false, vecs := fun d => false, results := Try.f73.results.toList }
theorem pyxref1_Two.ok (k : Nat) : EnvOk (pyxref1_Two.E k) := envOk lawful (pyxref1_Two.fl k) (pyxref1_Two.ll k) pyxref1_Two.jl _ _ _ _ _ (by
  intro p hp
  simp only [pyxref1_Two.fl, List.mem_cons, List.not_mem_nil, or_false] at hp
  rcases hp with rfl
  · exact ⟨pyxref1_AddNat.sound k, enter_of Try.func32 (by kernel_rfl) (by kernel_rfl)⟩) (by
  intro p hp
  simp [pyxref1_Two.jl] at hp)
theorem pyxref1_Two.l2.eq (k : Nat) (x : (Int × List Int)) : evC (pyxref1_Two.E k) (loopAt Try.f73 2) (pyxref1_Two.l2.mk x) (headK pyxref1_Two.l2.un pyxref1_Two.l2.re) = pyxref1_Two.l2.once k x := by kernel_rfl
theorem pyxref1_Two.l2.fit (s : St U) (x : (Int × List Int)) (h : pyxref1_Two.l2.un s = some x) : Fits s (pyxref1_Two.l2.mk x) := by
  unfold pyxref1_Two.l2.un at h
  obtain ⟨q0, eq0, h1⟩ := Option.bind_eq_some_iff.1 h
  split at h1
  · cases h1
    refine fits_ren [] ?_ ?_ ren_nil rfl
    · exact List.forall_mem_cons.2 ⟨FV.same (by assumption) (fun _ _ _ hh => by cases hh) (fun _ hh => by cases hh), List.forall_mem_cons.2 ⟨row_i64_fit eq0, fun _ hp => (List.not_mem_nil hp).elim⟩⟩
    · exact fun _ hp => (List.not_mem_nil hp).elim
  · cases h1
theorem pyxref1_Two.l2.fitO (o : Out U) (y : List Int) (h : pyxref1_Two.l2.re o = some y) : FitsO o (pyxref1_Two.l2.fin y) := by
  unfold pyxref1_Two.l2.re at h
  split at h
  · obtain ⟨q0, eq0, h1⟩ := Option.bind_eq_some_iff.1 h
    cases h1
    refine fitsO_exit (fits_ren [] ?_ ?_ ren_nil rfl)
    · exact List.forall_mem_cons.2 ⟨row_i64_fit eq0, fun _ hp => (List.not_mem_nil hp).elim⟩
    · exact fun _ hp => (List.not_mem_nil hp).elim
  · cases h
theorem pyxref1_Two.l2.sound (k : Nat) : LSound (pyxref1_Two.E k) Try.f73.ntmps Try.f73 (loopAt Try.f73 2) (pyxref1_Two.l2.L k) :=
  loop_sound (pyxref1_Two.ok k) mixed rfl (by kernel_rfl) (allL_of (l := []) (by kernel_rfl) allL_nil) pyxref1_Two.l2.un pyxref1_Two.l2.mk pyxref1_Two.l2.fin pyxref1_Two.l2.re (pyxref1_Two.l2.once k) k pyxref1_Two.l2.fit pyxref1_Two.l2.fitO (pyxref1_Two.l2.eq k) pyxref1_Two.l2.finK pyxref1_Two.l2.finK_eq
theorem pyxref1_Two.eq (k : Nat) (x : Int) : runF (pyxref1_Two.E k) (codeOf Try.f73) (pyxref1_Two.mk x) pyxref1_Two.re = (pyxref1_Two.D k).f x := by kernel_rfl
theorem pyxref1_Two.sound (k : Nat) : Sound Try.prog DD 73 (pyxref1_Two.D k) :=
  fun_sound (E := pyxref1_Two.E k) (fn := Try.f73) (c := codeOf Try.f73) (pyxref1_Two.ok k) mixed rfl Try.func73 (by kernel_rfl) (by kernel_rfl) (allL_of (l := [loopAt Try.f73 2]) (by kernel_rfl) (allL_cons (key := 2) (by kernel_rfl) rfl (pyxref1_Two.l2.sound k) allL_nil)) (pyxref1_Two.D k) pyxref1_Two.mk pyxref1_Two.re
    (by intro args x h; replace h : pyxref1_Two.un args = some x := h; unfold pyxref1_Two.un at h; split at h; · cases h; rfl
        · cases h)
    (by intro v y h; unfold pyxref1_Two.re at h; split at h; · cases h; rfl
        · cases h)
    (fun _ => rfl) (fun x => Nat.le_of_ble_eq_true (by kernel_rfl)) (pyxref1_Two.eq k)
/-! ### pyx/pyxref1.Left: function 39 -/
noncomputable def pyxref1_Left.f (k : Nat) (a0 : (Int × Int × Int × Int)) (a1 : Int) : Option (Int × Int × Int × Int) := (pyxref1_Nat4.f k (a0.1, a0.2.1, a0.2.2.1, a0.2.2.2)).bind fun t1 => ((pyxref1_Within.f k a1 0 256).bind fun t2 => ((pyxref1_Two.f k t2).bind fun t3 => ((pyxref1_MulNat.f k t1 t3).bind fun t4 => ((pyxref1_Words4.f k t4).bind fun t5 => (some (t5.1, t5.2.1, t5.2.2.1, t5.2.2.2))))))
noncomputable def pyxref1_Left.un : List (AV U) → Option ((Int × Int × Int × Int) × Int) | [.agg [.flat (.int .u64 x1), .flat (.int .u64 x2), .flat (.int .u64 x3), .flat (.int .u64 x4)], .flat (.int .i64 x5)] => some ((x1, x2, x3, x4), x5) | _ => none
noncomputable def pyxref1_Left.mk (x : ((Int × Int × Int × Int) × Int)) : List (AV U) := [.agg [.flat (.int .u64 x.1.1), .flat (.int .u64 x.1.2.1), .flat (.int .u64 x.1.2.2.1), .flat (.int .u64 x.1.2.2.2)], .flat (.int .i64 x.2)]
noncomputable def pyxref1_Left.D (k : Nat) : FDen U := { X := ((Int × Int × Int × Int) × Int), Y := (Int × Int × Int × Int), un := pyxref1_Left.un, f := fun x => pyxref1_Left.f k (x.1) (x.2), fin := fun y => .agg [.flat (.int .u64 y.1), .flat (.int .u64 y.2.1), .flat (.int .u64 y.2.2.1), .flat (.int .u64 y.2.2.2)] }
noncomputable def pyxref1_Left.re : AV U → Option (Int × Int × Int × Int) | .agg [.flat (.int .u64 x1), .flat (.int .u64 x2), .flat (.int .u64 x3), .flat (.int .u64 x4)] => some (x1, x2, x3, x4) | _ => none
noncomputable def pyxref1_Left.jl : List (Nat × JDen U) := []
noncomputable def pyxref1_Left.fl (k : Nat) : List (Nat × FDen U) := [(37, pyxref1_Nat4.D k), (74, pyxref1_Within.D k), (73, pyxref1_Two.D k), (35, pyxref1_MulNat.D k), (34, pyxref1_Words4.D k)]
noncomputable def pyxref1_Left.ll (k : Nat) : List (Nat × LDen U) := []
noncomputable def pyxref1_Left.E (k : Nat) : Env U := { P := Try.prog, D := DD, fd := lk (pyxref1_Left.fl k), ld := lk (pyxref1_Left.ll k), jd := lk pyxref1_Left.jl, mode := lk [], elc := lk ec, dyn := fun t => false, vecs := fun d => false, results := Try.f39.results.toList }
theorem pyxref1_Left.ok (k : Nat) : EnvOk (pyxref1_Left.E k) := envOk lawful (pyxref1_Left.fl k) (pyxref1_Left.ll k) pyxref1_Left.jl _ _ _ _ _ (by
  intro p hp
  simp only [pyxref1_Left.fl, List.mem_cons, List.not_mem_nil, or_false] at hp
  rcases hp with rfl | rfl | rfl | rfl | rfl
  · exact ⟨pyxref1_Nat4.sound k, enter_of Try.func37 (by kernel_rfl) (by kernel_rfl)⟩
  · exact ⟨pyxref1_Within.sound k, enter_of Try.func74 (by kernel_rfl) (by kernel_rfl)⟩
  · exact ⟨pyxref1_Two.sound k, enter_of Try.func73 (by kernel_rfl) (by kernel_rfl)⟩
  · exact ⟨pyxref1_MulNat.sound k, enter_of Try.func35 (by kernel_rfl) (by kernel_rfl)⟩
  · exact ⟨pyxref1_Words4.sound k, enter_of Try.func34 (by kernel_rfl) (by kernel_rfl)⟩) (by
  intro p hp
  simp [pyxref1_Left.jl] at hp)
theorem pyxref1_Left.eq (k : Nat) (x : ((Int × Int × Int × Int) × Int)) : runF (pyxref1_Left.E k) (codeOf Try.f39) (pyxref1_Left.mk x) pyxref1_Left.re = (pyxref1_Left.D k).f x := by kernel_rfl
theorem pyxref1_Left.sound (k : Nat) : Sound Try.prog DD 39 (pyxref1_Left.D k) :=
  fun_sound (E := pyxref1_Left.E k) (fn := Try.f39) (c := codeOf Try.f39) (pyxref1_Left.ok k) mixed rfl Try.func39 (by kernel_rfl) (by kernel_rfl) (allL_of (l := []) (by kernel_rfl) allL_nil) (pyxref1_Left.D k) pyxref1_Left.mk pyxref1_Left.re
    (by intro args x h; replace h : pyxref1_Left.un args = some x := h; unfold pyxref1_Left.un at h; split at h; · cases h; rfl
        · cases h)
    (by intro v y h; unfold pyxref1_Left.re at h; split at h; · cases h; rfl
        · cases h)
    (fun _ => rfl) (fun x => Nat.le_of_ble_eq_true (by kernel_rfl)) (pyxref1_Left.eq k)
/-! ### pyx/pyxref1.Right: function 40 -/
noncomputable def pyxref1_Right.f (k : Nat) (a0 : (Int × Int × Int × Int)) (a1 : Int) : Option (Int × Int × Int × Int) := (pyxref1_Nat4.f k (a0.1, a0.2.1, a0.2.2.1, a0.2.2.2)).bind fun t1 => ((pyxref1_Within.f k a1 0 256).bind fun t2 => ((pyxref1_Two.f k t2).bind fun t3 => ((pyxref1_DivNat.f k t1 t3).bind fun t4 => ((pyxref1_Words4.f k t4.1).bind fun t5 => (some (t5.1, t5.2.1, t5.2.2.1, t5.2.2.2))))))
noncomputable def pyxref1_Right.un : List (AV U) → Option ((Int × Int × Int × Int) × Int) | [.agg [.flat (.int .u64 x1), .flat (.int .u64 x2), .flat (.int .u64 x3), .flat (.int .u64 x4)], .flat (.int .i64 x5)] => some ((x1, x2, x3, x4), x5) | _ => none
noncomputable def pyxref1_Right.mk (x : ((Int × Int × Int × Int) × Int)) : List (AV U) := [.agg [.flat (.int .u64 x.1.1), .flat (.int .u64 x.1.2.1), .flat (.int .u64 x.1.2.2.1), .flat (.int .u64 x.1.2.2.2)], .flat (.int .i64 x.2)]
noncomputable def pyxref1_Right.D (k : Nat) : FDen U := { X := ((Int × Int × Int × Int) × Int), Y := (Int × Int × Int × Int), un := pyxref1_Right.un, f := fun x => pyxref1_Right.f k (x.1) (x.2), fin := fun y => .agg [.flat (.int .u64 y.1), .flat (.int .u64 y.2.1), .flat (.int .u64 y.2.2.1), .flat (.int .u64 y.2.2.2)] }
noncomputable def pyxref1_Right.re : AV U → Option (Int × Int × Int × Int) | .agg [.flat (.int .u64 x1), .flat (.int .u64 x2), .flat (.int .u64 x3), .flat (.int .u64 x4)] => some (x1, x2, x3, x4) | _ => none
noncomputable def pyxref1_Right.jl : List (Nat × JDen U) := []
noncomputable def pyxref1_Right.fl (k : Nat) : List (Nat × FDen U) := [(37, pyxref1_Nat4.D k), (74, pyxref1_Within.D k), (73, pyxref1_Two.D k), (36, pyxref1_DivNat.D k), (34, pyxref1_Words4.D k)]
noncomputable def pyxref1_Right.ll (k : Nat) : List (Nat × LDen U) := []
noncomputable def pyxref1_Right.E (k : Nat) : Env U := { P := Try.prog, D := DD, fd := lk (pyxref1_Right.fl k), ld := lk (pyxref1_Right.ll k), jd := lk pyxref1_Right.jl, mode := lk [], elc := lk ec, dyn := fun t => false, vecs := fun d => false, results := Try.f40.results.toList }
theorem pyxref1_Right.ok (k : Nat) : EnvOk (pyxref1_Right.E k) := envOk lawful (pyxref1_Right.fl k) (pyxref1_Right.ll k) pyxref1_Right.jl _ _ _ _ _ (by
  intro p hp
  simp only [pyxref1_Right.fl, List.mem_cons, List.not_mem_nil, or_false] at hp
  rcases hp with rfl | rfl | rfl | rfl | rfl
  · exact ⟨pyxref1_Nat4.sound k, enter_of Try.func37 (by kernel_rfl) (by kernel_rfl)⟩
  · exact ⟨pyxref1_Within.sound k, enter_of Try.func74 (by kernel_rfl) (by kernel_rfl)⟩
  · exact ⟨pyxref1_Two.sound k, enter_of Try.func73 (by kernel_rfl) (by kernel_rfl)⟩
  · exact ⟨pyxref1_DivNat.sound k, enter_of Try.func36 (by kernel_rfl) (by kernel_rfl)⟩
  · exact ⟨pyxref1_Words4.sound k, enter_of Try.func34 (by kernel_rfl) (by kernel_rfl)⟩) (by
  intro p hp
  simp [pyxref1_Right.jl] at hp)
theorem pyxref1_Right.eq (k : Nat) (x : ((Int × Int × Int × Int) × Int)) : runF (pyxref1_Right.E k) (codeOf Try.f40) (pyxref1_Right.mk x) pyxref1_Right.re = (pyxref1_Right.D k).f x := by kernel_rfl
theorem pyxref1_Right.sound (k : Nat) : Sound Try.prog DD 40 (pyxref1_Right.D k) :=
  fun_sound (E := pyxref1_Right.E k) (fn := Try.f40) (c := codeOf Try.f40) (pyxref1_Right.ok k) mixed rfl Try.func40 (by kernel_rfl) (by kernel_rfl) (allL_of (l := []) (by kernel_rfl) allL_nil) (pyxref1_Right.D k) pyxref1_Right.mk pyxref1_Right.re
    (by intro args x h; replace h : pyxref1_Right.un args = some x := h; unfold pyxref1_Right.un at h; split at h; · cases h; rfl
        · cases h)
    (by intro v y h; unfold pyxref1_Right.re at h; split at h; · cases h; rfl
        · cases h)
    (fun _ => rfl) (fun x => Nat.le_of_ble_eq_true (by kernel_rfl)) (pyxref1_Right.eq k)
/-! ### pyx/pyxref1.Bits: function 41 -/
noncomputable def pyxref1_Bits.l4.once (k : Nat) (x : (List Int × List Int × Int)) : Option ((List Int × List Int × Int) ⊕ (Int)) := match x with | (x2, x3, x4) => (pyxref1_CmpNat.f k x3 x2).bind fun t5 => (cond (decide (t5 ≤ 0)) ((pyxref1_AddNat.f k x3 x3).bind fun t6 => (some (.inl (x2, t6, IntKind.wrap .i64 (x4 + 1))))) (some (.inr x4)))
noncomputable def pyxref1_Bits.f (k : Nat) (a0 : (Int × Int × Int × Int)) : Option Int := (pyxref1_Nat4.f k (a0.1, a0.2.1, a0.2.2.1, a0.2.2.2)).bind fun t1 => ((iter (pyxref1_Bits.l4.once k) k (t1, [1], 0)).bind fun y8 => (some y8))
noncomputable def pyxref1_Bits.un : List (AV U) → Option (Int × Int × Int × Int) | [.agg [.flat (.int .u64 x1), .flat (.int .u64 x2), .flat (.int .u64 x3), .flat (.int .u64 x4)]] => some (x1, x2, x3, x4) | _ => none
noncomputable def pyxref1_Bits.mk (x : (Int × Int × Int × Int)) : List (AV U) := [.agg [.flat (.int .u64 x.1), .flat (.int .u64 x.2.1), .flat (.int .u64 x.2.2.1), .flat (.int .u64 x.2.2.2)]]
noncomputable def pyxref1_Bits.D (k : Nat) : FDen U := { X := (Int × Int × Int × Int), Y := Int, un := pyxref1_Bits.un, f := fun x => pyxref1_Bits.f k (x), fin := fun y => .flat (.int .i64 y) }
noncomputable def pyxref1_Bits.re : AV U → Option Int | .flat (.int .i64 x1) => some x1 | _ => none
noncomputable def pyxref1_Bits.l4.mk (x : (List Int × List Int × Int)) : St U := match x with | (x2, x3, x4) => ⟨[(3, .row C.i64 x2), (4, .row C.i64 x3), (5, .flat (.int .i64 x4))], []⟩
noncomputable def pyxref1_Bits.l4.un (s : St U) : Option (List Int × List Int × Int) := (row_i64 (s.get 3)).bind fun q0 => ((row_i64 (s.get 4)).bind fun q1 => (match s.get 5 with | .flat (.int .i64 x4) => some (q0, q1, x4) | _ => none))
noncomputable def pyxref1_Bits.l4.fin (y : Int) : Out U := match y with | x7 => .exit 0 ⟨[(5, .flat (.int .i64 x7))], []⟩
noncomputable def pyxref1_Bits.l4.finK {ρ : Type} (y : Int) (K : Out U → Option ρ) : Option ρ := match y with | x7 => K (.exit 0 ⟨[(5, .flat (.int .i64 x7))], []⟩)
theorem pyxref1_Bits.l4.finK_eq {ρ : Type} (y : Int) (K : Out U → Option ρ) : pyxref1_Bits.l4.finK y K = K (pyxref1_Bits.l4.fin y) := by
  unfold pyxref1_Bits.l4.finK pyxref1_Bits.l4.fin
  first | rfl | (split <;> rfl)
noncomputable def pyxref1_Bits.l4.re : Out U → Option (Int) | .exit 0 s => (match s.get 5 with | .flat (.int .i64 x7) => some x7 | _ => none) | _ => none
noncomputable def pyxref1_Bits.l4.L (k : Nat) : LDen U := { X := (List Int × List Int × Int), Y := Int, un := pyxref1_Bits.l4.un, f := iter (pyxref1_Bits.l4.once k) k, fin := pyxref1_Bits.l4.fin, finK := pyxref1_Bits.l4.finK, finK_eq := pyxref1_Bits.l4.finK_eq }
noncomputable def pyxref1_Bits.jl : List (Nat × JDen U) := []
noncomputable def pyxref1_Bits.fl (k : Nat) : List (Nat × FDen U) := [(37, pyxref1_Nat4.D k), (33, pyxref1_CmpNat.D k), (32, pyxref1_AddNat.D k)]
noncomputable def pyxref1_Bits.ll (k : Nat) : List (Nat × LDen U) := [(4, pyxref1_Bits.l4.L k)]
noncomputable def pyxref1_Bits.E (k : Nat) : Env U := { P := Try.prog, D := DD, fd := lk (pyxref1_Bits.fl k), ld := lk (pyxref1_Bits.ll k), jd := lk pyxref1_Bits.jl, mode := lk [], elc := lk ec, dyn := fun t => false, vecs := fun d => false, results := Try.f41.results.toList }
theorem pyxref1_Bits.ok (k : Nat) : EnvOk (pyxref1_Bits.E k) := envOk lawful (pyxref1_Bits.fl k) (pyxref1_Bits.ll k) pyxref1_Bits.jl _ _ _ _ _ (by
  intro p hp
  simp only [pyxref1_Bits.fl, List.mem_cons, List.not_mem_nil, or_false] at hp
  rcases hp with rfl | rfl | rfl
  · exact ⟨pyxref1_Nat4.sound k, enter_of Try.func37 (by kernel_rfl) (by kernel_rfl)⟩
  · exact ⟨pyxref1_CmpNat.sound k, enter_of Try.func33 (by kernel_rfl) (by kernel_rfl)⟩
  · exact ⟨pyxref1_AddNat.sound k, enter_of Try.func32 (by kernel_rfl) (by kernel_rfl)⟩) (by
  intro p hp
  simp [pyxref1_Bits.jl] at hp)
theorem pyxref1_Bits.l4.eq (k : Nat) (x : (List Int × List Int × Int)) : evC (pyxref1_Bits.E k) (loopAt Try.f41 4) (pyxref1_Bits.l4.mk x) (headK pyxref1_Bits.l4.un pyxref1_Bits.l4.re) = pyxref1_Bits.l4.once k x := by kernel_rfl
theorem pyxref1_Bits.l4.fit (s : St U) (x : (List Int × List Int × Int)) (h : pyxref1_Bits.l4.un s = some x) : Fits s (pyxref1_Bits.l4.mk x) := by
  unfold pyxref1_Bits.l4.un at h
  obtain ⟨q0, eq0, h1⟩ := Option.bind_eq_some_iff.1 h
  obtain ⟨q1, eq1, h2⟩ := Option.bind_eq_some_iff.1 h1
  split at h2
  · cases h2
    refine fits_ren [] ?_ ?_ ren_nil rfl
    · exact List.forall_mem_cons.2 ⟨row_i64_fit eq0, List.forall_mem_cons.2 ⟨row_i64_fit eq1, List.forall_mem_cons.2 ⟨FV.same (by assumption) (fun _ _ _ hh => by cases hh) (fun _ hh => by cases hh), fun _ hp => (List.not_mem_nil hp).elim⟩⟩⟩
    · exact fun _ hp => (List.not_mem_nil hp).elim
  · cases h2
theorem pyxref1_Bits.l4.fitO (o : Out U) (y : Int) (h : pyxref1_Bits.l4.re o = some y) : FitsO o (pyxref1_Bits.l4.fin y) := by
  unfold pyxref1_Bits.l4.re at h
  split at h
  · split at h
    · cases h
      refine fitsO_exit (fits_ren [] ?_ ?_ ren_nil rfl)
      · exact List.forall_mem_cons.2 ⟨FV.same (by assumption) (fun _ _ _ hh => by cases hh) (fun _ hh => by cases hh), fun _ hp => (List.not_mem_nil hp).elim⟩
      · exact fun _ hp => (List.not_mem_nil hp).elim
    · cases h
  · cases h
theorem pyxref1_Bits.l4.sound (k : Nat) : LSound (pyxref1_Bits.E k) Try.f41.ntmps Try.f41 (loopAt Try.f41 4) (pyxref1_Bits.l4.L k) :=
  loop_sound (pyxref1_Bits.ok k) mixed rfl (by kernel_rfl) (allL_of (l := []) (by kernel_rfl) allL_nil) pyxref1_Bits.l4.un pyxref1_Bits.l4.mk pyxref1_Bits.l4.fin pyxref1_Bits.l4.re (pyxref1_Bits.l4.once k) k pyxref1_Bits.l4.fit pyxref1_Bits.l4.fitO (pyxref1_Bits.l4.eq k) pyxref1_Bits.l4.finK pyxref1_Bits.l4.finK_eq
theorem pyxref1_Bits.eq (k : Nat) (x : (Int × Int × Int × Int)) : runF (pyxref1_Bits.E k) (codeOf Try.f41) (pyxref1_Bits.mk x) pyxref1_Bits.re = (pyxref1_Bits.D k).f x := by kernel_rfl
theorem pyxref1_Bits.sound (k : Nat) : Sound Try.prog DD 41 (pyxref1_Bits.D k) :=
  fun_sound (E := pyxref1_Bits.E k) (fn := Try.f41) (c := codeOf Try.f41) (pyxref1_Bits.ok k) mixed rfl Try.func41 (by kernel_rfl) (by kernel_rfl) (allL_of (l := [loopAt Try.f41 4]) (by kernel_rfl) (allL_cons (key := 4) (by kernel_rfl) rfl (pyxref1_Bits.l4.sound k) allL_nil)) (pyxref1_Bits.D k) pyxref1_Bits.mk pyxref1_Bits.re
    (by intro args x h; replace h : pyxref1_Bits.un args = some x := h; unfold pyxref1_Bits.un at h; split at h; · cases h; rfl
        · cases h)
    (by intro v y h; unfold pyxref1_Bits.re at h; split at h; · cases h; rfl
        · cases h)
    (fun _ => rfl) (fun x => Nat.le_of_ble_eq_true (by kernel_rfl)) (pyxref1_Bits.eq k)
end
end Go.Proofs.Ythknecaigoilmaa
