import Derived.Test.YtlaogfkgkpgofaaF1
/-! Functions, told; their equations with the evaluator; that they are sound. Written by gen.py. -/
namespace Go.Proofs.Ytlaogfkgkpgofaa
open Go Go.Ev
noncomputable section
set_option linter.unusedVariables false
set_option linter.unusedSimpArgs false
set_option maxRecDepth 100000
/-! ### pyx/pyxref1.AddNat: function 117 -/
noncomputable def pyxref1_AddNat.l4.once (k : Nat) (x : (List Int × List Int × List Int × Int × Int)) : Option ((List Int × List Int × List Int × Int × Int) ⊕ (List Int)) := match x with | (x1, x2, x3, x4, x5) => ((cond (decide (x5 < (List.length x1 : Int))) (some (x1, x2, x3, x4, x5, true)) (cond (decide (x5 < (List.length x2 : Int))) (some (x1, x2, x3, x4, x5, true)) (some (x1, x2, x3, x4, x5, decide (x4 > 0))))) : Option (List Int × List Int × List Int × Int × Int × Bool)).bind fun y12 => (cond (y12.2.2.2.2.2) ((pyxref1_digit.f k y12.1 y12.2.2.2.2.1).bind fun t13 => ((pyxref1_digit.f k y12.2.1 y12.2.2.2.2.1).bind fun t14 => (cond (okLen (List.length y12.2.2.1 + List.length [Int.tmod (IntKind.wrap .i64 ((IntKind.wrap .i64 (t13 + t14)) + y12.2.2.2.1)) 10]) 8) (some (.inl (y12.1, y12.2.1, y12.2.2.1 ++ [Int.tmod (IntKind.wrap .i64 ((IntKind.wrap .i64 (t13 + t14)) + y12.2.2.2.1)) 10], IntKind.wrap .i64 (Int.tdiv (IntKind.wrap .i64 ((IntKind.wrap .i64 (t13 + t14)) + y12.2.2.2.1)) 10), IntKind.wrap .i64 (y12.2.2.2.2.1 + 1)))) none))) (some (.inr y12.2.2.1)))
noncomputable def pyxref1_AddNat.f (k : Nat) (a0 : List Int) (a1 : List Int) : Option (List Int) := (iter (pyxref1_AddNat.l4.once k) k (a0, a1, ([] : List Int), 0, 0)).bind fun y16 => ((pyxref1_trim.f k y16).bind fun t17 => (some t17))
noncomputable def pyxref1_AddNat.un (s : St U) : Option (List Int × List Int) := match s.get 0, s.get 1 with | .row C.i64 x1, .row C.i64 x2 => some (x1, x2) | _, _ => none
noncomputable def pyxref1_AddNat.mk (x : (List Int × List Int)) : St U := ⟨[(0, .row C.i64 x.1), (1, .row C.i64 x.2)], []⟩
noncomputable def pyxref1_AddNat.fin (y : List Int) : St U := ⟨[(0, .row C.i64 y)], []⟩
noncomputable def pyxref1_AddNat.D (k : Nat) : FDen U := { X := (List Int × List Int), Y := List Int, nt := 43, gh := [], un := pyxref1_AddNat.un, f := fun x => pyxref1_AddNat.f k (x.1) (x.2), fin := pyxref1_AddNat.fin, cl := true, clo := fun _ _ => rfl }
noncomputable def pyxref1_AddNat.re (s : St U) : Option (List Int) := match s.get 0 with | .row C.i64 x1 => some x1 | _ => none
noncomputable def pyxref1_AddNat.l4.mk (x : (List Int × List Int × List Int × Int × Int)) : St U := match x with | (x1, x2, x3, x4, x5) => ⟨[(0, .row C.i64 x1), (1, .row C.i64 x2), (5, .tip 1004005 C.i64 x3), (6, .flat (.int .i64 x4)), (7, .flat (.int .i64 x5))], [(1004005, .tip 1)]⟩
noncomputable def pyxref1_AddNat.l4.un (s : St U) : Option (List Int × List Int × List Int × Int × Int) := (row_i64 (s.get 0)).bind fun q0 => ((row_i64 (s.get 1)).bind fun q1 => ((tip_i64 s.o 1 (s.get 5)).bind fun q2 => (match s.get 6, s.get 7 with | .flat (.int .i64 x4), .flat (.int .i64 x5) => some (q0, q1, q2.2, x4, x5) | _, _ => none)))
noncomputable def pyxref1_AddNat.l4.fin (y : List Int) : Out U := match y with | x15 => .exit 0 ⟨[(5, .tip 1004005 C.i64 x15)], [(1004005, .tip 1)]⟩
noncomputable def pyxref1_AddNat.l4.finK {ρ : Type} (y : List Int) (K : Out U → Option ρ) : Option ρ := match y with | x15 => K (.exit 0 ⟨[(5, .tip 1004005 C.i64 x15)], [(1004005, .tip 1)]⟩)
theorem pyxref1_AddNat.l4.finK_eq {ρ : Type} (y : List Int) (K : Out U → Option ρ) : pyxref1_AddNat.l4.finK y K = K (pyxref1_AddNat.l4.fin y) := by
  unfold pyxref1_AddNat.l4.finK pyxref1_AddNat.l4.fin
  first | rfl | (split <;> rfl)
noncomputable def pyxref1_AddNat.l4.re : Out U → Option (List Int) | .exit 0 s => ((tip_i64 s.o 1 (s.get 5)).bind fun q0 => (some q0.2)) | _ => none
noncomputable def pyxref1_AddNat.l4.L (k : Nat) : LDen U := { X := (List Int × List Int × List Int × Int × Int), Y := List Int, un := pyxref1_AddNat.l4.un, f := iter (pyxref1_AddNat.l4.once k) k, fin := pyxref1_AddNat.l4.fin, finK := pyxref1_AddNat.l4.finK, finK_eq := pyxref1_AddNat.l4.finK_eq }
noncomputable def pyxref1_AddNat.j4000.fin (y : (List Int × List Int × List Int × Int × Int × Bool)) : Out U := match y with | (x6, x7, x8, x9, x10, x11) => .norm ⟨[(0, .row C.i64 x6), (1, .row C.i64 x7), (5, .tip 1005000005 C.i64 x8), (6, .flat (.int .i64 x9)), (7, .flat (.int .i64 x10)), (22, .flat (.bool x11))], [(1005000005, .tip 1)]⟩
noncomputable def pyxref1_AddNat.j4000.finK {ρ : Type} (y : (List Int × List Int × List Int × Int × Int × Bool)) (K : Out U → Option ρ) : Option ρ := match y with | (x6, x7, x8, x9, x10, x11) => K (.norm ⟨[(0, .row C.i64 x6), (1, .row C.i64 x7), (5, .tip 1005000005 C.i64 x8), (6, .flat (.int .i64 x9)), (7, .flat (.int .i64 x10)), (22, .flat (.bool x11))], [(1005000005, .tip 1)]⟩)
theorem pyxref1_AddNat.j4000.finK_eq {ρ : Type} (y : (List Int × List Int × List Int × Int × Int × Bool)) (K : Out U → Option ρ) : pyxref1_AddNat.j4000.finK y K = K (pyxref1_AddNat.j4000.fin y) := by
  unfold pyxref1_AddNat.j4000.finK pyxref1_AddNat.j4000.fin
  first | rfl | (split <;> rfl)
noncomputable def pyxref1_AddNat.j4000.re : Out U → Option ((List Int × List Int × List Int × Int × Int × Bool)) | .norm s => ((row_i64 (s.get 0)).bind fun q0 => ((row_i64 (s.get 1)).bind fun q1 => ((tip_i64 s.o 1 (s.get 5)).bind fun q2 => (match s.get 6, s.get 7, s.get 22 with | .flat (.int .i64 x9), .flat (.int .i64 x10), .flat (.bool x11) => some (q0, q1, q2.2, x9, x10, x11) | _, _, _ => none)))) | _ => none
noncomputable def pyxref1_AddNat.j4000.J : JDen U := { Y := (List Int × List Int × List Int × Int × Int × Bool), re := pyxref1_AddNat.j4000.re, fin := pyxref1_AddNat.j4000.fin, finK := pyxref1_AddNat.j4000.finK, finK_eq := pyxref1_AddNat.j4000.finK_eq }
theorem pyxref1_AddNat.j4000.fit (o : Out U) (y : (List Int × List Int × List Int × Int × Int × Bool)) (h : pyxref1_AddNat.j4000.re o = some y) : FitsO o (pyxref1_AddNat.j4000.fin y) := by
  unfold pyxref1_AddNat.j4000.re at h
  split at h
  · obtain ⟨q0, eq0, h1⟩ := Option.bind_eq_some_iff.1 h
    obtain ⟨q1, eq1, h2⟩ := Option.bind_eq_some_iff.1 h1
    obtain ⟨q2, eq2, h3⟩ := Option.bind_eq_some_iff.1 h2
    split at h3
    · cases h3
      refine fitsO_norm (fits_ren [(1005000005, q2.1)] ?_ ?_ ren_one rfl)
      · exact List.forall_mem_cons.2 ⟨FV.one (row_i64_fit eq0), List.forall_mem_cons.2 ⟨FV.one (row_i64_fit eq1), List.forall_mem_cons.2 ⟨FV.one (tip_i64_fit eq2 rfl).1, List.forall_mem_cons.2 ⟨FV.one (FV.same (by assumption) rfl), List.forall_mem_cons.2 ⟨FV.one (FV.same (by assumption) rfl), List.forall_mem_cons.2 ⟨FV.one (FV.same (by assumption) rfl), fun _ hp => (List.not_mem_nil hp).elim⟩⟩⟩⟩⟩⟩
      · exact List.forall_mem_cons.2 ⟨(tip_i64_fit eq2 rfl).2, fun _ hp => (List.not_mem_nil hp).elim⟩
    · cases h3
  · cases h
noncomputable def pyxref1_AddNat.jl : List (Nat × JDen U) := [(4000, pyxref1_AddNat.j4000.J)]
noncomputable def pyxref1_AddNat.fl (k : Nat) : List (Nat × FDen U) := [(145, pyxref1_digit.D k), (146, pyxref1_trim.D k)]
noncomputable def pyxref1_AddNat.ll (k : Nat) : List (Nat × LDen U) := [(4, pyxref1_AddNat.l4.L k)]
noncomputable def pyxref1_AddNat.E (k : Nat) : Env U := { P := Try.prog, D := DD, fd := lk (pyxref1_AddNat.fl k), sf := lk sl0, ld := lk (pyxref1_AddNat.ll k), jd := lk pyxref1_AddNat.jl, mode := lk [], elc := lk ec, mpc := lk mc, rts := Try.f117.resultTypes.toList, dyn := fun t => false, vecs := fun d => false, results := Try.f117.results.toList, gh := [], own := false, io := fun g i => false }
theorem pyxref1_AddNat.ok (k : Nat) : EnvOk (pyxref1_AddNat.E k) := envOk lawful (pyxref1_AddNat.fl k) sl0 (pyxref1_AddNat.ll k) pyxref1_AddNat.jl _ _ _ _ _ _ _ _ _ _ (by
  intro p hp
  simp only [pyxref1_AddNat.fl, List.mem_cons, List.not_mem_nil, or_false] at hp
  rcases hp with rfl | rfl
  · exact ⟨pyxref1_digit.sound k, enter_of Try.func145 (by kernel_rfl) (by kernel_rfl)⟩
  · exact ⟨pyxref1_trim.sound k, enter_of Try.func146 (by kernel_rfl) (by kernel_rfl)⟩) sl0_ok (by
  intro p hp
  simp only [pyxref1_AddNat.jl, List.mem_cons, List.not_mem_nil, or_false] at hp
  rcases hp with rfl
  · exact pyxref1_AddNat.j4000.fit)
theorem pyxref1_AddNat.l4.eq (k : Nat) (x : (List Int × List Int × List Int × Int × Int)) : evC (pyxref1_AddNat.E k) (loopAt Try.f117 4) (pyxref1_AddNat.l4.mk x) (headK pyxref1_AddNat.l4.un pyxref1_AddNat.l4.re) = pyxref1_AddNat.l4.once k x := by kernel_rfl
theorem pyxref1_AddNat.l4.fit (s : St U) (x : (List Int × List Int × List Int × Int × Int)) (h : pyxref1_AddNat.l4.un s = some x) : Fits s (pyxref1_AddNat.l4.mk x) := by
  unfold pyxref1_AddNat.l4.un at h
  obtain ⟨q0, eq0, h1⟩ := Option.bind_eq_some_iff.1 h
  obtain ⟨q1, eq1, h2⟩ := Option.bind_eq_some_iff.1 h1
  obtain ⟨q2, eq2, h3⟩ := Option.bind_eq_some_iff.1 h2
  split at h3
  · cases h3
    refine fits_ren [(1004005, q2.1)] ?_ ?_ ren_one rfl
    · exact List.forall_mem_cons.2 ⟨FV.one (row_i64_fit eq0), List.forall_mem_cons.2 ⟨FV.one (row_i64_fit eq1), List.forall_mem_cons.2 ⟨FV.one (tip_i64_fit eq2 rfl).1, List.forall_mem_cons.2 ⟨FV.one (FV.same (by assumption) rfl), List.forall_mem_cons.2 ⟨FV.one (FV.same (by assumption) rfl), fun _ hp => (List.not_mem_nil hp).elim⟩⟩⟩⟩⟩
    · exact List.forall_mem_cons.2 ⟨(tip_i64_fit eq2 rfl).2, fun _ hp => (List.not_mem_nil hp).elim⟩
  · cases h3
theorem pyxref1_AddNat.l4.fitO (o : Out U) (y : List Int) (h : pyxref1_AddNat.l4.re o = some y) : FitsO o (pyxref1_AddNat.l4.fin y) := by
  unfold pyxref1_AddNat.l4.re at h
  split at h
  · obtain ⟨q0, eq0, h1⟩ := Option.bind_eq_some_iff.1 h
    cases h1
    refine fitsO_exit (fits_ren [(1004005, q0.1)] ?_ ?_ ren_one rfl)
    · exact List.forall_mem_cons.2 ⟨FV.one (tip_i64_fit eq0 rfl).1, fun _ hp => (List.not_mem_nil hp).elim⟩
    · exact List.forall_mem_cons.2 ⟨(tip_i64_fit eq0 rfl).2, fun _ hp => (List.not_mem_nil hp).elim⟩
  · cases h
theorem pyxref1_AddNat.l4.sound (k : Nat) : LSound (pyxref1_AddNat.E k) Try.f117.ntmps Try.f117 (loopAt Try.f117 4) (pyxref1_AddNat.l4.L k) :=
  loop_sound (pyxref1_AddNat.ok k) mixed rfl (by kernel_rfl) (allL_of (l := []) (by kernel_rfl) allL_nil) pyxref1_AddNat.l4.un pyxref1_AddNat.l4.mk pyxref1_AddNat.l4.fin pyxref1_AddNat.l4.re (pyxref1_AddNat.l4.once k) k pyxref1_AddNat.l4.fit pyxref1_AddNat.l4.fitO (pyxref1_AddNat.l4.eq k) pyxref1_AddNat.l4.finK pyxref1_AddNat.l4.finK_eq
theorem pyxref1_AddNat.eq (k : Nat) (x : (List Int × List Int)) : runF (pyxref1_AddNat.E k) (codeOf Try.f117) (pyxref1_AddNat.mk x) pyxref1_AddNat.re = (pyxref1_AddNat.D k).f x := by kernel_rfl
theorem pyxref1_AddNat.fit (s : St U) (x : (List Int × List Int)) (h : pyxref1_AddNat.un s = some x) : Fits s (pyxref1_AddNat.mk x) := by
  unfold pyxref1_AddNat.un at h
  split at h
  · cases h
    refine fits_ren [] ?_ ?_ ren_nil rfl
    · exact List.forall_mem_cons.2 ⟨FV.one (FV.same (by assumption) rfl), List.forall_mem_cons.2 ⟨FV.one (FV.same (by assumption) rfl), fun _ hp => (List.not_mem_nil hp).elim⟩⟩
    · exact fun _ hp => (List.not_mem_nil hp).elim
  · cases h
theorem pyxref1_AddNat.fitR (s : St U) (y : List Int) (h : pyxref1_AddNat.re s = some y) : Fits s (pyxref1_AddNat.fin y) := by
  unfold pyxref1_AddNat.re at h
  split at h
  · cases h
    refine fits_ren [] ?_ ?_ ren_nil rfl
    · exact List.forall_mem_cons.2 ⟨FV.one (FV.same (by assumption) rfl), fun _ hp => (List.not_mem_nil hp).elim⟩
    · exact fun _ hp => (List.not_mem_nil hp).elim
  · cases h
theorem pyxref1_AddNat.sound (k : Nat) : Sound Try.prog DD 117 (pyxref1_AddNat.D k) :=
  fun_sound (E := pyxref1_AddNat.E k) (fn := Try.f117) (c := codeOf Try.f117) (pyxref1_AddNat.ok k) mixed rfl Try.func117 (by kernel_rfl) (by kernel_rfl) (allL_of (l := [loopAt Try.f117 4]) (by kernel_rfl) (allL_cons (key := 4) (by kernel_rfl) rfl (pyxref1_AddNat.l4.sound k) allL_nil)) (pyxref1_AddNat.D k) pyxref1_AddNat.mk pyxref1_AddNat.re (by kernel_rfl) (by kernel_rfl) pyxref1_AddNat.fit pyxref1_AddNat.fitR (pyxref1_AddNat.eq k)
/-! ### pyx/pyxref1.radix: function 138 -/
noncomputable def pyxref1_radix.f (k : Nat)  : Option (List Int) := (pyxref1_Word.f k 18446744073709551615).bind fun t1 => ((pyxref1_AddNat.f k t1 [1]).bind fun t2 => (some t2))
noncomputable def pyxref1_radix.un (s : St U) : Option Unit := some ()
noncomputable def pyxref1_radix.mk (x : Unit) : St U := ⟨[], []⟩
noncomputable def pyxref1_radix.fin (y : List Int) : St U := ⟨[(0, .row C.i64 y)], []⟩
noncomputable def pyxref1_radix.D (k : Nat) : FDen U := { X := Unit, Y := List Int, nt := 4, gh := [], un := pyxref1_radix.un, f := fun x => pyxref1_radix.f k , fin := pyxref1_radix.fin, cl := true, clo := fun _ _ => rfl }
noncomputable def pyxref1_radix.re (s : St U) : Option (List Int) := match s.get 0 with | .row C.i64 x1 => some x1 | _ => none
noncomputable def pyxref1_radix.jl : List (Nat × JDen U) := []
noncomputable def pyxref1_radix.fl (k : Nat) : List (Nat × FDen U) := [(59, pyxref1_Word.D k), (117, pyxref1_AddNat.D k)]
noncomputable def pyxref1_radix.ll (k : Nat) : List (Nat × LDen U) := []
noncomputable def pyxref1_radix.E (k : Nat) : Env U := { P := Try.prog, D := DD, fd := lk (pyxref1_radix.fl k), sf := lk sl0, ld := lk (pyxref1_radix.ll k), jd := lk pyxref1_radix.jl, mode := lk [], elc := lk ec, mpc := lk mc, rts := Try.f138.resultTypes.toList, dyn := fun t => false, vecs := fun d => false, results := Try.f138.results.toList, gh := [], own := false, io := fun g i => false }
theorem pyxref1_radix.ok (k : Nat) : EnvOk (pyxref1_radix.E k) := envOk lawful (pyxref1_radix.fl k) sl0 (pyxref1_radix.ll k) pyxref1_radix.jl _ _ _ _ _ _ _ _ _ _ (by
  intro p hp
  simp only [pyxref1_radix.fl, List.mem_cons, List.not_mem_nil, or_false] at hp
  rcases hp with rfl | rfl
  · exact ⟨pyxref1_Word.sound k, enter_of Try.func59 (by kernel_rfl) (by kernel_rfl)⟩
  · exact ⟨pyxref1_AddNat.sound k, enter_of Try.func117 (by kernel_rfl) (by kernel_rfl)⟩) sl0_ok (by
  intro p hp
  simp [pyxref1_radix.jl] at hp)
theorem pyxref1_radix.eq (k : Nat) (x : Unit) : runF (pyxref1_radix.E k) (codeOf Try.f138) (pyxref1_radix.mk x) pyxref1_radix.re = (pyxref1_radix.D k).f x := by kernel_rfl
theorem pyxref1_radix.fit (s : St U) (x : Unit) (h : pyxref1_radix.un s = some x) : Fits s (pyxref1_radix.mk x) := by
  unfold pyxref1_radix.un at h
  cases h
  refine fits_ren [] ?_ ?_ ren_nil rfl
  · exact fun _ hp => (List.not_mem_nil hp).elim
  · exact fun _ hp => (List.not_mem_nil hp).elim
theorem pyxref1_radix.fitR (s : St U) (y : List Int) (h : pyxref1_radix.re s = some y) : Fits s (pyxref1_radix.fin y) := by
  unfold pyxref1_radix.re at h
  split at h
  · cases h
    refine fits_ren [] ?_ ?_ ren_nil rfl
    · exact List.forall_mem_cons.2 ⟨FV.one (FV.same (by assumption) rfl), fun _ hp => (List.not_mem_nil hp).elim⟩
    · exact fun _ hp => (List.not_mem_nil hp).elim
  · cases h
theorem pyxref1_radix.sound (k : Nat) : Sound Try.prog DD 138 (pyxref1_radix.D k) :=
  fun_sound (E := pyxref1_radix.E k) (fn := Try.f138) (c := codeOf Try.f138) (pyxref1_radix.ok k) mixed rfl Try.func138 (by kernel_rfl) (by kernel_rfl) (allL_of (l := []) (by kernel_rfl) allL_nil) (pyxref1_radix.D k) pyxref1_radix.mk pyxref1_radix.re (by kernel_rfl) (by kernel_rfl) pyxref1_radix.fit pyxref1_radix.fitR (pyxref1_radix.eq k)
/-! ### pyx/pyxref1.MulNat: function 112 -/
noncomputable def pyxref1_MulNat.l7.once (k : Nat) (x : (List Int × List Int × Int × Int × Int × List Int)) : Option ((List Int × List Int × Int × Int × Int × List Int) ⊕ ((List Int × List Int × Int × List Int))) := match x with | (x5, x6, x8, x9, x10, x7) => ((cond (decide (x10 < (List.length x6 : Int))) (some (x5, x6, x8, x9, x10, true, x7)) (some (x5, x6, x8, x9, x10, decide (x9 > 0), x7))) : Option (List Int × List Int × Int × Int × Int × Bool × List Int)).bind fun y18 => (cond (y18.2.2.2.2.2.1) (cond (inb (IntKind.wrap .i64 (y18.2.2.1 + y18.2.2.2.2.1)) (List.length y18.2.2.2.2.2.2)) (cond (Nat.blt (Int.toNat (IntKind.wrap .i64 (y18.2.2.1 + y18.2.2.2.2.1))) (List.length y18.2.2.2.2.2.2)) (cond (inb y18.2.2.1 (List.length y18.1)) ((pyxref1_digit.f k y18.2.1 y18.2.2.2.2.1).bind fun t19 => (cond (inb (IntKind.wrap .i64 (y18.2.2.1 + y18.2.2.2.2.1)) (List.length y18.2.2.2.2.2.2)) (cond (Nat.blt (Int.toNat (IntKind.wrap .i64 (y18.2.2.1 + y18.2.2.2.2.1))) (List.length y18.2.2.2.2.2.2)) (some (.inl (y18.1, y18.2.1, y18.2.2.1, IntKind.wrap .i64 (Int.tdiv (IntKind.wrap .i64 ((IntKind.wrap .i64 ((List.getD y18.2.2.2.2.2.2 (Int.toNat (IntKind.wrap .i64 (y18.2.2.1 + y18.2.2.2.2.1))) 0) + (IntKind.wrap .i64 ((List.getD y18.1 (Int.toNat y18.2.2.1) 0) * t19)))) + y18.2.2.2.1)) 10), IntKind.wrap .i64 (y18.2.2.2.2.1 + 1), List.set y18.2.2.2.2.2.2 (Int.toNat (IntKind.wrap .i64 (y18.2.2.1 + y18.2.2.2.2.1))) (Int.tmod (IntKind.wrap .i64 ((IntKind.wrap .i64 ((List.getD y18.2.2.2.2.2.2 (Int.toNat (IntKind.wrap .i64 (y18.2.2.1 + y18.2.2.2.2.1))) 0) + (IntKind.wrap .i64 ((List.getD y18.1 (Int.toNat y18.2.2.1) 0) * t19)))) + y18.2.2.2.1)) 10)))) none) none)) none) none) none) (some (.inr (y18.1, y18.2.1, y18.2.2.1, y18.2.2.2.2.2.2))))
noncomputable def pyxref1_MulNat.l3.once (k : Nat) (x : (List Int × List Int × Int × List Int)) : Option ((List Int × List Int × Int × List Int) ⊕ (List Int)) := match x with | (x1, x2, x4, x3) => cond (decide (x4 < (List.length x1 : Int))) ((iter (pyxref1_MulNat.l7.once k) k (x1, x2, x4, 0, 0, x3)).bind fun y24 => (some (.inl (y24.1, y24.2.1, IntKind.wrap .i64 (y24.2.2.1 + 1), y24.2.2.2)))) (some (.inr x3))
noncomputable def pyxref1_MulNat.f (k : Nat) (a0 : List Int) (a1 : List Int) : Option (List Int) := cond ((decide (0 ≤ IntKind.wrap .i64 ((IntKind.wrap .i64 ((List.length a0 : Int) + (List.length a1 : Int))) + 1)) && decide (IntKind.wrap .i64 ((IntKind.wrap .i64 ((List.length a0 : Int) + (List.length a1 : Int))) + 1) = IntKind.wrap .i64 ((IntKind.wrap .i64 ((List.length a0 : Int) + (List.length a1 : Int))) + 1))) && decide ((IntKind.wrap .i64 ((IntKind.wrap .i64 ((List.length a0 : Int) + (List.length a1 : Int))) + 1)) * 8 ≤ 140737488355328)) ((iter (pyxref1_MulNat.l3.once k) k (a0, a1, 0, List.replicate (Int.toNat (IntKind.wrap .i64 ((IntKind.wrap .i64 ((List.length a0 : Int) + (List.length a1 : Int))) + 1))) (0 : Int))).bind fun y26 => ((pyxref1_trim.f k y26).bind fun t27 => (some t27))) none
noncomputable def pyxref1_MulNat.un (s : St U) : Option (List Int × List Int) := match s.get 0, s.get 1 with | .row C.i64 x1, .row C.i64 x2 => some (x1, x2) | _, _ => none
noncomputable def pyxref1_MulNat.mk (x : (List Int × List Int)) : St U := ⟨[(0, .row C.i64 x.1), (1, .row C.i64 x.2)], []⟩
noncomputable def pyxref1_MulNat.fin (y : List Int) : St U := ⟨[(0, .row C.i64 y)], []⟩
noncomputable def pyxref1_MulNat.D (k : Nat) : FDen U := { X := (List Int × List Int), Y := List Int, nt := 61, gh := [], un := pyxref1_MulNat.un, f := fun x => pyxref1_MulNat.f k (x.1) (x.2), fin := pyxref1_MulNat.fin, cl := true, clo := fun _ _ => rfl }
noncomputable def pyxref1_MulNat.re (s : St U) : Option (List Int) := match s.get 0 with | .row C.i64 x1 => some x1 | _ => none
noncomputable def pyxref1_MulNat.l7.mk (x : (List Int × List Int × Int × Int × Int × List Int)) : St U := match x with | (x5, x6, x8, x9, x10, x7) => ⟨[(0, .row C.i64 x5), (1, .row C.i64 x6), (5, .vs 1007005), (6, .flat (.int .i64 x8)), (7, .flat (.int .i64 x9)), (8, .flat (.int .i64 x10))], [(1007005, .vec C.i64 x7)]⟩
noncomputable def pyxref1_MulNat.l7.un (s : St U) : Option (List Int × List Int × Int × Int × Int × List Int) := (row_i64 (s.get 0)).bind fun q0 => ((row_i64 (s.get 1)).bind fun q1 => ((vec_i64 s.o (s.get 5)).bind fun q2 => (match s.get 6, s.get 7, s.get 8 with | .flat (.int .i64 x8), .flat (.int .i64 x9), .flat (.int .i64 x10) => some (q0, q1, x8, x9, x10, q2.2) | _, _, _ => none)))
noncomputable def pyxref1_MulNat.l7.fin (y : (List Int × List Int × Int × List Int)) : Out U := match y with | (x20, x21, x23, x22) => .exit 2 ⟨[(0, .row C.i64 x20), (1, .row C.i64 x21), (5, .vs 1007005), (6, .flat (.int .i64 x23))], [(1007005, .vec C.i64 x22)]⟩
noncomputable def pyxref1_MulNat.l7.finK {ρ : Type} (y : (List Int × List Int × Int × List Int)) (K : Out U → Option ρ) : Option ρ := match y with | (x20, x21, x23, x22) => K (.exit 2 ⟨[(0, .row C.i64 x20), (1, .row C.i64 x21), (5, .vs 1007005), (6, .flat (.int .i64 x23))], [(1007005, .vec C.i64 x22)]⟩)
theorem pyxref1_MulNat.l7.finK_eq {ρ : Type} (y : (List Int × List Int × Int × List Int)) (K : Out U → Option ρ) : pyxref1_MulNat.l7.finK y K = K (pyxref1_MulNat.l7.fin y) := by
  unfold pyxref1_MulNat.l7.finK pyxref1_MulNat.l7.fin
  first | rfl | (split <;> rfl)
noncomputable def pyxref1_MulNat.l7.re : Out U → Option ((List Int × List Int × Int × List Int)) | .exit 2 s => ((row_i64 (s.get 0)).bind fun q0 => ((row_i64 (s.get 1)).bind fun q1 => ((vec_i64 s.o (s.get 5)).bind fun q2 => (match s.get 6 with | .flat (.int .i64 x23) => some (q0, q1, x23, q2.2) | _ => none)))) | _ => none
noncomputable def pyxref1_MulNat.l7.L (k : Nat) : LDen U := { X := (List Int × List Int × Int × Int × Int × List Int), Y := (List Int × List Int × Int × List Int), un := pyxref1_MulNat.l7.un, f := iter (pyxref1_MulNat.l7.once k) k, fin := pyxref1_MulNat.l7.fin, finK := pyxref1_MulNat.l7.finK, finK_eq := pyxref1_MulNat.l7.finK_eq }
noncomputable def pyxref1_MulNat.l3.mk (x : (List Int × List Int × Int × List Int)) : St U := match x with | (x1, x2, x4, x3) => ⟨[(0, .row C.i64 x1), (1, .row C.i64 x2), (5, .vs 1003005), (6, .flat (.int .i64 x4))], [(1003005, .vec C.i64 x3)]⟩
noncomputable def pyxref1_MulNat.l3.un (s : St U) : Option (List Int × List Int × Int × List Int) := (row_i64 (s.get 0)).bind fun q0 => ((row_i64 (s.get 1)).bind fun q1 => ((vec_i64 s.o (s.get 5)).bind fun q2 => (match s.get 6 with | .flat (.int .i64 x4) => some (q0, q1, x4, q2.2) | _ => none)))
noncomputable def pyxref1_MulNat.l3.fin (y : List Int) : Out U := match y with | x25 => .exit 0 ⟨[(5, .vs 1003005)], [(1003005, .vec C.i64 x25)]⟩
noncomputable def pyxref1_MulNat.l3.finK {ρ : Type} (y : List Int) (K : Out U → Option ρ) : Option ρ := match y with | x25 => K (.exit 0 ⟨[(5, .vs 1003005)], [(1003005, .vec C.i64 x25)]⟩)
theorem pyxref1_MulNat.l3.finK_eq {ρ : Type} (y : List Int) (K : Out U → Option ρ) : pyxref1_MulNat.l3.finK y K = K (pyxref1_MulNat.l3.fin y) := by
  unfold pyxref1_MulNat.l3.finK pyxref1_MulNat.l3.fin
  first | rfl | (split <;> rfl)
noncomputable def pyxref1_MulNat.l3.re : Out U → Option (List Int) | .exit 0 s => ((vec_i64 s.o (s.get 5)).bind fun q0 => (some q0.2)) | _ => none
noncomputable def pyxref1_MulNat.l3.L (k : Nat) : LDen U := { X := (List Int × List Int × Int × List Int), Y := List Int, un := pyxref1_MulNat.l3.un, f := iter (pyxref1_MulNat.l3.once k) k, fin := pyxref1_MulNat.l3.fin, finK := pyxref1_MulNat.l3.finK, finK_eq := pyxref1_MulNat.l3.finK_eq }
noncomputable def pyxref1_MulNat.j7000.fin (y : (List Int × List Int × Int × Int × Int × Bool × List Int)) : Out U := match y with | (x11, x12, x14, x15, x16, x17, x13) => .norm ⟨[(0, .row C.i64 x11), (1, .row C.i64 x12), (5, .vs 1008000005), (6, .flat (.int .i64 x14)), (7, .flat (.int .i64 x15)), (8, .flat (.int .i64 x16)), (30, .flat (.bool x17))], [(1008000005, .vec C.i64 x13)]⟩
noncomputable def pyxref1_MulNat.j7000.finK {ρ : Type} (y : (List Int × List Int × Int × Int × Int × Bool × List Int)) (K : Out U → Option ρ) : Option ρ := match y with | (x11, x12, x14, x15, x16, x17, x13) => K (.norm ⟨[(0, .row C.i64 x11), (1, .row C.i64 x12), (5, .vs 1008000005), (6, .flat (.int .i64 x14)), (7, .flat (.int .i64 x15)), (8, .flat (.int .i64 x16)), (30, .flat (.bool x17))], [(1008000005, .vec C.i64 x13)]⟩)
theorem pyxref1_MulNat.j7000.finK_eq {ρ : Type} (y : (List Int × List Int × Int × Int × Int × Bool × List Int)) (K : Out U → Option ρ) : pyxref1_MulNat.j7000.finK y K = K (pyxref1_MulNat.j7000.fin y) := by
  unfold pyxref1_MulNat.j7000.finK pyxref1_MulNat.j7000.fin
  first | rfl | (split <;> rfl)
noncomputable def pyxref1_MulNat.j7000.re : Out U → Option ((List Int × List Int × Int × Int × Int × Bool × List Int)) | .norm s => ((row_i64 (s.get 0)).bind fun q0 => ((row_i64 (s.get 1)).bind fun q1 => ((vec_i64 s.o (s.get 5)).bind fun q2 => (match s.get 6, s.get 7, s.get 8, s.get 30 with | .flat (.int .i64 x14), .flat (.int .i64 x15), .flat (.int .i64 x16), .flat (.bool x17) => some (q0, q1, x14, x15, x16, x17, q2.2) | _, _, _, _ => none)))) | _ => none
noncomputable def pyxref1_MulNat.j7000.J : JDen U := { Y := (List Int × List Int × Int × Int × Int × Bool × List Int), re := pyxref1_MulNat.j7000.re, fin := pyxref1_MulNat.j7000.fin, finK := pyxref1_MulNat.j7000.finK, finK_eq := pyxref1_MulNat.j7000.finK_eq }
theorem pyxref1_MulNat.j7000.fit (o : Out U) (y : (List Int × List Int × Int × Int × Int × Bool × List Int)) (h : pyxref1_MulNat.j7000.re o = some y) : FitsO o (pyxref1_MulNat.j7000.fin y) := by
  unfold pyxref1_MulNat.j7000.re at h
  split at h
  · obtain ⟨q0, eq0, h1⟩ := Option.bind_eq_some_iff.1 h
    obtain ⟨q1, eq1, h2⟩ := Option.bind_eq_some_iff.1 h1
    obtain ⟨q2, eq2, h3⟩ := Option.bind_eq_some_iff.1 h2
    split at h3
    · cases h3
      refine fitsO_norm (fits_ren [(1008000005, q2.1)] ?_ ?_ ren_one rfl)
      · exact List.forall_mem_cons.2 ⟨FV.one (row_i64_fit eq0), List.forall_mem_cons.2 ⟨FV.one (row_i64_fit eq1), List.forall_mem_cons.2 ⟨FV.one (vec_i64_fit eq2 rfl).1, List.forall_mem_cons.2 ⟨FV.one (FV.same (by assumption) rfl), List.forall_mem_cons.2 ⟨FV.one (FV.same (by assumption) rfl), List.forall_mem_cons.2 ⟨FV.one (FV.same (by assumption) rfl), List.forall_mem_cons.2 ⟨FV.one (FV.same (by assumption) rfl), fun _ hp => (List.not_mem_nil hp).elim⟩⟩⟩⟩⟩⟩⟩
      · exact List.forall_mem_cons.2 ⟨(vec_i64_fit eq2 rfl).2, fun _ hp => (List.not_mem_nil hp).elim⟩
    · cases h3
  · cases h
noncomputable def pyxref1_MulNat.jl : List (Nat × JDen U) := [(7000, pyxref1_MulNat.j7000.J)]
noncomputable def pyxref1_MulNat.fl (k : Nat) : List (Nat × FDen U) := [(145, pyxref1_digit.D k), (146, pyxref1_trim.D k)]
noncomputable def pyxref1_MulNat.ll (k : Nat) : List (Nat × LDen U) := [(7, pyxref1_MulNat.l7.L k), (3, pyxref1_MulNat.l3.L k)]
noncomputable def pyxref1_MulNat.E (k : Nat) : Env U := { P := Try.prog, D := DD, fd := lk (pyxref1_MulNat.fl k), sf := lk sl0, ld := lk (pyxref1_MulNat.ll k), jd := lk pyxref1_MulNat.jl, mode := lk [], elc := lk ec, mpc := lk mc, rts := Try.f112.resultTypes.toList, dyn := fun t => false, vecs := fun d => Nat.beq d 16, results := Try.f112.results.toList, gh := [], own := false, io := fun g i => false }
theorem pyxref1_MulNat.ok (k : Nat) : EnvOk (pyxref1_MulNat.E k) := envOk lawful (pyxref1_MulNat.fl k) sl0 (pyxref1_MulNat.ll k) pyxref1_MulNat.jl _ _ _ _ _ _ _ _ _ _ (by
  intro p hp
  simp only [pyxref1_MulNat.fl, List.mem_cons, List.not_mem_nil, or_false] at hp
  rcases hp with rfl | rfl
  · exact ⟨pyxref1_digit.sound k, enter_of Try.func145 (by kernel_rfl) (by kernel_rfl)⟩
  · exact ⟨pyxref1_trim.sound k, enter_of Try.func146 (by kernel_rfl) (by kernel_rfl)⟩) sl0_ok (by
  intro p hp
  simp only [pyxref1_MulNat.jl, List.mem_cons, List.not_mem_nil, or_false] at hp
  rcases hp with rfl
  · exact pyxref1_MulNat.j7000.fit)
theorem pyxref1_MulNat.l7.eq (k : Nat) (x : (List Int × List Int × Int × Int × Int × List Int)) : evC (pyxref1_MulNat.E k) (loopAt Try.f112 7) (pyxref1_MulNat.l7.mk x) (headK pyxref1_MulNat.l7.un pyxref1_MulNat.l7.re) = pyxref1_MulNat.l7.once k x := by kernel_rfl
theorem pyxref1_MulNat.l7.fit (s : St U) (x : (List Int × List Int × Int × Int × Int × List Int)) (h : pyxref1_MulNat.l7.un s = some x) : Fits s (pyxref1_MulNat.l7.mk x) := by
  unfold pyxref1_MulNat.l7.un at h
  obtain ⟨q0, eq0, h1⟩ := Option.bind_eq_some_iff.1 h
  obtain ⟨q1, eq1, h2⟩ := Option.bind_eq_some_iff.1 h1
  obtain ⟨q2, eq2, h3⟩ := Option.bind_eq_some_iff.1 h2
  split at h3
  · cases h3
    refine fits_ren [(1007005, q2.1)] ?_ ?_ ren_one rfl
    · exact List.forall_mem_cons.2 ⟨FV.one (row_i64_fit eq0), List.forall_mem_cons.2 ⟨FV.one (row_i64_fit eq1), List.forall_mem_cons.2 ⟨FV.one (vec_i64_fit eq2 rfl).1, List.forall_mem_cons.2 ⟨FV.one (FV.same (by assumption) rfl), List.forall_mem_cons.2 ⟨FV.one (FV.same (by assumption) rfl), List.forall_mem_cons.2 ⟨FV.one (FV.same (by assumption) rfl), fun _ hp => (List.not_mem_nil hp).elim⟩⟩⟩⟩⟩⟩
    · exact List.forall_mem_cons.2 ⟨(vec_i64_fit eq2 rfl).2, fun _ hp => (List.not_mem_nil hp).elim⟩
  · cases h3
theorem pyxref1_MulNat.l7.fitO (o : Out U) (y : (List Int × List Int × Int × List Int)) (h : pyxref1_MulNat.l7.re o = some y) : FitsO o (pyxref1_MulNat.l7.fin y) := by
  unfold pyxref1_MulNat.l7.re at h
  split at h
  · obtain ⟨q0, eq0, h1⟩ := Option.bind_eq_some_iff.1 h
    obtain ⟨q1, eq1, h2⟩ := Option.bind_eq_some_iff.1 h1
    obtain ⟨q2, eq2, h3⟩ := Option.bind_eq_some_iff.1 h2
    split at h3
    · cases h3
      refine fitsO_exit (fits_ren [(1007005, q2.1)] ?_ ?_ ren_one rfl)
      · exact List.forall_mem_cons.2 ⟨FV.one (row_i64_fit eq0), List.forall_mem_cons.2 ⟨FV.one (row_i64_fit eq1), List.forall_mem_cons.2 ⟨FV.one (vec_i64_fit eq2 rfl).1, List.forall_mem_cons.2 ⟨FV.one (FV.same (by assumption) rfl), fun _ hp => (List.not_mem_nil hp).elim⟩⟩⟩⟩
      · exact List.forall_mem_cons.2 ⟨(vec_i64_fit eq2 rfl).2, fun _ hp => (List.not_mem_nil hp).elim⟩
    · cases h3
  · cases h
theorem pyxref1_MulNat.l7.sound (k : Nat) : LSound (pyxref1_MulNat.E k) Try.f112.ntmps Try.f112 (loopAt Try.f112 7) (pyxref1_MulNat.l7.L k) :=
  loop_sound (pyxref1_MulNat.ok k) mixed rfl (by kernel_rfl) (allL_of (l := []) (by kernel_rfl) allL_nil) pyxref1_MulNat.l7.un pyxref1_MulNat.l7.mk pyxref1_MulNat.l7.fin pyxref1_MulNat.l7.re (pyxref1_MulNat.l7.once k) k pyxref1_MulNat.l7.fit pyxref1_MulNat.l7.fitO (pyxref1_MulNat.l7.eq k) pyxref1_MulNat.l7.finK pyxref1_MulNat.l7.finK_eq
theorem pyxref1_MulNat.l3.eq (k : Nat) (x : (List Int × List Int × Int × List Int)) : evC (pyxref1_MulNat.E k) (loopAt Try.f112 3) (pyxref1_MulNat.l3.mk x) (headK pyxref1_MulNat.l3.un pyxref1_MulNat.l3.re) = pyxref1_MulNat.l3.once k x := by kernel_rfl
theorem pyxref1_MulNat.l3.fit (s : St U) (x : (List Int × List Int × Int × List Int)) (h : pyxref1_MulNat.l3.un s = some x) : Fits s (pyxref1_MulNat.l3.mk x) := by
  unfold pyxref1_MulNat.l3.un at h
  obtain ⟨q0, eq0, h1⟩ := Option.bind_eq_some_iff.1 h
  obtain ⟨q1, eq1, h2⟩ := Option.bind_eq_some_iff.1 h1
  obtain ⟨q2, eq2, h3⟩ := Option.bind_eq_some_iff.1 h2
  split at h3
  · cases h3
    refine fits_ren [(1003005, q2.1)] ?_ ?_ ren_one rfl
    · exact List.forall_mem_cons.2 ⟨FV.one (row_i64_fit eq0), List.forall_mem_cons.2 ⟨FV.one (row_i64_fit eq1), List.forall_mem_cons.2 ⟨FV.one (vec_i64_fit eq2 rfl).1, List.forall_mem_cons.2 ⟨FV.one (FV.same (by assumption) rfl), fun _ hp => (List.not_mem_nil hp).elim⟩⟩⟩⟩
    · exact List.forall_mem_cons.2 ⟨(vec_i64_fit eq2 rfl).2, fun _ hp => (List.not_mem_nil hp).elim⟩
  · cases h3
theorem pyxref1_MulNat.l3.fitO (o : Out U) (y : List Int) (h : pyxref1_MulNat.l3.re o = some y) : FitsO o (pyxref1_MulNat.l3.fin y) := by
  unfold pyxref1_MulNat.l3.re at h
  split at h
  · obtain ⟨q0, eq0, h1⟩ := Option.bind_eq_some_iff.1 h
    cases h1
    refine fitsO_exit (fits_ren [(1003005, q0.1)] ?_ ?_ ren_one rfl)
    · exact List.forall_mem_cons.2 ⟨FV.one (vec_i64_fit eq0 rfl).1, fun _ hp => (List.not_mem_nil hp).elim⟩
    · exact List.forall_mem_cons.2 ⟨(vec_i64_fit eq0 rfl).2, fun _ hp => (List.not_mem_nil hp).elim⟩
  · cases h
theorem pyxref1_MulNat.l3.sound (k : Nat) : LSound (pyxref1_MulNat.E k) Try.f112.ntmps Try.f112 (loopAt Try.f112 3) (pyxref1_MulNat.l3.L k) :=
  loop_sound (pyxref1_MulNat.ok k) mixed rfl (by kernel_rfl) (allL_of (l := [loopAt Try.f112 7]) (by kernel_rfl) (allL_cons (key := 7) (by kernel_rfl) rfl (pyxref1_MulNat.l7.sound k) allL_nil)) pyxref1_MulNat.l3.un pyxref1_MulNat.l3.mk pyxref1_MulNat.l3.fin pyxref1_MulNat.l3.re (pyxref1_MulNat.l3.once k) k pyxref1_MulNat.l3.fit pyxref1_MulNat.l3.fitO (pyxref1_MulNat.l3.eq k) pyxref1_MulNat.l3.finK pyxref1_MulNat.l3.finK_eq
theorem pyxref1_MulNat.eq (k : Nat) (x : (List Int × List Int)) : runF (pyxref1_MulNat.E k) (codeOf Try.f112) (pyxref1_MulNat.mk x) pyxref1_MulNat.re = (pyxref1_MulNat.D k).f x := by kernel_rfl
theorem pyxref1_MulNat.fit (s : St U) (x : (List Int × List Int)) (h : pyxref1_MulNat.un s = some x) : Fits s (pyxref1_MulNat.mk x) := by
  unfold pyxref1_MulNat.un at h
  split at h
  · cases h
    refine fits_ren [] ?_ ?_ ren_nil rfl
    · exact List.forall_mem_cons.2 ⟨FV.one (FV.same (by assumption) rfl), List.forall_mem_cons.2 ⟨FV.one (FV.same (by assumption) rfl), fun _ hp => (List.not_mem_nil hp).elim⟩⟩
    · exact fun _ hp => (List.not_mem_nil hp).elim
  · cases h
theorem pyxref1_MulNat.fitR (s : St U) (y : List Int) (h : pyxref1_MulNat.re s = some y) : Fits s (pyxref1_MulNat.fin y) := by
  unfold pyxref1_MulNat.re at h
  split at h
  · cases h
    refine fits_ren [] ?_ ?_ ren_nil rfl
    · exact List.forall_mem_cons.2 ⟨FV.one (FV.same (by assumption) rfl), fun _ hp => (List.not_mem_nil hp).elim⟩
    · exact fun _ hp => (List.not_mem_nil hp).elim
  · cases h
theorem pyxref1_MulNat.sound (k : Nat) : Sound Try.prog DD 112 (pyxref1_MulNat.D k) :=
  fun_sound (E := pyxref1_MulNat.E k) (fn := Try.f112) (c := codeOf Try.f112) (pyxref1_MulNat.ok k) mixed rfl Try.func112 (by kernel_rfl) (by kernel_rfl) (allL_of (l := [loopAt Try.f112 3]) (by kernel_rfl) (allL_cons (key := 3) (by kernel_rfl) rfl (pyxref1_MulNat.l3.sound k) allL_nil)) (pyxref1_MulNat.D k) pyxref1_MulNat.mk pyxref1_MulNat.re (by kernel_rfl) (by kernel_rfl) pyxref1_MulNat.fit pyxref1_MulNat.fitR (pyxref1_MulNat.eq k)
/-! ### pyx/pyxref1.Nat2: function 113 -/
noncomputable def pyxref1_Nat2.f (k : Nat) (a0 : (Int × Int)) : Option (List Int) := (pyxref1_Word.f k a0.2).bind fun t1 => ((pyxref1_radix.f k).bind fun t2 => ((pyxref1_MulNat.f k t1 t2).bind fun t3 => ((pyxref1_Word.f k a0.1).bind fun t4 => ((pyxref1_AddNat.f k t3 t4).bind fun t5 => (some t5)))))
noncomputable def pyxref1_Nat2.un (s : St U) : Option (Int × Int) := match s.get 0 with | .agg [.flat (.int .u64 x1), .flat (.int .u64 x2)] => some (x1, x2) | _ => none
noncomputable def pyxref1_Nat2.mk (x : (Int × Int)) : St U := ⟨[(0, .agg [.flat (.int .u64 x.1), .flat (.int .u64 x.2)])], []⟩
noncomputable def pyxref1_Nat2.fin (y : List Int) : St U := ⟨[(0, .row C.i64 y)], []⟩
noncomputable def pyxref1_Nat2.D (k : Nat) : FDen U := { X := (Int × Int), Y := List Int, nt := 12, gh := [], un := pyxref1_Nat2.un, f := fun x => pyxref1_Nat2.f k (x), fin := pyxref1_Nat2.fin, cl := true, clo := fun _ _ => rfl }
noncomputable def pyxref1_Nat2.re (s : St U) : Option (List Int) := match s.get 0 with | .row C.i64 x1 => some x1 | _ => none
noncomputable def pyxref1_Nat2.jl : List (Nat × JDen U) := []
noncomputable def pyxref1_Nat2.fl (k : Nat) : List (Nat × FDen U) := [(59, pyxref1_Word.D k), (138, pyxref1_radix.D k), (112, pyxref1_MulNat.D k), (117, pyxref1_AddNat.D k)]
noncomputable def pyxref1_Nat2.ll (k : Nat) : List (Nat × LDen U) := []
noncomputable def pyxref1_Nat2.E (k : Nat) : Env U := { P := Try.prog, D := DD, fd := lk (pyxref1_Nat2.fl k), sf := lk sl0, ld := lk (pyxref1_Nat2.ll k), jd := lk pyxref1_Nat2.jl, mode := lk [], elc := lk ec, mpc := lk mc, rts := Try.f113.resultTypes.toList, dyn := fun t => false, vecs := fun d => false, results := Try.f113.results.toList, gh := [], own := false, io := fun g i => false }
theorem pyxref1_Nat2.ok (k : Nat) : EnvOk (pyxref1_Nat2.E k) := envOk lawful (pyxref1_Nat2.fl k) sl0 (pyxref1_Nat2.ll k) pyxref1_Nat2.jl _ _ _ _ _ _ _ _ _ _ (by
  intro p hp
  simp only [pyxref1_Nat2.fl, List.mem_cons, List.not_mem_nil, or_false] at hp
  rcases hp with rfl | rfl | rfl | rfl
  · exact ⟨pyxref1_Word.sound k, enter_of Try.func59 (by kernel_rfl) (by kernel_rfl)⟩
  · exact ⟨pyxref1_radix.sound k, enter_of Try.func138 (by kernel_rfl) (by kernel_rfl)⟩
  · exact ⟨pyxref1_MulNat.sound k, enter_of Try.func112 (by kernel_rfl) (by kernel_rfl)⟩
  · exact ⟨pyxref1_AddNat.sound k, enter_of Try.func117 (by kernel_rfl) (by kernel_rfl)⟩) sl0_ok (by
  intro p hp
  simp [pyxref1_Nat2.jl] at hp)
theorem pyxref1_Nat2.eq (k : Nat) (x : (Int × Int)) : runF (pyxref1_Nat2.E k) (codeOf Try.f113) (pyxref1_Nat2.mk x) pyxref1_Nat2.re = (pyxref1_Nat2.D k).f x := by kernel_rfl
theorem pyxref1_Nat2.fit (s : St U) (x : (Int × Int)) (h : pyxref1_Nat2.un s = some x) : Fits s (pyxref1_Nat2.mk x) := by
  unfold pyxref1_Nat2.un at h
  split at h
  · cases h
    refine fits_ren [] ?_ ?_ ren_nil rfl
    · exact List.forall_mem_cons.2 ⟨FV.one (FV.same (by assumption) rfl), fun _ hp => (List.not_mem_nil hp).elim⟩
    · exact fun _ hp => (List.not_mem_nil hp).elim
  · cases h
theorem pyxref1_Nat2.fitR (s : St U) (y : List Int) (h : pyxref1_Nat2.re s = some y) : Fits s (pyxref1_Nat2.fin y) := by
  unfold pyxref1_Nat2.re at h
  split at h
  · cases h
    refine fits_ren [] ?_ ?_ ren_nil rfl
    · exact List.forall_mem_cons.2 ⟨FV.one (FV.same (by assumption) rfl), fun _ hp => (List.not_mem_nil hp).elim⟩
    · exact fun _ hp => (List.not_mem_nil hp).elim
  · cases h
theorem pyxref1_Nat2.sound (k : Nat) : Sound Try.prog DD 113 (pyxref1_Nat2.D k) :=
  fun_sound (E := pyxref1_Nat2.E k) (fn := Try.f113) (c := codeOf Try.f113) (pyxref1_Nat2.ok k) mixed rfl Try.func113 (by kernel_rfl) (by kernel_rfl) (allL_of (l := []) (by kernel_rfl) allL_nil) (pyxref1_Nat2.D k) pyxref1_Nat2.mk pyxref1_Nat2.re (by kernel_rfl) (by kernel_rfl) pyxref1_Nat2.fit pyxref1_Nat2.fitR (pyxref1_Nat2.eq k)
/-! ### pyx/pyxref1.TenNat: function 114 -/
noncomputable def pyxref1_TenNat.f (k : Nat) (a0 : Int) : Option (List Int) := cond ((decide (0 ≤ IntKind.wrap .i64 (a0 + 1)) && decide (IntKind.wrap .i64 (a0 + 1) = IntKind.wrap .i64 (a0 + 1))) && decide ((IntKind.wrap .i64 (a0 + 1)) * 8 ≤ 140737488355328)) (cond (inb a0 (List.length (List.replicate (Int.toNat (IntKind.wrap .i64 (a0 + 1))) (0 : Int)))) (cond (Nat.blt (Int.toNat a0) (List.length (List.replicate (Int.toNat (IntKind.wrap .i64 (a0 + 1))) (0 : Int)))) (some (List.set (List.replicate (Int.toNat (IntKind.wrap .i64 (a0 + 1))) (0 : Int)) (Int.toNat a0) 1)) none) none) none
noncomputable def pyxref1_TenNat.un (s : St U) : Option Int := match s.get 0 with | .flat (.int .i64 x1) => some x1 | _ => none
noncomputable def pyxref1_TenNat.mk (x : Int) : St U := ⟨[(0, .flat (.int .i64 x))], []⟩
noncomputable def pyxref1_TenNat.fin (y : List Int) : St U := ⟨[(0, .row C.i64 y)], []⟩
noncomputable def pyxref1_TenNat.D (k : Nat) : FDen U := { X := Int, Y := List Int, nt := 11, gh := [], un := pyxref1_TenNat.un, f := fun x => pyxref1_TenNat.f k (x), fin := pyxref1_TenNat.fin, cl := true, clo := fun _ _ => rfl }
noncomputable def pyxref1_TenNat.re (s : St U) : Option (List Int) := match s.get 0 with | .row C.i64 x1 => some x1 | _ => none
noncomputable def pyxref1_TenNat.jl : List (Nat × JDen U) := []
noncomputable def pyxref1_TenNat.fl (k : Nat) : List (Nat × FDen U) := []
noncomputable def pyxref1_TenNat.ll (k : Nat) : List (Nat × LDen U) := []
noncomputable def pyxref1_TenNat.E (k : Nat) : Env U := { P := Try.prog, D := DD, fd := lk (pyxref1_TenNat.fl k), sf := lk sl0, ld := lk (pyxref1_TenNat.ll k), jd := lk pyxref1_TenNat.jl, mode := lk [], elc := lk ec, mpc := lk mc, rts := Try.f114.resultTypes.toList, dyn := fun t => false, vecs := fun d => Nat.beq d 6, results := Try.f114.results.toList, gh := [], own := false, io := fun g i => false }
theorem pyxref1_TenNat.ok (k : Nat) : EnvOk (pyxref1_TenNat.E k) := envOk lawful (pyxref1_TenNat.fl k) sl0 (pyxref1_TenNat.ll k) pyxref1_TenNat.jl _ _ _ _ _ _ _ _ _ _ (by
  intro p hp
  simp [pyxref1_TenNat.fl] at hp) sl0_ok (by
  intro p hp
  simp [pyxref1_TenNat.jl] at hp)
theorem pyxref1_TenNat.eq (k : Nat) (x : Int) : runF (pyxref1_TenNat.E k) (codeOf Try.f114) (pyxref1_TenNat.mk x) pyxref1_TenNat.re = (pyxref1_TenNat.D k).f x := by kernel_rfl
theorem pyxref1_TenNat.fit (s : St U) (x : Int) (h : pyxref1_TenNat.un s = some x) : Fits s (pyxref1_TenNat.mk x) := by
  unfold pyxref1_TenNat.un at h
  split at h
  · cases h
    refine fits_ren [] ?_ ?_ ren_nil rfl
    · exact List.forall_mem_cons.2 ⟨FV.one (FV.same (by assumption) rfl), fun _ hp => (List.not_mem_nil hp).elim⟩
    · exact fun _ hp => (List.not_mem_nil hp).elim
  · cases h
theorem pyxref1_TenNat.fitR (s : St U) (y : List Int) (h : pyxref1_TenNat.re s = some y) : Fits s (pyxref1_TenNat.fin y) := by
  unfold pyxref1_TenNat.re at h
  split at h
  · cases h
    refine fits_ren [] ?_ ?_ ren_nil rfl
    · exact List.forall_mem_cons.2 ⟨FV.one (FV.same (by assumption) rfl), fun _ hp => (List.not_mem_nil hp).elim⟩
    · exact fun _ hp => (List.not_mem_nil hp).elim
  · cases h
theorem pyxref1_TenNat.sound (k : Nat) : Sound Try.prog DD 114 (pyxref1_TenNat.D k) :=
  fun_sound (E := pyxref1_TenNat.E k) (fn := Try.f114) (c := codeOf Try.f114) (pyxref1_TenNat.ok k) mixed rfl Try.func114 (by kernel_rfl) (by kernel_rfl) (allL_of (l := []) (by kernel_rfl) allL_nil) (pyxref1_TenNat.D k) pyxref1_TenNat.mk pyxref1_TenNat.re (by kernel_rfl) (by kernel_rfl) pyxref1_TenNat.fit pyxref1_TenNat.fitR (pyxref1_TenNat.eq k)
/-! ### pyx/pyxref1.digits: function 116 -/
noncomputable def pyxref1_digits.f (k : Nat) (a0 : Sapi_Dec) (a1 : Int) : Option (List Int) := (pyxref1_Nat2.f k (a0.f_C.1, a0.f_C.2)).bind fun t1 => ((pyxref1_TenNat.f k (IntKind.wrap .i64 (a1 - a0.f_Scale))).bind fun t2 => ((pyxref1_MulNat.f k t1 t2).bind fun t3 => (some t3)))
noncomputable def pyxref1_digits.un (s : St U) : Option (Sapi_Dec × Int) := match s.get 0, s.get 1 with | .agg [.flat (.bool x1), .flat (.int .u64 x2), .flat (.int .u64 x3), .flat (.int .i64 x4)], .flat (.int .i64 x5) => some ((⟨x1, (x2, x3), x4⟩ : Sapi_Dec), x5) | _, _ => none
noncomputable def pyxref1_digits.mk (x : (Sapi_Dec × Int)) : St U := ⟨[(0, .agg [.flat (.bool x.1.f_Neg), .flat (.int .u64 x.1.f_C.1), .flat (.int .u64 x.1.f_C.2), .flat (.int .i64 x.1.f_Scale)]), (1, .flat (.int .i64 x.2))], []⟩
noncomputable def pyxref1_digits.fin (y : List Int) : St U := ⟨[(0, .row C.i64 y)], []⟩
noncomputable def pyxref1_digits.D (k : Nat) : FDen U := { X := (Sapi_Dec × Int), Y := List Int, nt := 14, gh := [], un := pyxref1_digits.un, f := fun x => pyxref1_digits.f k (x.1) (x.2), fin := pyxref1_digits.fin, cl := true, clo := fun _ _ => rfl }
noncomputable def pyxref1_digits.re (s : St U) : Option (List Int) := match s.get 0 with | .row C.i64 x1 => some x1 | _ => none
noncomputable def pyxref1_digits.jl : List (Nat × JDen U) := []
noncomputable def pyxref1_digits.fl (k : Nat) : List (Nat × FDen U) := [(113, pyxref1_Nat2.D k), (114, pyxref1_TenNat.D k), (112, pyxref1_MulNat.D k)]
noncomputable def pyxref1_digits.ll (k : Nat) : List (Nat × LDen U) := []
noncomputable def pyxref1_digits.E (k : Nat) : Env U := { P := Try.prog, D := DD, fd := lk (pyxref1_digits.fl k), sf := lk sl0, ld := lk (pyxref1_digits.ll k), jd := lk pyxref1_digits.jl, mode := lk [], elc := lk ec, mpc := lk mc, rts := Try.f116.resultTypes.toList, dyn := fun t => false, vecs := fun d => false, results := Try.f116.results.toList, gh := [], own := false, io := fun g i => false }
theorem pyxref1_digits.ok (k : Nat) : EnvOk (pyxref1_digits.E k) := envOk lawful (pyxref1_digits.fl k) sl0 (pyxref1_digits.ll k) pyxref1_digits.jl _ _ _ _ _ _ _ _ _ _ (by
  intro p hp
  simp only [pyxref1_digits.fl, List.mem_cons, List.not_mem_nil, or_false] at hp
  rcases hp with rfl | rfl | rfl
  · exact ⟨pyxref1_Nat2.sound k, enter_of Try.func113 (by kernel_rfl) (by kernel_rfl)⟩
  · exact ⟨pyxref1_TenNat.sound k, enter_of Try.func114 (by kernel_rfl) (by kernel_rfl)⟩
  · exact ⟨pyxref1_MulNat.sound k, enter_of Try.func112 (by kernel_rfl) (by kernel_rfl)⟩) sl0_ok (by
  intro p hp
  simp [pyxref1_digits.jl] at hp)
theorem pyxref1_digits.eq (k : Nat) (x : (Sapi_Dec × Int)) : runF (pyxref1_digits.E k) (codeOf Try.f116) (pyxref1_digits.mk x) pyxref1_digits.re = (pyxref1_digits.D k).f x := by kernel_rfl
theorem pyxref1_digits.fit (s : St U) (x : (Sapi_Dec × Int)) (h : pyxref1_digits.un s = some x) : Fits s (pyxref1_digits.mk x) := by
  unfold pyxref1_digits.un at h
  split at h
  · cases h
    refine fits_ren [] ?_ ?_ ren_nil rfl
    · exact List.forall_mem_cons.2 ⟨FV.one (FV.same (by assumption) rfl), List.forall_mem_cons.2 ⟨FV.one (FV.same (by assumption) rfl), fun _ hp => (List.not_mem_nil hp).elim⟩⟩
    · exact fun _ hp => (List.not_mem_nil hp).elim
  · cases h
theorem pyxref1_digits.fitR (s : St U) (y : List Int) (h : pyxref1_digits.re s = some y) : Fits s (pyxref1_digits.fin y) := by
  unfold pyxref1_digits.re at h
  split at h
  · cases h
    refine fits_ren [] ?_ ?_ ren_nil rfl
    · exact List.forall_mem_cons.2 ⟨FV.one (FV.same (by assumption) rfl), fun _ hp => (List.not_mem_nil hp).elim⟩
    · exact fun _ hp => (List.not_mem_nil hp).elim
  · cases h
theorem pyxref1_digits.sound (k : Nat) : Sound Try.prog DD 116 (pyxref1_digits.D k) :=
  fun_sound (E := pyxref1_digits.E k) (fn := Try.f116) (c := codeOf Try.f116) (pyxref1_digits.ok k) mixed rfl Try.func116 (by kernel_rfl) (by kernel_rfl) (allL_of (l := []) (by kernel_rfl) allL_nil) (pyxref1_digits.D k) pyxref1_digits.mk pyxref1_digits.re (by kernel_rfl) (by kernel_rfl) pyxref1_digits.fit pyxref1_digits.fitR (pyxref1_digits.eq k)
/-! ### pyx/pyxref1.RightDec: function 104 -/
noncomputable def pyxref1_RightDec.f (k : Nat) (a0 : Sapi_Dec) : Option Bool := (pyxref1_Nat2.f k (a0.f_C.1, a0.f_C.2)).bind fun t1 => (cond (decide ((List.length t1 : Int) ≤ 30)) (cond (decide (a0.f_Scale ≥ 0)) (cond (decide (a0.f_Scale ≤ 9)) (cond (a0.f_Neg) (some (!((List.length t1 : Int) == 0))) (some true)) (some false)) (some false)) (some false))
noncomputable def pyxref1_RightDec.un (s : St U) : Option Sapi_Dec := match s.get 0 with | .agg [.flat (.bool x1), .flat (.int .u64 x2), .flat (.int .u64 x3), .flat (.int .i64 x4)] => some (⟨x1, (x2, x3), x4⟩ : Sapi_Dec) | _ => none
noncomputable def pyxref1_RightDec.mk (x : Sapi_Dec) : St U := ⟨[(0, .agg [.flat (.bool x.f_Neg), .flat (.int .u64 x.f_C.1), .flat (.int .u64 x.f_C.2), .flat (.int .i64 x.f_Scale)])], []⟩
noncomputable def pyxref1_RightDec.fin (y : Bool) : St U := ⟨[(0, .flat (.bool y))], []⟩
noncomputable def pyxref1_RightDec.D (k : Nat) : FDen U := { X := Sapi_Dec, Y := Bool, nt := 30, gh := [], un := pyxref1_RightDec.un, f := fun x => pyxref1_RightDec.f k (x), fin := pyxref1_RightDec.fin, cl := true, clo := fun _ _ => rfl }
noncomputable def pyxref1_RightDec.re (s : St U) : Option Bool := match s.get 0 with | .flat (.bool x1) => some x1 | _ => none
noncomputable def pyxref1_RightDec.jl : List (Nat × JDen U) := []
noncomputable def pyxref1_RightDec.fl (k : Nat) : List (Nat × FDen U) := [(113, pyxref1_Nat2.D k)]
noncomputable def pyxref1_RightDec.ll (k : Nat) : List (Nat × LDen U) := []
noncomputable def pyxref1_RightDec.E (k : Nat) : Env U := { P := Try.prog, D := DD, fd := lk (pyxref1_RightDec.fl k), sf := lk sl0, ld := lk (pyxref1_RightDec.ll k), jd := lk pyxref1_RightDec.jl, mode := lk [], elc := lk ec, mpc := lk mc, rts := Try.f104.resultTypes.toList, dyn := fun t => false, vecs := fun d => false, results := Try.f104.results.toList, gh := [], own := false, io := fun g i => false }
theorem pyxref1_RightDec.ok (k : Nat) : EnvOk (pyxref1_RightDec.E k) := envOk lawful (pyxref1_RightDec.fl k) sl0 (pyxref1_RightDec.ll k) pyxref1_RightDec.jl _ _ _ _ _ _ _ _ _ _ (by
  intro p hp
  simp only [pyxref1_RightDec.fl, List.mem_cons, List.not_mem_nil, or_false] at hp
  rcases hp with rfl
  · exact ⟨pyxref1_Nat2.sound k, enter_of Try.func113 (by kernel_rfl) (by kernel_rfl)⟩) sl0_ok (by
  intro p hp
  simp [pyxref1_RightDec.jl] at hp)
theorem pyxref1_RightDec.eq (k : Nat) (x : Sapi_Dec) : runF (pyxref1_RightDec.E k) (codeOf Try.f104) (pyxref1_RightDec.mk x) pyxref1_RightDec.re = (pyxref1_RightDec.D k).f x := by kernel_rfl
theorem pyxref1_RightDec.fit (s : St U) (x : Sapi_Dec) (h : pyxref1_RightDec.un s = some x) : Fits s (pyxref1_RightDec.mk x) := by
  unfold pyxref1_RightDec.un at h
  split at h
  · cases h
    refine fits_ren [] ?_ ?_ ren_nil rfl
    · exact List.forall_mem_cons.2 ⟨FV.one (FV.same (by assumption) rfl), fun _ hp => (List.not_mem_nil hp).elim⟩
    · exact fun _ hp => (List.not_mem_nil hp).elim
  · cases h
theorem pyxref1_RightDec.fitR (s : St U) (y : Bool) (h : pyxref1_RightDec.re s = some y) : Fits s (pyxref1_RightDec.fin y) := by
  unfold pyxref1_RightDec.re at h
  split at h
  · cases h
    refine fits_ren [] ?_ ?_ ren_nil rfl
    · exact List.forall_mem_cons.2 ⟨FV.one (FV.same (by assumption) rfl), fun _ hp => (List.not_mem_nil hp).elim⟩
    · exact fun _ hp => (List.not_mem_nil hp).elim
  · cases h
theorem pyxref1_RightDec.sound (k : Nat) : Sound Try.prog DD 104 (pyxref1_RightDec.D k) :=
  fun_sound (E := pyxref1_RightDec.E k) (fn := Try.f104) (c := codeOf Try.f104) (pyxref1_RightDec.ok k) mixed rfl Try.func104 (by kernel_rfl) (by kernel_rfl) (allL_of (l := []) (by kernel_rfl) allL_nil) (pyxref1_RightDec.D k) pyxref1_RightDec.mk pyxref1_RightDec.re (by kernel_rfl) (by kernel_rfl) pyxref1_RightDec.fit pyxref1_RightDec.fitR (pyxref1_RightDec.eq k)
/-! ### pyx/rate.New: function 51 -/
noncomputable def rate_New.f (k : Nat)  : Option Srate_Table := some (⟨([] : List (Srate_Key × Sapi_Dec))⟩ : Srate_Table)
noncomputable def rate_New.un (s : St U) : Option Unit := some ()
noncomputable def rate_New.mk (x : Unit) : St U := ⟨[], []⟩
noncomputable def rate_New.fin (y : Srate_Table) : St U := ⟨[(0, .ptr 3 0)], [(3, .lit [.mp 6000000000001]), (6000000000001, .map true true true C.Srate_Key C.Sapi_Dec y.f_l)]⟩
noncomputable def rate_New.D (k : Nat) : FDen U := { X := Unit, Y := Srate_Table, nt := 4, gh := [], un := rate_New.un, f := fun x => rate_New.f k , fin := rate_New.fin, cl := false, clo := fun h => by cases h }
noncomputable def rate_New.re (s : St U) : Option Srate_Table := match s.get 0, lk s.o 3 with | .ptr 3 0, some (.lit [x2]) => (map_Srate_Key_Sapi_Dec_t s.o x2).bind fun ex1 => (some (⟨ex1.2⟩ : Srate_Table)) | _, _ => none
noncomputable def rate_New.jl : List (Nat × JDen U) := []
noncomputable def rate_New.fl (k : Nat) : List (Nat × FDen U) := []
noncomputable def rate_New.ll (k : Nat) : List (Nat × LDen U) := []
noncomputable def rate_New.E (k : Nat) : Env U := { P := Try.prog, D := DD, fd := lk (rate_New.fl k), sf := lk sl0, ld := lk (rate_New.ll k), jd := lk rate_New.jl, mode := lk [], elc := lk ec, mpc := lk mc, rts := Try.f51.resultTypes.toList, dyn := fun t => false, vecs := fun d => false, results := Try.f51.results.toList, gh := [], own := false, io := fun g i => false }
theorem rate_New.ok (k : Nat) : EnvOk (rate_New.E k) := envOk lawful (rate_New.fl k) sl0 (rate_New.ll k) rate_New.jl _ _ _ _ _ _ _ _ _ _ (by
  intro p hp
  simp [rate_New.fl] at hp) sl0_ok (by
  intro p hp
  simp [rate_New.jl] at hp)
theorem rate_New.eq (k : Nat) (x : Unit) : runF (rate_New.E k) (codeOf Try.f51) (rate_New.mk x) rate_New.re = (rate_New.D k).f x := by kernel_rfl
theorem rate_New.fit (s : St U) (x : Unit) (h : rate_New.un s = some x) : Fits s (rate_New.mk x) := by
  unfold rate_New.un at h
  cases h
  refine fits_ren [] ?_ ?_ ren_nil rfl
  · exact fun _ hp => (List.not_mem_nil hp).elim
  · exact fun _ hp => (List.not_mem_nil hp).elim
theorem rate_New.fitR (s : St U) (y : Srate_Table) (h : rate_New.re s = some y) : Fits s (rate_New.fin y) := by
  unfold rate_New.re at h
  split at h
  · obtain ⟨ex1, hex1, hh1⟩ := Option.bind_eq_some_iff.1 h
    cases hh1
    refine fits_ren [(6000000000001, ex1.1)] ?_ ?_ ren_one rfl
    · exact List.forall_mem_cons.2 ⟨FV.one (FV.ptr (by assumption)), fun _ hp => (List.not_mem_nil hp).elim⟩
    · exact List.forall_mem_cons.2 ⟨FO.cells (show lk (St.o _) 3 = some _ from by assumption) (FCs.cons ((map_Srate_Key_Sapi_Dec_t_fit hex1 rfl).1) (FCs.nil)), List.forall_mem_cons.2 ⟨(map_Srate_Key_Sapi_Dec_t_fit hex1 rfl).2, fun _ hp => (List.not_mem_nil hp).elim⟩⟩
  · cases h
theorem rate_New.sound (k : Nat) : Sound Try.prog DD 51 (rate_New.D k) :=
  fun_sound (E := rate_New.E k) (fn := Try.f51) (c := codeOf Try.f51) (rate_New.ok k) mixed rfl Try.func51 (by kernel_rfl) (by kernel_rfl) (allL_of (l := []) (by kernel_rfl) allL_nil) (rate_New.D k) rate_New.mk rate_New.re (by kernel_rfl) (by kernel_rfl) rate_New.fit rate_New.fitR (rate_New.eq k)
/-! ### (*pyx/rate.Table).Get: function 56 -/
noncomputable def rate_Table_Get.f (k : Nat) (a0 : Srate_Table) (a1 : Srate_Key) : Option (Sapi_Dec × Int × Srate_Table) := (some (mget (keq_Srate_Key (⟨a1.f_Period, a1.f_Kind⟩ : Srate_Key)) a0.f_l)).bind fun t1 => ((some (Option.getD t1 (⟨false, (0, 0), 0⟩ : Sapi_Dec))).bind fun t2 => (cond (!(Option.isSome t1)) (some ((⟨false, (0, 0), 0⟩ : Sapi_Dec), 11, (⟨a0.f_l⟩ : Srate_Table))) (some ((⟨t2.f_Neg, (t2.f_C.1, t2.f_C.2), t2.f_Scale⟩ : Sapi_Dec), 0, (⟨a0.f_l⟩ : Srate_Table)))))
noncomputable def rate_Table_Get.un (s : St U) : Option (Srate_Table × Srate_Key) := match s.get 0, lk s.o 7000000000000, s.get 1, s.get 1000000000000000 with | .ptr 7000000000000 0, some (.lit [x2]), .agg [.flat (.int .i64 x3), .flat (.int .i64 x4)], .ptr 7000000000000 0 => (map_Srate_Key_Sapi_Dec_t s.o x2).bind fun ex1 => (some ((⟨ex1.2⟩ : Srate_Table), (⟨x3, x4⟩ : Srate_Key))) | _, _, _, _ => none
noncomputable def rate_Table_Get.mk (x : (Srate_Table × Srate_Key)) : St U := ⟨[(0, .ptr 7000000000000 0), (1, .agg [.flat (.int .i64 x.2.f_Period), .flat (.int .i64 x.2.f_Kind)]), (1000000000000000, .ptr 7000000000000 0)], [(7000000000000, .lit [.mp 7000000000001]), (7000000000001, .map true true true C.Srate_Key C.Sapi_Dec x.1.f_l)]⟩
noncomputable def rate_Table_Get.fin (y : (Sapi_Dec × Int × Srate_Table)) : St U := ⟨[(0, .tup [.agg [.flat (.bool y.1.f_Neg), .flat (.int .u64 y.1.f_C.1), .flat (.int .u64 y.1.f_C.2), .flat (.int .i64 y.1.f_Scale)], .flat (.int .i64 y.2.1)]), (1000000000000000, .ptr 7000000000000 0)], [(7000000000000, .lit [.mp 7000000000001]), (7000000000001, .map true true true C.Srate_Key C.Sapi_Dec y.2.2.f_l)]⟩
noncomputable def rate_Table_Get.D (k : Nat) : FDen U := { X := (Srate_Table × Srate_Key), Y := (Sapi_Dec × Int × Srate_Table), nt := 24, gh := [0], un := rate_Table_Get.un, f := fun x => rate_Table_Get.f k (x.1) (x.2), fin := rate_Table_Get.fin, cl := false, clo := fun h => by cases h }
noncomputable def rate_Table_Get.re (s : St U) : Option (Sapi_Dec × Int × Srate_Table) := match s.get 0, s.get 1000000000000000, lk s.o 7000000000000 with | .tup [.agg [.flat (.bool x1), .flat (.int .u64 x2), .flat (.int .u64 x3), .flat (.int .i64 x4)], .flat (.int .i64 x5)], .ptr 7000000000000 0, some (.lit [x7]) => (map_Srate_Key_Sapi_Dec_t s.o x7).bind fun ex6 => (some ((⟨x1, (x2, x3), x4⟩ : Sapi_Dec), x5, (⟨ex6.2⟩ : Srate_Table))) | _, _, _ => none
noncomputable def rate_Table_Get.jl : List (Nat × JDen U) := []
noncomputable def rate_Table_Get.fl (k : Nat) : List (Nat × FDen U) := []
noncomputable def rate_Table_Get.ll (k : Nat) : List (Nat × LDen U) := []
noncomputable def rate_Table_Get.E (k : Nat) : Env U := { P := Try.prog, D := DD, fd := lk (rate_Table_Get.fl k), sf := lk sl0, ld := lk (rate_Table_Get.ll k), jd := lk rate_Table_Get.jl, mode := lk [], elc := lk ec, mpc := lk mc, rts := Try.f56.resultTypes.toList, dyn := fun t => false, vecs := fun d => false, results := Try.f56.results.toList, gh := [0], own := false, io := fun g i => false }
theorem rate_Table_Get.ok (k : Nat) : EnvOk (rate_Table_Get.E k) := envOk lawful (rate_Table_Get.fl k) sl0 (rate_Table_Get.ll k) rate_Table_Get.jl _ _ _ _ _ _ _ _ _ _ (by
  intro p hp
  simp [rate_Table_Get.fl] at hp) sl0_ok (by
  intro p hp
  simp [rate_Table_Get.jl] at hp)
theorem rate_Table_Get.eq (k : Nat) (x : (Srate_Table × Srate_Key)) : runF (rate_Table_Get.E k) (codeOf Try.f56) (rate_Table_Get.mk x) rate_Table_Get.re = (rate_Table_Get.D k).f x := by kernel_rfl
theorem rate_Table_Get.fit (s : St U) (x : (Srate_Table × Srate_Key)) (h : rate_Table_Get.un s = some x) : Fits s (rate_Table_Get.mk x) := by
  unfold rate_Table_Get.un at h
  split at h
  · obtain ⟨ex1, hex1, hh1⟩ := Option.bind_eq_some_iff.1 h
    cases hh1
    refine fits_ren [(7000000000001, ex1.1)] ?_ ?_ ren_one rfl
    · exact List.forall_mem_cons.2 ⟨FV.one (FV.ptr (by assumption)), List.forall_mem_cons.2 ⟨FV.one (FV.same (by assumption) rfl), List.forall_mem_cons.2 ⟨FV.one (FV.ptr (by assumption)), fun _ hp => (List.not_mem_nil hp).elim⟩⟩⟩
    · exact List.forall_mem_cons.2 ⟨FO.cells (show lk (St.o _) 7000000000000 = some _ from by assumption) (FCs.cons ((map_Srate_Key_Sapi_Dec_t_fit hex1 rfl).1) (FCs.nil)), List.forall_mem_cons.2 ⟨(map_Srate_Key_Sapi_Dec_t_fit hex1 rfl).2, fun _ hp => (List.not_mem_nil hp).elim⟩⟩
  · cases h
theorem rate_Table_Get.fitR (s : St U) (y : (Sapi_Dec × Int × Srate_Table)) (h : rate_Table_Get.re s = some y) : Fits s (rate_Table_Get.fin y) := by
  unfold rate_Table_Get.re at h
  split at h
  · obtain ⟨ex6, hex6, hh1⟩ := Option.bind_eq_some_iff.1 h
    cases hh1
    refine fits_ren [(7000000000001, ex6.1)] ?_ ?_ ren_one rfl
    · exact List.forall_mem_cons.2 ⟨FV.tup (by assumption) (FTs.cons (FVA.one (FV.same rfl rfl)) (FTs.cons (FVA.one (FV.same rfl rfl)) (FTs.nil))), List.forall_mem_cons.2 ⟨FV.one (FV.ptr (by assumption)), fun _ hp => (List.not_mem_nil hp).elim⟩⟩
    · exact List.forall_mem_cons.2 ⟨FO.cells (show lk (St.o _) 7000000000000 = some _ from by assumption) (FCs.cons ((map_Srate_Key_Sapi_Dec_t_fit hex6 rfl).1) (FCs.nil)), List.forall_mem_cons.2 ⟨(map_Srate_Key_Sapi_Dec_t_fit hex6 rfl).2, fun _ hp => (List.not_mem_nil hp).elim⟩⟩
  · cases h
theorem rate_Table_Get.sound (k : Nat) : Sound Try.prog DD 56 (rate_Table_Get.D k) :=
  fun_sound (E := rate_Table_Get.E k) (fn := Try.f56) (c := codeOf Try.f56) (rate_Table_Get.ok k) mixed rfl Try.func56 (by kernel_rfl) (by kernel_rfl) (allL_of (l := []) (by kernel_rfl) allL_nil) (rate_Table_Get.D k) rate_Table_Get.mk rate_Table_Get.re (by kernel_rfl) (by kernel_rfl) rate_Table_Get.fit rate_Table_Get.fitR (rate_Table_Get.eq k)
/-! ### pyx/pyxref1.Within: function 60 -/
noncomputable def pyxref1_Within.f (k : Nat) (a0 : Int) (a1 : Int) (a2 : Int) : Option Int := some (if (if a0 < a2 then a0 else a2) > a1 then (if a0 < a2 then a0 else a2) else a1)
noncomputable def pyxref1_Within.un (s : St U) : Option (Int × Int × Int) := match s.get 0, s.get 1, s.get 2 with | .flat (.int .i64 x1), .flat (.int .i64 x2), .flat (.int .i64 x3) => some (x1, x2, x3) | _, _, _ => none
noncomputable def pyxref1_Within.mk (x : (Int × Int × Int)) : St U := ⟨[(0, .flat (.int .i64 x.1)), (1, .flat (.int .i64 x.2.1)), (2, .flat (.int .i64 x.2.2))], []⟩
noncomputable def pyxref1_Within.fin (y : Int) : St U := ⟨[(0, .flat (.int .i64 y))], []⟩
noncomputable def pyxref1_Within.D (k : Nat) : FDen U := { X := (Int × Int × Int), Y := Int, nt := 12, gh := [], un := pyxref1_Within.un, f := fun x => pyxref1_Within.f k (x.1) (x.2.1) (x.2.2), fin := pyxref1_Within.fin, cl := true, clo := fun _ _ => rfl }
noncomputable def pyxref1_Within.re (s : St U) : Option Int := match s.get 0 with | .flat (.int .i64 x1) => some x1 | _ => none
noncomputable def pyxref1_Within.jl : List (Nat × JDen U) := []
noncomputable def pyxref1_Within.fl (k : Nat) : List (Nat × FDen U) := []
noncomputable def pyxref1_Within.ll (k : Nat) : List (Nat × LDen U) := []
noncomputable def pyxref1_Within.E (k : Nat) : Env U := { P := Try.prog, D := DD, fd := lk (pyxref1_Within.fl k), sf := lk sl0, ld := lk (pyxref1_Within.ll k), jd := lk pyxref1_Within.jl, mode := lk [], elc := lk ec, mpc := lk mc, rts := Try.f60.resultTypes.toList, dyn := fun t => false, vecs := fun d => false, results := Try.f60.results.toList, gh := [], own := false, io := fun g i => false }
theorem pyxref1_Within.ok (k : Nat) : EnvOk (pyxref1_Within.E k) := envOk lawful (pyxref1_Within.fl k) sl0 (pyxref1_Within.ll k) pyxref1_Within.jl _ _ _ _ _ _ _ _ _ _ (by
  intro p hp
  simp [pyxref1_Within.fl] at hp) sl0_ok (by
  intro p hp
  simp [pyxref1_Within.jl] at hp)
theorem pyxref1_Within.eq (k : Nat) (x : (Int × Int × Int)) : runF (pyxref1_Within.E k) (codeOf Try.f60) (pyxref1_Within.mk x) pyxref1_Within.re = (pyxref1_Within.D k).f x := by kernel_rfl
theorem pyxref1_Within.fit (s : St U) (x : (Int × Int × Int)) (h : pyxref1_Within.un s = some x) : Fits s (pyxref1_Within.mk x) := by
  unfold pyxref1_Within.un at h
  split at h
  · cases h
    refine fits_ren [] ?_ ?_ ren_nil rfl
    · exact List.forall_mem_cons.2 ⟨FV.one (FV.same (by assumption) rfl), List.forall_mem_cons.2 ⟨FV.one (FV.same (by assumption) rfl), List.forall_mem_cons.2 ⟨FV.one (FV.same (by assumption) rfl), fun _ hp => (List.not_mem_nil hp).elim⟩⟩⟩
    · exact fun _ hp => (List.not_mem_nil hp).elim
  · cases h
theorem pyxref1_Within.fitR (s : St U) (y : Int) (h : pyxref1_Within.re s = some y) : Fits s (pyxref1_Within.fin y) := by
  unfold pyxref1_Within.re at h
  split at h
  · cases h
    refine fits_ren [] ?_ ?_ ren_nil rfl
    · exact List.forall_mem_cons.2 ⟨FV.one (FV.same (by assumption) rfl), fun _ hp => (List.not_mem_nil hp).elim⟩
    · exact fun _ hp => (List.not_mem_nil hp).elim
  · cases h
theorem pyxref1_Within.sound (k : Nat) : Sound Try.prog DD 60 (pyxref1_Within.D k) :=
  fun_sound (E := pyxref1_Within.E k) (fn := Try.f60) (c := codeOf Try.f60) (pyxref1_Within.ok k) mixed rfl Try.func60 (by kernel_rfl) (by kernel_rfl) (allL_of (l := []) (by kernel_rfl) allL_nil) (pyxref1_Within.D k) pyxref1_Within.mk pyxref1_Within.re (by kernel_rfl) (by kernel_rfl) pyxref1_Within.fit pyxref1_Within.fitR (pyxref1_Within.eq k)
/-! ### pyx/pyxref1.CmpNat: function 118 -/
noncomputable def pyxref1_CmpNat.l6.once (k : Nat) (x : (List Int × List Int × Int)) : Option ((List Int × List Int × Int) ⊕ (Unit ⊕ Int)) := match x with | (x1, x2, x3) => cond (decide (x3 ≥ 0)) (cond (inb x3 (List.length x1)) (cond (inb x3 (List.length x2)) (cond (decide ((List.getD x1 (Int.toNat x3) 0) < (List.getD x2 (Int.toNat x3) 0))) (some (.inr (.inr (-1)))) (cond (inb x3 (List.length x1)) (cond (inb x3 (List.length x2)) (cond (decide ((List.getD x1 (Int.toNat x3) 0) > (List.getD x2 (Int.toNat x3) 0))) (some (.inr (.inr 1))) (some (.inl (x1, x2, IntKind.wrap .i64 (x3 - 1))))) none) none)) none) none) (some (.inr (.inl ())))
noncomputable def pyxref1_CmpNat.f (k : Nat) (a0 : List Int) (a1 : List Int) : Option Int := cond ((List.length a0 : Int) != (List.length a1 : Int)) (cond (decide ((List.length a0 : Int) < (List.length a1 : Int))) (some (-1)) (some 1)) ((iter (pyxref1_CmpNat.l6.once k) k (a0, a1, IntKind.wrap .i64 ((List.length a0 : Int) - 1))).bind fun | .inl y5 => (some 0) | .inr y6 => (some y6))
noncomputable def pyxref1_CmpNat.un (s : St U) : Option (List Int × List Int) := match s.get 0, s.get 1 with | .row C.i64 x1, .row C.i64 x2 => some (x1, x2) | _, _ => none
noncomputable def pyxref1_CmpNat.mk (x : (List Int × List Int)) : St U := ⟨[(0, .row C.i64 x.1), (1, .row C.i64 x.2)], []⟩
noncomputable def pyxref1_CmpNat.fin (y : Int) : St U := ⟨[(0, .flat (.int .i64 y))], []⟩
noncomputable def pyxref1_CmpNat.D (k : Nat) : FDen U := { X := (List Int × List Int), Y := Int, nt := 41, gh := [], un := pyxref1_CmpNat.un, f := fun x => pyxref1_CmpNat.f k (x.1) (x.2), fin := pyxref1_CmpNat.fin, cl := true, clo := fun _ _ => rfl }
noncomputable def pyxref1_CmpNat.re (s : St U) : Option Int := match s.get 0 with | .flat (.int .i64 x1) => some x1 | _ => none
noncomputable def pyxref1_CmpNat.l6.mk (x : (List Int × List Int × Int)) : St U := match x with | (x1, x2, x3) => ⟨[(0, .row C.i64 x1), (1, .row C.i64 x2), (5, .flat (.int .i64 x3))], []⟩
noncomputable def pyxref1_CmpNat.l6.un (s : St U) : Option (List Int × List Int × Int) := (row_i64 (s.get 0)).bind fun q0 => ((row_i64 (s.get 1)).bind fun q1 => (match s.get 5 with | .flat (.int .i64 x3) => some (q0, q1, x3) | _ => none))
noncomputable def pyxref1_CmpNat.l6.fin (y : Unit ⊕ Int) : Out U := match y with | .inl () => .exit 0 ⟨[], []⟩ | .inr z => .ret (⟨[(0, .flat (.int .i64 z))], []⟩)
noncomputable def pyxref1_CmpNat.l6.finK {ρ : Type} (y : Unit ⊕ Int) (K : Out U → Option ρ) : Option ρ := match y with | .inl () => K (.exit 0 ⟨[], []⟩) | .inr z => K (.ret (⟨[(0, .flat (.int .i64 z))], []⟩))
theorem pyxref1_CmpNat.l6.finK_eq {ρ : Type} (y : Unit ⊕ Int) (K : Out U → Option ρ) : pyxref1_CmpNat.l6.finK y K = K (pyxref1_CmpNat.l6.fin y) := by
  unfold pyxref1_CmpNat.l6.finK pyxref1_CmpNat.l6.fin
  first | rfl | (split <;> rfl)
noncomputable def pyxref1_CmpNat.l6.re : Out U → Option (Unit ⊕ Int) | .exit 0 s => (some (.inl ())) | .ret s => (match s.get 0 with | .flat (.int .i64 x1) => some (.inr x1) | _ => none) | _ => none
noncomputable def pyxref1_CmpNat.l6.L (k : Nat) : LDen U := { X := (List Int × List Int × Int), Y := Unit ⊕ Int, un := pyxref1_CmpNat.l6.un, f := iter (pyxref1_CmpNat.l6.once k) k, fin := pyxref1_CmpNat.l6.fin, finK := pyxref1_CmpNat.l6.finK, finK_eq := pyxref1_CmpNat.l6.finK_eq }
noncomputable def pyxref1_CmpNat.jl : List (Nat × JDen U) := []
noncomputable def pyxref1_CmpNat.fl (k : Nat) : List (Nat × FDen U) := []
noncomputable def pyxref1_CmpNat.ll (k : Nat) : List (Nat × LDen U) := [(6, pyxref1_CmpNat.l6.L k)]
noncomputable def pyxref1_CmpNat.E (k : Nat) : Env U := { P := Try.prog, D := DD, fd := lk (pyxref1_CmpNat.fl k), sf := lk sl0, ld := lk (pyxref1_CmpNat.ll k), jd := lk pyxref1_CmpNat.jl, mode := lk [], elc := lk ec, mpc := lk mc, rts := Try.f118.resultTypes.toList, dyn := fun t => false, vecs := fun d => false, results := Try.f118.results.toList, gh := [], own := false, io := fun g i => false }
theorem pyxref1_CmpNat.ok (k : Nat) : EnvOk (pyxref1_CmpNat.E k) := envOk lawful (pyxref1_CmpNat.fl k) sl0 (pyxref1_CmpNat.ll k) pyxref1_CmpNat.jl _ _ _ _ _ _ _ _ _ _ (by
  intro p hp
  simp [pyxref1_CmpNat.fl] at hp) sl0_ok (by
  intro p hp
  simp [pyxref1_CmpNat.jl] at hp)
theorem pyxref1_CmpNat.l6.eq (k : Nat) (x : (List Int × List Int × Int)) : evC (pyxref1_CmpNat.E k) (loopAt Try.f118 6) (pyxref1_CmpNat.l6.mk x) (headK pyxref1_CmpNat.l6.un pyxref1_CmpNat.l6.re) = pyxref1_CmpNat.l6.once k x := by kernel_rfl
theorem pyxref1_CmpNat.l6.fit (s : St U) (x : (List Int × List Int × Int)) (h : pyxref1_CmpNat.l6.un s = some x) : Fits s (pyxref1_CmpNat.l6.mk x) := by
  unfold pyxref1_CmpNat.l6.un at h
  obtain ⟨q0, eq0, h1⟩ := Option.bind_eq_some_iff.1 h
  obtain ⟨q1, eq1, h2⟩ := Option.bind_eq_some_iff.1 h1
  split at h2
  · cases h2
    refine fits_ren [] ?_ ?_ ren_nil rfl
    · exact List.forall_mem_cons.2 ⟨FV.one (row_i64_fit eq0), List.forall_mem_cons.2 ⟨FV.one (row_i64_fit eq1), List.forall_mem_cons.2 ⟨FV.one (FV.same (by assumption) rfl), fun _ hp => (List.not_mem_nil hp).elim⟩⟩⟩
    · exact fun _ hp => (List.not_mem_nil hp).elim
  · cases h2
theorem pyxref1_CmpNat.l6.fitO (o : Out U) (y : Unit ⊕ Int) (h : pyxref1_CmpNat.l6.re o = some y) : FitsO o (pyxref1_CmpNat.l6.fin y) := by
  unfold pyxref1_CmpNat.l6.re at h
  split at h
  · cases h
    refine fitsO_exit (fits_ren [] ?_ ?_ ren_nil rfl)
    · exact fun _ hp => (List.not_mem_nil hp).elim
    · exact fun _ hp => (List.not_mem_nil hp).elim
  · split at h
    · cases h
      refine fitsO_ret (fits_ren [] ?_ ?_ ren_nil rfl)
      · exact List.forall_mem_cons.2 ⟨FV.one (FV.same (by assumption) rfl), fun _ hp => (List.not_mem_nil hp).elim⟩
      · exact fun _ hp => (List.not_mem_nil hp).elim
    · cases h
  · cases h
theorem pyxref1_CmpNat.l6.sound (k : Nat) : LSound (pyxref1_CmpNat.E k) Try.f118.ntmps Try.f118 (loopAt Try.f118 6) (pyxref1_CmpNat.l6.L k) :=
  loop_sound (pyxref1_CmpNat.ok k) mixed rfl (by kernel_rfl) (allL_of (l := []) (by kernel_rfl) allL_nil) pyxref1_CmpNat.l6.un pyxref1_CmpNat.l6.mk pyxref1_CmpNat.l6.fin pyxref1_CmpNat.l6.re (pyxref1_CmpNat.l6.once k) k pyxref1_CmpNat.l6.fit pyxref1_CmpNat.l6.fitO (pyxref1_CmpNat.l6.eq k) pyxref1_CmpNat.l6.finK pyxref1_CmpNat.l6.finK_eq
theorem pyxref1_CmpNat.eq (k : Nat) (x : (List Int × List Int)) : runF (pyxref1_CmpNat.E k) (codeOf Try.f118) (pyxref1_CmpNat.mk x) pyxref1_CmpNat.re = (pyxref1_CmpNat.D k).f x := by kernel_rfl
theorem pyxref1_CmpNat.fit (s : St U) (x : (List Int × List Int)) (h : pyxref1_CmpNat.un s = some x) : Fits s (pyxref1_CmpNat.mk x) := by
  unfold pyxref1_CmpNat.un at h
  split at h
  · cases h
    refine fits_ren [] ?_ ?_ ren_nil rfl
    · exact List.forall_mem_cons.2 ⟨FV.one (FV.same (by assumption) rfl), List.forall_mem_cons.2 ⟨FV.one (FV.same (by assumption) rfl), fun _ hp => (List.not_mem_nil hp).elim⟩⟩
    · exact fun _ hp => (List.not_mem_nil hp).elim
  · cases h
theorem pyxref1_CmpNat.fitR (s : St U) (y : Int) (h : pyxref1_CmpNat.re s = some y) : Fits s (pyxref1_CmpNat.fin y) := by
  unfold pyxref1_CmpNat.re at h
  split at h
  · cases h
    refine fits_ren [] ?_ ?_ ren_nil rfl
    · exact List.forall_mem_cons.2 ⟨FV.one (FV.same (by assumption) rfl), fun _ hp => (List.not_mem_nil hp).elim⟩
    · exact fun _ hp => (List.not_mem_nil hp).elim
  · cases h
theorem pyxref1_CmpNat.sound (k : Nat) : Sound Try.prog DD 118 (pyxref1_CmpNat.D k) :=
  fun_sound (E := pyxref1_CmpNat.E k) (fn := Try.f118) (c := codeOf Try.f118) (pyxref1_CmpNat.ok k) mixed rfl Try.func118 (by kernel_rfl) (by kernel_rfl) (allL_of (l := [loopAt Try.f118 6]) (by kernel_rfl) (allL_cons (key := 6) (by kernel_rfl) rfl (pyxref1_CmpNat.l6.sound k) allL_nil)) (pyxref1_CmpNat.D k) pyxref1_CmpNat.mk pyxref1_CmpNat.re (by kernel_rfl) (by kernel_rfl) pyxref1_CmpNat.fit pyxref1_CmpNat.fitR (pyxref1_CmpNat.eq k)
/-! ### pyx/pyxref1.SubNat: function 119 -/
noncomputable def pyxref1_SubNat.l4.once (k : Nat) (x : (List Int × List Int × List Int × Int × Int)) : Option ((List Int × List Int × List Int × Int × Int) ⊕ (List Int)) := match x with | (x1, x2, x3, x4, x5) => cond (decide (x5 < (List.length x1 : Int))) (((cond (inb x5 (List.length x1)) ((pyxref1_digit.f k x2 x5).bind fun t6 => (((cond (decide ((IntKind.wrap .i64 ((IntKind.wrap .i64 ((List.getD x1 (Int.toNat x5) 0) - t6)) - x4)) < 0)) (some (x1, x2, x3, 1, x5, IntKind.wrap .i64 ((IntKind.wrap .i64 ((IntKind.wrap .i64 ((List.getD x1 (Int.toNat x5) 0) - t6)) - x4)) + 10))) (some (x1, x2, x3, 0, x5, IntKind.wrap .i64 ((IntKind.wrap .i64 ((List.getD x1 (Int.toNat x5) 0) - t6)) - x4)))) : Option (List Int × List Int × List Int × Int × Int × Int)).bind fun y13 => (cond (okLen (List.length y13.2.2.1 + List.length [y13.2.2.2.2.2]) 8) (some (y13.1, y13.2.1, y13.2.2.1 ++ [y13.2.2.2.2.2], y13.2.2.2.1, y13.2.2.2.2.1)) none))) none) : Option (List Int × List Int × List Int × Int × Int)).bind fun y19 => (some (.inl (y19.1, y19.2.1, y19.2.2.1, y19.2.2.2.1, IntKind.wrap .i64 (y19.2.2.2.2 + 1))))) (some (.inr x3))
noncomputable def pyxref1_SubNat.f (k : Nat) (a0 : List Int) (a1 : List Int) : Option (List Int) := (iter (pyxref1_SubNat.l4.once k) k (a0, a1, ([] : List Int), 0, 0)).bind fun y21 => ((pyxref1_trim.f k y21).bind fun t22 => (some t22))
noncomputable def pyxref1_SubNat.un (s : St U) : Option (List Int × List Int) := match s.get 0, s.get 1 with | .row C.i64 x1, .row C.i64 x2 => some (x1, x2) | _, _ => none
noncomputable def pyxref1_SubNat.mk (x : (List Int × List Int)) : St U := ⟨[(0, .row C.i64 x.1), (1, .row C.i64 x.2)], []⟩
noncomputable def pyxref1_SubNat.fin (y : List Int) : St U := ⟨[(0, .row C.i64 y)], []⟩
noncomputable def pyxref1_SubNat.D (k : Nat) : FDen U := { X := (List Int × List Int), Y := List Int, nt := 35, gh := [], un := pyxref1_SubNat.un, f := fun x => pyxref1_SubNat.f k (x.1) (x.2), fin := pyxref1_SubNat.fin, cl := true, clo := fun _ _ => rfl }
noncomputable def pyxref1_SubNat.re (s : St U) : Option (List Int) := match s.get 0 with | .row C.i64 x1 => some x1 | _ => none
noncomputable def pyxref1_SubNat.l4.mk (x : (List Int × List Int × List Int × Int × Int)) : St U := match x with | (x1, x2, x3, x4, x5) => ⟨[(0, .row C.i64 x1), (1, .row C.i64 x2), (5, .tip 1004005 C.i64 x3), (6, .flat (.int .i64 x4)), (7, .flat (.int .i64 x5))], [(1004005, .tip 1)]⟩
noncomputable def pyxref1_SubNat.l4.un (s : St U) : Option (List Int × List Int × List Int × Int × Int) := (row_i64 (s.get 0)).bind fun q0 => ((row_i64 (s.get 1)).bind fun q1 => ((tip_i64 s.o 1 (s.get 5)).bind fun q2 => (match s.get 6, s.get 7 with | .flat (.int .i64 x4), .flat (.int .i64 x5) => some (q0, q1, q2.2, x4, x5) | _, _ => none)))
noncomputable def pyxref1_SubNat.l4.fin (y : List Int) : Out U := match y with | x20 => .exit 0 ⟨[(5, .tip 1004005 C.i64 x20)], [(1004005, .tip 1)]⟩
noncomputable def pyxref1_SubNat.l4.finK {ρ : Type} (y : List Int) (K : Out U → Option ρ) : Option ρ := match y with | x20 => K (.exit 0 ⟨[(5, .tip 1004005 C.i64 x20)], [(1004005, .tip 1)]⟩)
theorem pyxref1_SubNat.l4.finK_eq {ρ : Type} (y : List Int) (K : Out U → Option ρ) : pyxref1_SubNat.l4.finK y K = K (pyxref1_SubNat.l4.fin y) := by
  unfold pyxref1_SubNat.l4.finK pyxref1_SubNat.l4.fin
  first | rfl | (split <;> rfl)
noncomputable def pyxref1_SubNat.l4.re : Out U → Option (List Int) | .exit 0 s => ((tip_i64 s.o 1 (s.get 5)).bind fun q0 => (some q0.2)) | _ => none
noncomputable def pyxref1_SubNat.l4.L (k : Nat) : LDen U := { X := (List Int × List Int × List Int × Int × Int), Y := List Int, un := pyxref1_SubNat.l4.un, f := iter (pyxref1_SubNat.l4.once k) k, fin := pyxref1_SubNat.l4.fin, finK := pyxref1_SubNat.l4.finK, finK_eq := pyxref1_SubNat.l4.finK_eq }
noncomputable def pyxref1_SubNat.j9001.fin (y : (List Int × List Int × List Int × Int × Int × Int)) : Out U := match y with | (x7, x8, x9, x10, x11, x12) => .norm ⟨[(0, .row C.i64 x7), (1, .row C.i64 x8), (5, .tip 1010001005 C.i64 x9), (6, .flat (.int .i64 x10)), (7, .flat (.int .i64 x11)), (8, .flat (.int .i64 x12))], [(1010001005, .tip 1)]⟩
noncomputable def pyxref1_SubNat.j9001.finK {ρ : Type} (y : (List Int × List Int × List Int × Int × Int × Int)) (K : Out U → Option ρ) : Option ρ := match y with | (x7, x8, x9, x10, x11, x12) => K (.norm ⟨[(0, .row C.i64 x7), (1, .row C.i64 x8), (5, .tip 1010001005 C.i64 x9), (6, .flat (.int .i64 x10)), (7, .flat (.int .i64 x11)), (8, .flat (.int .i64 x12))], [(1010001005, .tip 1)]⟩)
theorem pyxref1_SubNat.j9001.finK_eq {ρ : Type} (y : (List Int × List Int × List Int × Int × Int × Int)) (K : Out U → Option ρ) : pyxref1_SubNat.j9001.finK y K = K (pyxref1_SubNat.j9001.fin y) := by
  unfold pyxref1_SubNat.j9001.finK pyxref1_SubNat.j9001.fin
  first | rfl | (split <;> rfl)
noncomputable def pyxref1_SubNat.j9001.re : Out U → Option ((List Int × List Int × List Int × Int × Int × Int)) | .norm s => ((row_i64 (s.get 0)).bind fun q0 => ((row_i64 (s.get 1)).bind fun q1 => ((tip_i64 s.o 1 (s.get 5)).bind fun q2 => (match s.get 6, s.get 7, s.get 8 with | .flat (.int .i64 x10), .flat (.int .i64 x11), .flat (.int .i64 x12) => some (q0, q1, q2.2, x10, x11, x12) | _, _, _ => none)))) | _ => none
noncomputable def pyxref1_SubNat.j9001.J : JDen U := { Y := (List Int × List Int × List Int × Int × Int × Int), re := pyxref1_SubNat.j9001.re, fin := pyxref1_SubNat.j9001.fin, finK := pyxref1_SubNat.j9001.finK, finK_eq := pyxref1_SubNat.j9001.finK_eq }
theorem pyxref1_SubNat.j9001.fit (o : Out U) (y : (List Int × List Int × List Int × Int × Int × Int)) (h : pyxref1_SubNat.j9001.re o = some y) : FitsO o (pyxref1_SubNat.j9001.fin y) := by
  unfold pyxref1_SubNat.j9001.re at h
  split at h
  · obtain ⟨q0, eq0, h1⟩ := Option.bind_eq_some_iff.1 h
    obtain ⟨q1, eq1, h2⟩ := Option.bind_eq_some_iff.1 h1
    obtain ⟨q2, eq2, h3⟩ := Option.bind_eq_some_iff.1 h2
    split at h3
    · cases h3
      refine fitsO_norm (fits_ren [(1010001005, q2.1)] ?_ ?_ ren_one rfl)
      · exact List.forall_mem_cons.2 ⟨FV.one (row_i64_fit eq0), List.forall_mem_cons.2 ⟨FV.one (row_i64_fit eq1), List.forall_mem_cons.2 ⟨FV.one (tip_i64_fit eq2 rfl).1, List.forall_mem_cons.2 ⟨FV.one (FV.same (by assumption) rfl), List.forall_mem_cons.2 ⟨FV.one (FV.same (by assumption) rfl), List.forall_mem_cons.2 ⟨FV.one (FV.same (by assumption) rfl), fun _ hp => (List.not_mem_nil hp).elim⟩⟩⟩⟩⟩⟩
      · exact List.forall_mem_cons.2 ⟨(tip_i64_fit eq2 rfl).2, fun _ hp => (List.not_mem_nil hp).elim⟩
    · cases h3
  · cases h
noncomputable def pyxref1_SubNat.j6001.fin (y : (List Int × List Int × List Int × Int × Int)) : Out U := match y with | (x14, x15, x16, x17, x18) => .norm ⟨[(0, .row C.i64 x14), (1, .row C.i64 x15), (5, .tip 1007001005 C.i64 x16), (6, .flat (.int .i64 x17)), (7, .flat (.int .i64 x18))], [(1007001005, .tip 1)]⟩
noncomputable def pyxref1_SubNat.j6001.finK {ρ : Type} (y : (List Int × List Int × List Int × Int × Int)) (K : Out U → Option ρ) : Option ρ := match y with | (x14, x15, x16, x17, x18) => K (.norm ⟨[(0, .row C.i64 x14), (1, .row C.i64 x15), (5, .tip 1007001005 C.i64 x16), (6, .flat (.int .i64 x17)), (7, .flat (.int .i64 x18))], [(1007001005, .tip 1)]⟩)
theorem pyxref1_SubNat.j6001.finK_eq {ρ : Type} (y : (List Int × List Int × List Int × Int × Int)) (K : Out U → Option ρ) : pyxref1_SubNat.j6001.finK y K = K (pyxref1_SubNat.j6001.fin y) := by
  unfold pyxref1_SubNat.j6001.finK pyxref1_SubNat.j6001.fin
  first | rfl | (split <;> rfl)
noncomputable def pyxref1_SubNat.j6001.re : Out U → Option ((List Int × List Int × List Int × Int × Int)) | .norm s => ((row_i64 (s.get 0)).bind fun q0 => ((row_i64 (s.get 1)).bind fun q1 => ((tip_i64 s.o 1 (s.get 5)).bind fun q2 => (match s.get 6, s.get 7 with | .flat (.int .i64 x17), .flat (.int .i64 x18) => some (q0, q1, q2.2, x17, x18) | _, _ => none)))) | _ => none
noncomputable def pyxref1_SubNat.j6001.J : JDen U := { Y := (List Int × List Int × List Int × Int × Int), re := pyxref1_SubNat.j6001.re, fin := pyxref1_SubNat.j6001.fin, finK := pyxref1_SubNat.j6001.finK, finK_eq := pyxref1_SubNat.j6001.finK_eq }
theorem pyxref1_SubNat.j6001.fit (o : Out U) (y : (List Int × List Int × List Int × Int × Int)) (h : pyxref1_SubNat.j6001.re o = some y) : FitsO o (pyxref1_SubNat.j6001.fin y) := by
  unfold pyxref1_SubNat.j6001.re at h
  split at h
  · obtain ⟨q0, eq0, h1⟩ := Option.bind_eq_some_iff.1 h
    obtain ⟨q1, eq1, h2⟩ := Option.bind_eq_some_iff.1 h1
    obtain ⟨q2, eq2, h3⟩ := Option.bind_eq_some_iff.1 h2
    split at h3
    · cases h3
      refine fitsO_norm (fits_ren [(1007001005, q2.1)] ?_ ?_ ren_one rfl)
      · exact List.forall_mem_cons.2 ⟨FV.one (row_i64_fit eq0), List.forall_mem_cons.2 ⟨FV.one (row_i64_fit eq1), List.forall_mem_cons.2 ⟨FV.one (tip_i64_fit eq2 rfl).1, List.forall_mem_cons.2 ⟨FV.one (FV.same (by assumption) rfl), List.forall_mem_cons.2 ⟨FV.one (FV.same (by assumption) rfl), fun _ hp => (List.not_mem_nil hp).elim⟩⟩⟩⟩⟩
      · exact List.forall_mem_cons.2 ⟨(tip_i64_fit eq2 rfl).2, fun _ hp => (List.not_mem_nil hp).elim⟩
    · cases h3
  · cases h
noncomputable def pyxref1_SubNat.jl : List (Nat × JDen U) := [(9001, pyxref1_SubNat.j9001.J), (6001, pyxref1_SubNat.j6001.J)]
noncomputable def pyxref1_SubNat.fl (k : Nat) : List (Nat × FDen U) := [(145, pyxref1_digit.D k), (146, pyxref1_trim.D k)]
noncomputable def pyxref1_SubNat.ll (k : Nat) : List (Nat × LDen U) := [(4, pyxref1_SubNat.l4.L k)]
noncomputable def pyxref1_SubNat.E (k : Nat) : Env U := { P := Try.prog, D := DD, fd := lk (pyxref1_SubNat.fl k), sf := lk sl0, ld := lk (pyxref1_SubNat.ll k), jd := lk pyxref1_SubNat.jl, mode := lk [], elc := lk ec, mpc := lk mc, rts := Try.f119.resultTypes.toList, dyn := fun t => false, vecs := fun d => false, results := Try.f119.results.toList, gh := [], own := false, io := fun g i => false }
theorem pyxref1_SubNat.ok (k : Nat) : EnvOk (pyxref1_SubNat.E k) := envOk lawful (pyxref1_SubNat.fl k) sl0 (pyxref1_SubNat.ll k) pyxref1_SubNat.jl _ _ _ _ _ _ _ _ _ _ (by
  intro p hp
  simp only [pyxref1_SubNat.fl, List.mem_cons, List.not_mem_nil, or_false] at hp
  rcases hp with rfl | rfl
  · exact ⟨pyxref1_digit.sound k, enter_of Try.func145 (by kernel_rfl) (by kernel_rfl)⟩
  · exact ⟨pyxref1_trim.sound k, enter_of Try.func146 (by kernel_rfl) (by kernel_rfl)⟩) sl0_ok (by
  intro p hp
  simp only [pyxref1_SubNat.jl, List.mem_cons, List.not_mem_nil, or_false] at hp
  rcases hp with rfl | rfl
  · exact pyxref1_SubNat.j9001.fit
  · exact pyxref1_SubNat.j6001.fit)
theorem pyxref1_SubNat.l4.eq (k : Nat) (x : (List Int × List Int × List Int × Int × Int)) : evC (pyxref1_SubNat.E k) (loopAt Try.f119 4) (pyxref1_SubNat.l4.mk x) (headK pyxref1_SubNat.l4.un pyxref1_SubNat.l4.re) = pyxref1_SubNat.l4.once k x := by kernel_rfl
theorem pyxref1_SubNat.l4.fit (s : St U) (x : (List Int × List Int × List Int × Int × Int)) (h : pyxref1_SubNat.l4.un s = some x) : Fits s (pyxref1_SubNat.l4.mk x) := by
  unfold pyxref1_SubNat.l4.un at h
  obtain ⟨q0, eq0, h1⟩ := Option.bind_eq_some_iff.1 h
  obtain ⟨q1, eq1, h2⟩ := Option.bind_eq_some_iff.1 h1
  obtain ⟨q2, eq2, h3⟩ := Option.bind_eq_some_iff.1 h2
  split at h3
  · cases h3
    refine fits_ren [(1004005, q2.1)] ?_ ?_ ren_one rfl
    · exact List.forall_mem_cons.2 ⟨FV.one (row_i64_fit eq0), List.forall_mem_cons.2 ⟨FV.one (row_i64_fit eq1), List.forall_mem_cons.2 ⟨FV.one (tip_i64_fit eq2 rfl).1, List.forall_mem_cons.2 ⟨FV.one (FV.same (by assumption) rfl), List.forall_mem_cons.2 ⟨FV.one (FV.same (by assumption) rfl), fun _ hp => (List.not_mem_nil hp).elim⟩⟩⟩⟩⟩
    · exact List.forall_mem_cons.2 ⟨(tip_i64_fit eq2 rfl).2, fun _ hp => (List.not_mem_nil hp).elim⟩
  · cases h3
theorem pyxref1_SubNat.l4.fitO (o : Out U) (y : List Int) (h : pyxref1_SubNat.l4.re o = some y) : FitsO o (pyxref1_SubNat.l4.fin y) := by
  unfold pyxref1_SubNat.l4.re at h
  split at h
  · obtain ⟨q0, eq0, h1⟩ := Option.bind_eq_some_iff.1 h
    cases h1
    refine fitsO_exit (fits_ren [(1004005, q0.1)] ?_ ?_ ren_one rfl)
    · exact List.forall_mem_cons.2 ⟨FV.one (tip_i64_fit eq0 rfl).1, fun _ hp => (List.not_mem_nil hp).elim⟩
    · exact List.forall_mem_cons.2 ⟨(tip_i64_fit eq0 rfl).2, fun _ hp => (List.not_mem_nil hp).elim⟩
  · cases h
theorem pyxref1_SubNat.l4.sound (k : Nat) : LSound (pyxref1_SubNat.E k) Try.f119.ntmps Try.f119 (loopAt Try.f119 4) (pyxref1_SubNat.l4.L k) :=
  loop_sound (pyxref1_SubNat.ok k) mixed rfl (by kernel_rfl) (allL_of (l := []) (by kernel_rfl) allL_nil) pyxref1_SubNat.l4.un pyxref1_SubNat.l4.mk pyxref1_SubNat.l4.fin pyxref1_SubNat.l4.re (pyxref1_SubNat.l4.once k) k pyxref1_SubNat.l4.fit pyxref1_SubNat.l4.fitO (pyxref1_SubNat.l4.eq k) pyxref1_SubNat.l4.finK pyxref1_SubNat.l4.finK_eq
theorem pyxref1_SubNat.eq (k : Nat) (x : (List Int × List Int)) : runF (pyxref1_SubNat.E k) (codeOf Try.f119) (pyxref1_SubNat.mk x) pyxref1_SubNat.re = (pyxref1_SubNat.D k).f x := by kernel_rfl
theorem pyxref1_SubNat.fit (s : St U) (x : (List Int × List Int)) (h : pyxref1_SubNat.un s = some x) : Fits s (pyxref1_SubNat.mk x) := by
  unfold pyxref1_SubNat.un at h
  split at h
  · cases h
    refine fits_ren [] ?_ ?_ ren_nil rfl
    · exact List.forall_mem_cons.2 ⟨FV.one (FV.same (by assumption) rfl), List.forall_mem_cons.2 ⟨FV.one (FV.same (by assumption) rfl), fun _ hp => (List.not_mem_nil hp).elim⟩⟩
    · exact fun _ hp => (List.not_mem_nil hp).elim
  · cases h
theorem pyxref1_SubNat.fitR (s : St U) (y : List Int) (h : pyxref1_SubNat.re s = some y) : Fits s (pyxref1_SubNat.fin y) := by
  unfold pyxref1_SubNat.re at h
  split at h
  · cases h
    refine fits_ren [] ?_ ?_ ren_nil rfl
    · exact List.forall_mem_cons.2 ⟨FV.one (FV.same (by assumption) rfl), fun _ hp => (List.not_mem_nil hp).elim⟩
    · exact fun _ hp => (List.not_mem_nil hp).elim
  · cases h
theorem pyxref1_SubNat.sound (k : Nat) : Sound Try.prog DD 119 (pyxref1_SubNat.D k) :=
  fun_sound (E := pyxref1_SubNat.E k) (fn := Try.f119) (c := codeOf Try.f119) (pyxref1_SubNat.ok k) mixed rfl Try.func119 (by kernel_rfl) (by kernel_rfl) (allL_of (l := [loopAt Try.f119 4]) (by kernel_rfl) (allL_cons (key := 4) (by kernel_rfl) rfl (pyxref1_SubNat.l4.sound k) allL_nil)) (pyxref1_SubNat.D k) pyxref1_SubNat.mk pyxref1_SubNat.re (by kernel_rfl) (by kernel_rfl) pyxref1_SubNat.fit pyxref1_SubNat.fitR (pyxref1_SubNat.eq k)
/-! ### pyx/pyxref1.DivNat: function 137 -/
noncomputable def pyxref1_DivNat.l7.once (k : Nat) (x : (List Int × List Int × List Int × Int × List Int)) : Option ((List Int × List Int × List Int × Int × List Int) ⊕ ((List Int × List Int × List Int × Int × List Int))) := match x with | (x7, x8, x10, x11, x9) => (pyxref1_CmpNat.f k x10 x8).bind fun t12 => (cond (decide (t12 ≥ 0)) ((pyxref1_SubNat.f k x10 x8).bind fun t13 => (cond (inb x11 (List.length x9)) (cond (Nat.blt (Int.toNat x11) (List.length x9)) (cond (inb x11 (List.length x9)) (cond (Nat.blt (Int.toNat x11) (List.length x9)) (some (.inl (x7, x8, t13, x11, List.set x9 (Int.toNat x11) (IntKind.wrap .i64 ((List.getD x9 (Int.toNat x11) 0) + 1))))) none) none) none) none)) (some (.inr (x7, x8, x10, x11, x9))))
noncomputable def pyxref1_DivNat.l4.once (k : Nat) (x : (List Int × List Int × List Int × Int × List Int)) : Option ((List Int × List Int × List Int × Int × List Int) ⊕ ((List Int × List Int))) := match x with | (x1, x2, x4, x5, x3) => cond (decide (x5 ≥ 0)) (cond (inb x5 (List.length x1)) (cond (okLen (List.length [List.getD x1 (Int.toNat x5) 0] + List.length x4) 8) ((pyxref1_trim.f k ([List.getD x1 (Int.toNat x5) 0] ++ x4)).bind fun t6 => ((iter (pyxref1_DivNat.l7.once k) k (x1, x2, t6, x5, x3)).bind fun y19 => (some (.inl (y19.1, y19.2.1, y19.2.2.1, IntKind.wrap .i64 (y19.2.2.2.1 - 1), y19.2.2.2.2))))) none) none) (some (.inr (x4, x3)))
noncomputable def pyxref1_DivNat.f (k : Nat) (a0 : List Int) (a1 : List Int) : Option (List Int × List Int) := cond ((decide (0 ≤ (List.length a0 : Int)) && decide ((List.length a0 : Int) = (List.length a0 : Int))) && decide ((List.length a0 : Int) * 8 ≤ 140737488355328)) ((iter (pyxref1_DivNat.l4.once k) k (a0, a1, ([] : List Int), IntKind.wrap .i64 ((List.length a0 : Int) - 1), List.replicate (Int.toNat (List.length a0 : Int)) (0 : Int))).bind fun y22 => ((pyxref1_trim.f k y22.2).bind fun t23 => (some (t23, y22.1)))) none
noncomputable def pyxref1_DivNat.un (s : St U) : Option (List Int × List Int) := match s.get 0, s.get 1 with | .row C.i64 x1, .row C.i64 x2 => some (x1, x2) | _, _ => none
noncomputable def pyxref1_DivNat.mk (x : (List Int × List Int)) : St U := ⟨[(0, .row C.i64 x.1), (1, .row C.i64 x.2)], []⟩
noncomputable def pyxref1_DivNat.fin (y : (List Int × List Int)) : St U := ⟨[(0, .tup [.row C.i64 y.1, .row C.i64 y.2])], []⟩
noncomputable def pyxref1_DivNat.D (k : Nat) : FDen U := { X := (List Int × List Int), Y := (List Int × List Int), nt := 43, gh := [], un := pyxref1_DivNat.un, f := fun x => pyxref1_DivNat.f k (x.1) (x.2), fin := pyxref1_DivNat.fin, cl := true, clo := fun _ _ => rfl }
noncomputable def pyxref1_DivNat.re (s : St U) : Option (List Int × List Int) := match s.get 0 with | .tup [.row C.i64 x1, .row C.i64 x2] => some (x1, x2) | _ => none
noncomputable def pyxref1_DivNat.l7.mk (x : (List Int × List Int × List Int × Int × List Int)) : St U := match x with | (x7, x8, x10, x11, x9) => ⟨[(0, .row C.i64 x7), (1, .row C.i64 x8), (6, .vs 1007006), (7, .row C.i64 x10), (8, .flat (.int .i64 x11))], [(1007006, .vec C.i64 x9)]⟩
noncomputable def pyxref1_DivNat.l7.un (s : St U) : Option (List Int × List Int × List Int × Int × List Int) := (row_i64 (s.get 0)).bind fun q0 => ((row_i64 (s.get 1)).bind fun q1 => ((vec_i64 s.o (s.get 6)).bind fun q2 => ((row_i64 (s.get 7)).bind fun q3 => (match s.get 8 with | .flat (.int .i64 x11) => some (q0, q1, q3, x11, q2.2) | _ => none))))
noncomputable def pyxref1_DivNat.l7.fin (y : (List Int × List Int × List Int × Int × List Int)) : Out U := match y with | (x14, x15, x17, x18, x16) => .exit 2 ⟨[(0, .row C.i64 x14), (1, .row C.i64 x15), (6, .vs 1007006), (7, .row C.i64 x17), (8, .flat (.int .i64 x18))], [(1007006, .vec C.i64 x16)]⟩
noncomputable def pyxref1_DivNat.l7.finK {ρ : Type} (y : (List Int × List Int × List Int × Int × List Int)) (K : Out U → Option ρ) : Option ρ := match y with | (x14, x15, x17, x18, x16) => K (.exit 2 ⟨[(0, .row C.i64 x14), (1, .row C.i64 x15), (6, .vs 1007006), (7, .row C.i64 x17), (8, .flat (.int .i64 x18))], [(1007006, .vec C.i64 x16)]⟩)
theorem pyxref1_DivNat.l7.finK_eq {ρ : Type} (y : (List Int × List Int × List Int × Int × List Int)) (K : Out U → Option ρ) : pyxref1_DivNat.l7.finK y K = K (pyxref1_DivNat.l7.fin y) := by
  unfold pyxref1_DivNat.l7.finK pyxref1_DivNat.l7.fin
  first | rfl | (split <;> rfl)
noncomputable def pyxref1_DivNat.l7.re : Out U → Option ((List Int × List Int × List Int × Int × List Int)) | .exit 2 s => ((row_i64 (s.get 0)).bind fun q0 => ((row_i64 (s.get 1)).bind fun q1 => ((vec_i64 s.o (s.get 6)).bind fun q2 => ((row_i64 (s.get 7)).bind fun q3 => (match s.get 8 with | .flat (.int .i64 x18) => some (q0, q1, q3, x18, q2.2) | _ => none))))) | _ => none
noncomputable def pyxref1_DivNat.l7.L (k : Nat) : LDen U := { X := (List Int × List Int × List Int × Int × List Int), Y := (List Int × List Int × List Int × Int × List Int), un := pyxref1_DivNat.l7.un, f := iter (pyxref1_DivNat.l7.once k) k, fin := pyxref1_DivNat.l7.fin, finK := pyxref1_DivNat.l7.finK, finK_eq := pyxref1_DivNat.l7.finK_eq }
noncomputable def pyxref1_DivNat.l4.mk (x : (List Int × List Int × List Int × Int × List Int)) : St U := match x with | (x1, x2, x4, x5, x3) => ⟨[(0, .row C.i64 x1), (1, .row C.i64 x2), (6, .vs 1004006), (7, .row C.i64 x4), (8, .flat (.int .i64 x5))], [(1004006, .vec C.i64 x3)]⟩
noncomputable def pyxref1_DivNat.l4.un (s : St U) : Option (List Int × List Int × List Int × Int × List Int) := (row_i64 (s.get 0)).bind fun q0 => ((row_i64 (s.get 1)).bind fun q1 => ((vec_i64 s.o (s.get 6)).bind fun q2 => ((row_i64 (s.get 7)).bind fun q3 => (match s.get 8 with | .flat (.int .i64 x5) => some (q0, q1, q3, x5, q2.2) | _ => none))))
noncomputable def pyxref1_DivNat.l4.fin (y : (List Int × List Int)) : Out U := match y with | (x21, x20) => .exit 0 ⟨[(6, .vs 1004006), (7, .row C.i64 x21)], [(1004006, .vec C.i64 x20)]⟩
noncomputable def pyxref1_DivNat.l4.finK {ρ : Type} (y : (List Int × List Int)) (K : Out U → Option ρ) : Option ρ := match y with | (x21, x20) => K (.exit 0 ⟨[(6, .vs 1004006), (7, .row C.i64 x21)], [(1004006, .vec C.i64 x20)]⟩)
theorem pyxref1_DivNat.l4.finK_eq {ρ : Type} (y : (List Int × List Int)) (K : Out U → Option ρ) : pyxref1_DivNat.l4.finK y K = K (pyxref1_DivNat.l4.fin y) := by
  unfold pyxref1_DivNat.l4.finK pyxref1_DivNat.l4.fin
  first | rfl | (split <;> rfl)
noncomputable def pyxref1_DivNat.l4.re : Out U → Option ((List Int × List Int)) | .exit 0 s => ((vec_i64 s.o (s.get 6)).bind fun q0 => ((row_i64 (s.get 7)).bind fun q1 => (some (q1, q0.2)))) | _ => none
noncomputable def pyxref1_DivNat.l4.L (k : Nat) : LDen U := { X := (List Int × List Int × List Int × Int × List Int), Y := (List Int × List Int), un := pyxref1_DivNat.l4.un, f := iter (pyxref1_DivNat.l4.once k) k, fin := pyxref1_DivNat.l4.fin, finK := pyxref1_DivNat.l4.finK, finK_eq := pyxref1_DivNat.l4.finK_eq }
noncomputable def pyxref1_DivNat.jl : List (Nat × JDen U) := []
noncomputable def pyxref1_DivNat.fl (k : Nat) : List (Nat × FDen U) := [(146, pyxref1_trim.D k), (118, pyxref1_CmpNat.D k), (119, pyxref1_SubNat.D k)]
noncomputable def pyxref1_DivNat.ll (k : Nat) : List (Nat × LDen U) := [(7, pyxref1_DivNat.l7.L k), (4, pyxref1_DivNat.l4.L k)]
noncomputable def pyxref1_DivNat.E (k : Nat) : Env U := { P := Try.prog, D := DD, fd := lk (pyxref1_DivNat.fl k), sf := lk sl0, ld := lk (pyxref1_DivNat.ll k), jd := lk pyxref1_DivNat.jl, mode := lk [], elc := lk ec, mpc := lk mc, rts := Try.f137.resultTypes.toList, dyn := fun t => false, vecs := fun d => Nat.beq d 11, results := Try.f137.results.toList, gh := [], own := false, io := fun g i => false }
theorem pyxref1_DivNat.ok (k : Nat) : EnvOk (pyxref1_DivNat.E k) := envOk lawful (pyxref1_DivNat.fl k) sl0 (pyxref1_DivNat.ll k) pyxref1_DivNat.jl _ _ _ _ _ _ _ _ _ _ (by
  intro p hp
  simp only [pyxref1_DivNat.fl, List.mem_cons, List.not_mem_nil, or_false] at hp
  rcases hp with rfl | rfl | rfl
  · exact ⟨pyxref1_trim.sound k, enter_of Try.func146 (by kernel_rfl) (by kernel_rfl)⟩
  · exact ⟨pyxref1_CmpNat.sound k, enter_of Try.func118 (by kernel_rfl) (by kernel_rfl)⟩
  · exact ⟨pyxref1_SubNat.sound k, enter_of Try.func119 (by kernel_rfl) (by kernel_rfl)⟩) sl0_ok (by
  intro p hp
  simp [pyxref1_DivNat.jl] at hp)
theorem pyxref1_DivNat.l7.eq (k : Nat) (x : (List Int × List Int × List Int × Int × List Int)) : evC (pyxref1_DivNat.E k) (loopAt Try.f137 7) (pyxref1_DivNat.l7.mk x) (headK pyxref1_DivNat.l7.un pyxref1_DivNat.l7.re) = pyxref1_DivNat.l7.once k x := by kernel_rfl
theorem pyxref1_DivNat.l7.fit (s : St U) (x : (List Int × List Int × List Int × Int × List Int)) (h : pyxref1_DivNat.l7.un s = some x) : Fits s (pyxref1_DivNat.l7.mk x) := by
  unfold pyxref1_DivNat.l7.un at h
  obtain ⟨q0, eq0, h1⟩ := Option.bind_eq_some_iff.1 h
  obtain ⟨q1, eq1, h2⟩ := Option.bind_eq_some_iff.1 h1
  obtain ⟨q2, eq2, h3⟩ := Option.bind_eq_some_iff.1 h2
  obtain ⟨q3, eq3, h4⟩ := Option.bind_eq_some_iff.1 h3
  split at h4
  · cases h4
    refine fits_ren [(1007006, q2.1)] ?_ ?_ ren_one rfl
    · exact List.forall_mem_cons.2 ⟨FV.one (row_i64_fit eq0), List.forall_mem_cons.2 ⟨FV.one (row_i64_fit eq1), List.forall_mem_cons.2 ⟨FV.one (vec_i64_fit eq2 rfl).1, List.forall_mem_cons.2 ⟨FV.one (row_i64_fit eq3), List.forall_mem_cons.2 ⟨FV.one (FV.same (by assumption) rfl), fun _ hp => (List.not_mem_nil hp).elim⟩⟩⟩⟩⟩
    · exact List.forall_mem_cons.2 ⟨(vec_i64_fit eq2 rfl).2, fun _ hp => (List.not_mem_nil hp).elim⟩
  · cases h4
theorem pyxref1_DivNat.l7.fitO (o : Out U) (y : (List Int × List Int × List Int × Int × List Int)) (h : pyxref1_DivNat.l7.re o = some y) : FitsO o (pyxref1_DivNat.l7.fin y) := by
  unfold pyxref1_DivNat.l7.re at h
  split at h
  · obtain ⟨q0, eq0, h1⟩ := Option.bind_eq_some_iff.1 h
    obtain ⟨q1, eq1, h2⟩ := Option.bind_eq_some_iff.1 h1
    obtain ⟨q2, eq2, h3⟩ := Option.bind_eq_some_iff.1 h2
    obtain ⟨q3, eq3, h4⟩ := Option.bind_eq_some_iff.1 h3
    split at h4
    · cases h4
      refine fitsO_exit (fits_ren [(1007006, q2.1)] ?_ ?_ ren_one rfl)
      · exact List.forall_mem_cons.2 ⟨FV.one (row_i64_fit eq0), List.forall_mem_cons.2 ⟨FV.one (row_i64_fit eq1), List.forall_mem_cons.2 ⟨FV.one (vec_i64_fit eq2 rfl).1, List.forall_mem_cons.2 ⟨FV.one (row_i64_fit eq3), List.forall_mem_cons.2 ⟨FV.one (FV.same (by assumption) rfl), fun _ hp => (List.not_mem_nil hp).elim⟩⟩⟩⟩⟩
      · exact List.forall_mem_cons.2 ⟨(vec_i64_fit eq2 rfl).2, fun _ hp => (List.not_mem_nil hp).elim⟩
    · cases h4
  · cases h
theorem pyxref1_DivNat.l7.sound (k : Nat) : LSound (pyxref1_DivNat.E k) Try.f137.ntmps Try.f137 (loopAt Try.f137 7) (pyxref1_DivNat.l7.L k) :=
  loop_sound (pyxref1_DivNat.ok k) mixed rfl (by kernel_rfl) (allL_of (l := []) (by kernel_rfl) allL_nil) pyxref1_DivNat.l7.un pyxref1_DivNat.l7.mk pyxref1_DivNat.l7.fin pyxref1_DivNat.l7.re (pyxref1_DivNat.l7.once k) k pyxref1_DivNat.l7.fit pyxref1_DivNat.l7.fitO (pyxref1_DivNat.l7.eq k) pyxref1_DivNat.l7.finK pyxref1_DivNat.l7.finK_eq
theorem pyxref1_DivNat.l4.eq (k : Nat) (x : (List Int × List Int × List Int × Int × List Int)) : evC (pyxref1_DivNat.E k) (loopAt Try.f137 4) (pyxref1_DivNat.l4.mk x) (headK pyxref1_DivNat.l4.un pyxref1_DivNat.l4.re) = pyxref1_DivNat.l4.once k x := by kernel_rfl
theorem pyxref1_DivNat.l4.fit (s : St U) (x : (List Int × List Int × List Int × Int × List Int)) (h : pyxref1_DivNat.l4.un s = some x) : Fits s (pyxref1_DivNat.l4.mk x) := by
  unfold pyxref1_DivNat.l4.un at h
  obtain ⟨q0, eq0, h1⟩ := Option.bind_eq_some_iff.1 h
  obtain ⟨q1, eq1, h2⟩ := Option.bind_eq_some_iff.1 h1
  obtain ⟨q2, eq2, h3⟩ := Option.bind_eq_some_iff.1 h2
  obtain ⟨q3, eq3, h4⟩ := Option.bind_eq_some_iff.1 h3
  split at h4
  · cases h4
    refine fits_ren [(1004006, q2.1)] ?_ ?_ ren_one rfl
    · exact List.forall_mem_cons.2 ⟨FV.one (row_i64_fit eq0), List.forall_mem_cons.2 ⟨FV.one (row_i64_fit eq1), List.forall_mem_cons.2 ⟨FV.one (vec_i64_fit eq2 rfl).1, List.forall_mem_cons.2 ⟨FV.one (row_i64_fit eq3), List.forall_mem_cons.2 ⟨FV.one (FV.same (by assumption) rfl), fun _ hp => (List.not_mem_nil hp).elim⟩⟩⟩⟩⟩
    · exact List.forall_mem_cons.2 ⟨(vec_i64_fit eq2 rfl).2, fun _ hp => (List.not_mem_nil hp).elim⟩
  · cases h4
theorem pyxref1_DivNat.l4.fitO (o : Out U) (y : (List Int × List Int)) (h : pyxref1_DivNat.l4.re o = some y) : FitsO o (pyxref1_DivNat.l4.fin y) := by
  unfold pyxref1_DivNat.l4.re at h
  split at h
  · obtain ⟨q0, eq0, h1⟩ := Option.bind_eq_some_iff.1 h
    obtain ⟨q1, eq1, h2⟩ := Option.bind_eq_some_iff.1 h1
    cases h2
    refine fitsO_exit (fits_ren [(1004006, q0.1)] ?_ ?_ ren_one rfl)
    · exact List.forall_mem_cons.2 ⟨FV.one (vec_i64_fit eq0 rfl).1, List.forall_mem_cons.2 ⟨FV.one (row_i64_fit eq1), fun _ hp => (List.not_mem_nil hp).elim⟩⟩
    · exact List.forall_mem_cons.2 ⟨(vec_i64_fit eq0 rfl).2, fun _ hp => (List.not_mem_nil hp).elim⟩
  · cases h
theorem pyxref1_DivNat.l4.sound (k : Nat) : LSound (pyxref1_DivNat.E k) Try.f137.ntmps Try.f137 (loopAt Try.f137 4) (pyxref1_DivNat.l4.L k) :=
  loop_sound (pyxref1_DivNat.ok k) mixed rfl (by kernel_rfl) (allL_of (l := [loopAt Try.f137 7]) (by kernel_rfl) (allL_cons (key := 7) (by kernel_rfl) rfl (pyxref1_DivNat.l7.sound k) allL_nil)) pyxref1_DivNat.l4.un pyxref1_DivNat.l4.mk pyxref1_DivNat.l4.fin pyxref1_DivNat.l4.re (pyxref1_DivNat.l4.once k) k pyxref1_DivNat.l4.fit pyxref1_DivNat.l4.fitO (pyxref1_DivNat.l4.eq k) pyxref1_DivNat.l4.finK pyxref1_DivNat.l4.finK_eq
theorem pyxref1_DivNat.eq (k : Nat) (x : (List Int × List Int)) : runF (pyxref1_DivNat.E k) (codeOf Try.f137) (pyxref1_DivNat.mk x) pyxref1_DivNat.re = (pyxref1_DivNat.D k).f x := by kernel_rfl
theorem pyxref1_DivNat.fit (s : St U) (x : (List Int × List Int)) (h : pyxref1_DivNat.un s = some x) : Fits s (pyxref1_DivNat.mk x) := by
  unfold pyxref1_DivNat.un at h
  split at h
  · cases h
    refine fits_ren [] ?_ ?_ ren_nil rfl
    · exact List.forall_mem_cons.2 ⟨FV.one (FV.same (by assumption) rfl), List.forall_mem_cons.2 ⟨FV.one (FV.same (by assumption) rfl), fun _ hp => (List.not_mem_nil hp).elim⟩⟩
    · exact fun _ hp => (List.not_mem_nil hp).elim
  · cases h
theorem pyxref1_DivNat.fitR (s : St U) (y : (List Int × List Int)) (h : pyxref1_DivNat.re s = some y) : Fits s (pyxref1_DivNat.fin y) := by
  unfold pyxref1_DivNat.re at h
  split at h
  · cases h
    refine fits_ren [] ?_ ?_ ren_nil rfl
    · exact List.forall_mem_cons.2 ⟨FV.tup (by assumption) (FTs.cons (FVA.one (FV.same rfl rfl)) (FTs.cons (FVA.one (FV.same rfl rfl)) (FTs.nil))), fun _ hp => (List.not_mem_nil hp).elim⟩
    · exact fun _ hp => (List.not_mem_nil hp).elim
  · cases h
theorem pyxref1_DivNat.sound (k : Nat) : Sound Try.prog DD 137 (pyxref1_DivNat.D k) :=
  fun_sound (E := pyxref1_DivNat.E k) (fn := Try.f137) (c := codeOf Try.f137) (pyxref1_DivNat.ok k) mixed rfl Try.func137 (by kernel_rfl) (by kernel_rfl) (allL_of (l := [loopAt Try.f137 4]) (by kernel_rfl) (allL_cons (key := 4) (by kernel_rfl) rfl (pyxref1_DivNat.l4.sound k) allL_nil)) (pyxref1_DivNat.D k) pyxref1_DivNat.mk pyxref1_DivNat.re (by kernel_rfl) (by kernel_rfl) pyxref1_DivNat.fit pyxref1_DivNat.fitR (pyxref1_DivNat.eq k)
/-! ### pyx/pyxref1.short: function 139 -/
noncomputable def pyxref1_short.l3.once (k : Nat) (x : (List Int × Int × Int)) : Option ((List Int × Int × Int) ⊕ (Int)) := match x with | (x1, x2, x3) => cond (decide (x3 ≥ 0)) (cond (inb x3 (List.length x1)) (some (.inl (x1, IntKind.wrap .u64 ((IntKind.wrap .u64 (10 * x2)) + (IntKind.wrap .u64 (List.getD x1 (Int.toNat x3) 0))), IntKind.wrap .i64 (x3 - 1)))) none) (some (.inr x2))
noncomputable def pyxref1_short.f (k : Nat) (a0 : List Int) : Option Int := (iter (pyxref1_short.l3.once k) k (a0, 0, IntKind.wrap .i64 ((List.length a0 : Int) - 1))).bind fun y5 => (some y5)
noncomputable def pyxref1_short.un (s : St U) : Option (List Int) := match s.get 0 with | .row C.i64 x1 => some x1 | _ => none
noncomputable def pyxref1_short.mk (x : List Int) : St U := ⟨[(0, .row C.i64 x)], []⟩
noncomputable def pyxref1_short.fin (y : Int) : St U := ⟨[(0, .flat (.int .u64 y))], []⟩
noncomputable def pyxref1_short.D (k : Nat) : FDen U := { X := List Int, Y := Int, nt := 21, gh := [], un := pyxref1_short.un, f := fun x => pyxref1_short.f k (x), fin := pyxref1_short.fin, cl := true, clo := fun _ _ => rfl }
noncomputable def pyxref1_short.re (s : St U) : Option Int := match s.get 0 with | .flat (.int .u64 x1) => some x1 | _ => none
noncomputable def pyxref1_short.l3.mk (x : (List Int × Int × Int)) : St U := match x with | (x1, x2, x3) => ⟨[(0, .row C.i64 x1), (3, .flat (.int .u64 x2)), (4, .flat (.int .i64 x3))], []⟩
noncomputable def pyxref1_short.l3.un (s : St U) : Option (List Int × Int × Int) := (row_i64 (s.get 0)).bind fun q0 => (match s.get 3, s.get 4 with | .flat (.int .u64 x2), .flat (.int .i64 x3) => some (q0, x2, x3) | _, _ => none)
noncomputable def pyxref1_short.l3.fin (y : Int) : Out U := match y with | x4 => .exit 0 ⟨[(3, .flat (.int .u64 x4))], []⟩
noncomputable def pyxref1_short.l3.finK {ρ : Type} (y : Int) (K : Out U → Option ρ) : Option ρ := match y with | x4 => K (.exit 0 ⟨[(3, .flat (.int .u64 x4))], []⟩)
theorem pyxref1_short.l3.finK_eq {ρ : Type} (y : Int) (K : Out U → Option ρ) : pyxref1_short.l3.finK y K = K (pyxref1_short.l3.fin y) := by
  unfold pyxref1_short.l3.finK pyxref1_short.l3.fin
  first | rfl | (split <;> rfl)
noncomputable def pyxref1_short.l3.re : Out U → Option (Int) | .exit 0 s => (match s.get 3 with | .flat (.int .u64 x4) => some x4 | _ => none) | _ => none
noncomputable def pyxref1_short.l3.L (k : Nat) : LDen U := { X := (List Int × Int × Int), Y := Int, un := pyxref1_short.l3.un, f := iter (pyxref1_short.l3.once k) k, fin := pyxref1_short.l3.fin, finK := pyxref1_short.l3.finK, finK_eq := pyxref1_short.l3.finK_eq }
noncomputable def pyxref1_short.jl : List (Nat × JDen U) := []
noncomputable def pyxref1_short.fl (k : Nat) : List (Nat × FDen U) := []
noncomputable def pyxref1_short.ll (k : Nat) : List (Nat × LDen U) := [(3, pyxref1_short.l3.L k)]
noncomputable def pyxref1_short.E (k : Nat) : Env U := { P := Try.prog, D := DD, fd := lk (pyxref1_short.fl k), sf := lk sl0, ld := lk (pyxref1_short.ll k), jd := lk pyxref1_short.jl, mode := lk [], elc := lk ec, mpc := lk mc, rts := Try.f139.resultTypes.toList, dyn := fun t => false, vecs := fun d => false, results := Try.f139.results.toList, gh := [], own := false, io := fun g i => false }
theorem pyxref1_short.ok (k : Nat) : EnvOk (pyxref1_short.E k) := envOk lawful (pyxref1_short.fl k) sl0 (pyxref1_short.ll k) pyxref1_short.jl _ _ _ _ _ _ _ _ _ _ (by
  intro p hp
  simp [pyxref1_short.fl] at hp) sl0_ok (by
  intro p hp
  simp [pyxref1_short.jl] at hp)
theorem pyxref1_short.l3.eq (k : Nat) (x : (List Int × Int × Int)) : evC (pyxref1_short.E k) (loopAt Try.f139 3) (pyxref1_short.l3.mk x) (headK pyxref1_short.l3.un pyxref1_short.l3.re) = pyxref1_short.l3.once k x := by kernel_rfl
theorem pyxref1_short.l3.fit (s : St U) (x : (List Int × Int × Int)) (h : pyxref1_short.l3.un s = some x) : Fits s (pyxref1_short.l3.mk x) := by
  unfold pyxref1_short.l3.un at h
  obtain ⟨q0, eq0, h1⟩ := Option.bind_eq_some_iff.1 h
  split at h1
  · cases h1
    refine fits_ren [] ?_ ?_ ren_nil rfl
    · exact List.forall_mem_cons.2 ⟨FV.one (row_i64_fit eq0), List.forall_mem_cons.2 ⟨FV.one (FV.same (by assumption) rfl), List.forall_mem_cons.2 ⟨FV.one (FV.same (by assumption) rfl), fun _ hp => (List.not_mem_nil hp).elim⟩⟩⟩
    · exact fun _ hp => (List.not_mem_nil hp).elim
  · cases h1
theorem pyxref1_short.l3.fitO (o : Out U) (y : Int) (h : pyxref1_short.l3.re o = some y) : FitsO o (pyxref1_short.l3.fin y) := by
  unfold pyxref1_short.l3.re at h
  split at h
  · split at h
    · cases h
      refine fitsO_exit (fits_ren [] ?_ ?_ ren_nil rfl)
      · exact List.forall_mem_cons.2 ⟨FV.one (FV.same (by assumption) rfl), fun _ hp => (List.not_mem_nil hp).elim⟩
      · exact fun _ hp => (List.not_mem_nil hp).elim
    · cases h
  · cases h
theorem pyxref1_short.l3.sound (k : Nat) : LSound (pyxref1_short.E k) Try.f139.ntmps Try.f139 (loopAt Try.f139 3) (pyxref1_short.l3.L k) :=
  loop_sound (pyxref1_short.ok k) mixed rfl (by kernel_rfl) (allL_of (l := []) (by kernel_rfl) allL_nil) pyxref1_short.l3.un pyxref1_short.l3.mk pyxref1_short.l3.fin pyxref1_short.l3.re (pyxref1_short.l3.once k) k pyxref1_short.l3.fit pyxref1_short.l3.fitO (pyxref1_short.l3.eq k) pyxref1_short.l3.finK pyxref1_short.l3.finK_eq
theorem pyxref1_short.eq (k : Nat) (x : List Int) : runF (pyxref1_short.E k) (codeOf Try.f139) (pyxref1_short.mk x) pyxref1_short.re = (pyxref1_short.D k).f x := by kernel_rfl
theorem pyxref1_short.fit (s : St U) (x : List Int) (h : pyxref1_short.un s = some x) : Fits s (pyxref1_short.mk x) := by
  unfold pyxref1_short.un at h
  split at h
  · cases h
    refine fits_ren [] ?_ ?_ ren_nil rfl
    · exact List.forall_mem_cons.2 ⟨FV.one (FV.same (by assumption) rfl), fun _ hp => (List.not_mem_nil hp).elim⟩
    · exact fun _ hp => (List.not_mem_nil hp).elim
  · cases h
theorem pyxref1_short.fitR (s : St U) (y : Int) (h : pyxref1_short.re s = some y) : Fits s (pyxref1_short.fin y) := by
  unfold pyxref1_short.re at h
  split at h
  · cases h
    refine fits_ren [] ?_ ?_ ren_nil rfl
    · exact List.forall_mem_cons.2 ⟨FV.one (FV.same (by assumption) rfl), fun _ hp => (List.not_mem_nil hp).elim⟩
    · exact fun _ hp => (List.not_mem_nil hp).elim
  · cases h
theorem pyxref1_short.sound (k : Nat) : Sound Try.prog DD 139 (pyxref1_short.D k) :=
  fun_sound (E := pyxref1_short.E k) (fn := Try.f139) (c := codeOf Try.f139) (pyxref1_short.ok k) mixed rfl Try.func139 (by kernel_rfl) (by kernel_rfl) (allL_of (l := [loopAt Try.f139 3]) (by kernel_rfl) (allL_cons (key := 3) (by kernel_rfl) rfl (pyxref1_short.l3.sound k) allL_nil)) (pyxref1_short.D k) pyxref1_short.mk pyxref1_short.re (by kernel_rfl) (by kernel_rfl) pyxref1_short.fit pyxref1_short.fitR (pyxref1_short.eq k)
end
end Go.Proofs.Ytlaogfkgkpgofaa
