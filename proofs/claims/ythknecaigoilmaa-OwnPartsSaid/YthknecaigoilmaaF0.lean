import Derived.Test.YthknecaigoilmaaU
/-! Functions, told; their equations with the evaluator; that they are sound. Written by gen.py. -/
namespace Go.Proofs.Ythknecaigoilmaa
open Go Go.Ev
noncomputable section
set_option linter.unusedVariables false
set_option linter.unusedSimpArgs false
set_option maxRecDepth 100000
/-! ### pyx/pyxhand.Pick: function 21 -/
noncomputable def pyxhand_Pick.f (k : Nat) (a0 : Int) (a1 : Int) : Option Int := cond (a1 == 0) none (cond (decide ((Int.tmod a0 a1) < 0)) (some (IntKind.wrap .i64 ((Int.tmod a0 a1) + a1))) (some (Int.tmod a0 a1)))
noncomputable def pyxhand_Pick.un : List (AV U) → Option (Int × Int) | [.flat (.int .i64 x1), .flat (.int .i64 x2)] => some (x1, x2) | _ => none
noncomputable def pyxhand_Pick.mk (x : (Int × Int)) : List (AV U) := [.flat (.int .i64 x.1), .flat (.int .i64 x.2)]
noncomputable def pyxhand_Pick.D (k : Nat) : FDen U := { X := (Int × Int), Y := Int, un := pyxhand_Pick.un, f := fun x => pyxhand_Pick.f k (x.1) (x.2), fin := fun y => .flat (.int .i64 y) }
noncomputable def pyxhand_Pick.re : AV U → Option Int | .flat (.int .i64 x1) => some x1 | _ => none
noncomputable def pyxhand_Pick.jl : List (Nat × JDen U) := []
noncomputable def pyxhand_Pick.fl (k : Nat) : List (Nat × FDen U) := []
noncomputable def pyxhand_Pick.ll (k : Nat) : List (Nat × LDen U) := []
noncomputable def pyxhand_Pick.E (k : Nat) : Env U := { P := Try.prog, D := DD, fd := lk (pyxhand_Pick.fl k), ld := lk (pyxhand_Pick.ll k), jd := lk pyxhand_Pick.jl, mode := lk [], elc := lk ec, dyn := fun t => false, vecs := fun d => false, results := Try.f21.results.toList }
theorem pyxhand_Pick.ok (k : Nat) : EnvOk (pyxhand_Pick.E k) := envOk lawful (pyxhand_Pick.fl k) (pyxhand_Pick.ll k) pyxhand_Pick.jl _ _ _ _ _ (by
  intro p hp
  simp [pyxhand_Pick.fl] at hp) (by
  intro p hp
  simp [pyxhand_Pick.jl] at hp)
theorem pyxhand_Pick.eq (k : Nat) (x : (Int × Int)) : runF (pyxhand_Pick.E k) (codeOf Try.f21) (pyxhand_Pick.mk x) pyxhand_Pick.re = (pyxhand_Pick.D k).f x := by kernel_rfl
theorem pyxhand_Pick.sound (k : Nat) : Sound Try.prog DD 21 (pyxhand_Pick.D k) :=
  fun_sound (E := pyxhand_Pick.E k) (fn := Try.f21) (c := codeOf Try.f21) (pyxhand_Pick.ok k) mixed rfl Try.func21 (by kernel_rfl) (by kernel_rfl) (allL_of (l := []) (by kernel_rfl) allL_nil) (pyxhand_Pick.D k) pyxhand_Pick.mk pyxhand_Pick.re
    (by intro args x h; replace h : pyxhand_Pick.un args = some x := h; unfold pyxhand_Pick.un at h; split at h; · cases h; rfl
        · cases h)
    (by intro v y h; unfold pyxhand_Pick.re at h; split at h; · cases h; rfl
        · cases h)
    (fun _ => rfl) (fun x => Nat.le_of_ble_eq_true (by kernel_rfl)) (pyxhand_Pick.eq k)
/-! ### pyx/pyxlaw1.word: function 63 -/
noncomputable def pyxlaw1_word.f (k : Nat) (a0 : Int) (a1 : Int) : Option Int := (pyxhand_Pick.f k a1 5).bind fun t1 => (cond (t1 == 0) (some (Int.tmod a0 16)) (cond (t1 == 1) (some (IntKind.wrap .u64 (18446744073709551615 - (Int.tmod a0 16)))) (cond (t1 == 2) (cond (decide (Int.tmod a0 64 < 0)) none (some (IntKind.wrap .u64 (1 * 2 ^ (min (Int.toNat (Int.tmod a0 64)) 64))))) (some a0))))
noncomputable def pyxlaw1_word.un : List (AV U) → Option (Int × Int) | [.flat (.int .u64 x1), .flat (.int .i64 x2)] => some (x1, x2) | _ => none
noncomputable def pyxlaw1_word.mk (x : (Int × Int)) : List (AV U) := [.flat (.int .u64 x.1), .flat (.int .i64 x.2)]
noncomputable def pyxlaw1_word.D (k : Nat) : FDen U := { X := (Int × Int), Y := Int, un := pyxlaw1_word.un, f := fun x => pyxlaw1_word.f k (x.1) (x.2), fin := fun y => .flat (.int .u64 y) }
noncomputable def pyxlaw1_word.re : AV U → Option Int | .flat (.int .u64 x1) => some x1 | _ => none
noncomputable def pyxlaw1_word.jl : List (Nat × JDen U) := []
noncomputable def pyxlaw1_word.fl (k : Nat) : List (Nat × FDen U) := [(21, pyxhand_Pick.D k)]
noncomputable def pyxlaw1_word.ll (k : Nat) : List (Nat × LDen U) := []
noncomputable def pyxlaw1_word.E (k : Nat) : Env U := { P := Try.prog, D := DD, fd := lk (pyxlaw1_word.fl k), ld := lk (pyxlaw1_word.ll k), jd := lk pyxlaw1_word.jl, mode := lk [], elc := lk ec, dyn := fun t => false, vecs := fun d => false, results := Try.f63.results.toList }
theorem pyxlaw1_word.ok (k : Nat) : EnvOk (pyxlaw1_word.E k) := envOk lawful (pyxlaw1_word.fl k) (pyxlaw1_word.ll k) pyxlaw1_word.jl _ _ _ _ _ (by
  intro p hp
  simp only [pyxlaw1_word.fl, List.mem_cons, List.not_mem_nil, or_false] at hp
  rcases hp with rfl
  · exact ⟨pyxhand_Pick.sound k, enter_of Try.func21 (by kernel_rfl) (by kernel_rfl)⟩) (by
  intro p hp
  simp [pyxlaw1_word.jl] at hp)
theorem pyxlaw1_word.eq (k : Nat) (x : (Int × Int)) : runF (pyxlaw1_word.E k) (codeOf Try.f63) (pyxlaw1_word.mk x) pyxlaw1_word.re = (pyxlaw1_word.D k).f x := by kernel_rfl
theorem pyxlaw1_word.sound (k : Nat) : Sound Try.prog DD 63 (pyxlaw1_word.D k) :=
  fun_sound (E := pyxlaw1_word.E k) (fn := Try.f63) (c := codeOf Try.f63) (pyxlaw1_word.ok k) mixed rfl Try.func63 (by kernel_rfl) (by kernel_rfl) (allL_of (l := []) (by kernel_rfl) allL_nil) (pyxlaw1_word.D k) pyxlaw1_word.mk pyxlaw1_word.re
    (by intro args x h; replace h : pyxlaw1_word.un args = some x := h; unfold pyxlaw1_word.un at h; split at h; · cases h; rfl
        · cases h)
    (by intro v y h; unfold pyxlaw1_word.re at h; split at h; · cases h; rfl
        · cases h)
    (fun _ => rfl) (fun x => Nat.le_of_ble_eq_true (by kernel_rfl)) (pyxlaw1_word.eq k)
/-! ### pyx/pyxlaw1.words: function 15 -/
noncomputable def pyxlaw1_words.f (k : Nat) (a0 : Int) (a1 : Int) (a2 : Int) : Option (Int × Int) := (pyxlaw1_word.f k a0 a2).bind fun t1 => ((pyxlaw1_word.f k a1 (IntKind.wrap .i64 (Int.tdiv a2 5))).bind fun t2 => (some (t1, t2)))
noncomputable def pyxlaw1_words.un : List (AV U) → Option (Int × Int × Int) | [.flat (.int .u64 x1), .flat (.int .u64 x2), .flat (.int .i64 x3)] => some (x1, x2, x3) | _ => none
noncomputable def pyxlaw1_words.mk (x : (Int × Int × Int)) : List (AV U) := [.flat (.int .u64 x.1), .flat (.int .u64 x.2.1), .flat (.int .i64 x.2.2)]
noncomputable def pyxlaw1_words.D (k : Nat) : FDen U := { X := (Int × Int × Int), Y := (Int × Int), un := pyxlaw1_words.un, f := fun x => pyxlaw1_words.f k (x.1) (x.2.1) (x.2.2), fin := fun y => .agg [.flat (.int .u64 y.1), .flat (.int .u64 y.2)] }
noncomputable def pyxlaw1_words.re : AV U → Option (Int × Int) | .agg [.flat (.int .u64 x1), .flat (.int .u64 x2)] => some (x1, x2) | _ => none
noncomputable def pyxlaw1_words.jl : List (Nat × JDen U) := []
noncomputable def pyxlaw1_words.fl (k : Nat) : List (Nat × FDen U) := [(63, pyxlaw1_word.D k)]
noncomputable def pyxlaw1_words.ll (k : Nat) : List (Nat × LDen U) := []
noncomputable def pyxlaw1_words.E (k : Nat) : Env U := { P := Try.prog, D := DD, fd := lk (pyxlaw1_words.fl k), ld := lk (pyxlaw1_words.ll k), jd := lk pyxlaw1_words.jl, mode := lk [], elc := lk ec, dyn := fun t => false, vecs := fun d => false, results := Try.f15.results.toList }
theorem pyxlaw1_words.ok (k : Nat) : EnvOk (pyxlaw1_words.E k) := envOk lawful (pyxlaw1_words.fl k) (pyxlaw1_words.ll k) pyxlaw1_words.jl _ _ _ _ _ (by
  intro p hp
  simp only [pyxlaw1_words.fl, List.mem_cons, List.not_mem_nil, or_false] at hp
  rcases hp with rfl
  · exact ⟨pyxlaw1_word.sound k, enter_of Try.func63 (by kernel_rfl) (by kernel_rfl)⟩) (by
  intro p hp
  simp [pyxlaw1_words.jl] at hp)
theorem pyxlaw1_words.eq (k : Nat) (x : (Int × Int × Int)) : runF (pyxlaw1_words.E k) (codeOf Try.f15) (pyxlaw1_words.mk x) pyxlaw1_words.re = (pyxlaw1_words.D k).f x := by kernel_rfl
theorem pyxlaw1_words.sound (k : Nat) : Sound Try.prog DD 15 (pyxlaw1_words.D k) :=
  fun_sound (E := pyxlaw1_words.E k) (fn := Try.f15) (c := codeOf Try.f15) (pyxlaw1_words.ok k) mixed rfl Try.func15 (by kernel_rfl) (by kernel_rfl) (allL_of (l := []) (by kernel_rfl) allL_nil) (pyxlaw1_words.D k) pyxlaw1_words.mk pyxlaw1_words.re
    (by intro args x h; replace h : pyxlaw1_words.un args = some x := h; unfold pyxlaw1_words.un at h; split at h; · cases h; rfl
        · cases h)
    (by intro v y h; unfold pyxlaw1_words.re at h; split at h; · cases h; rfl
        · cases h)
    (fun _ => rfl) (fun x => Nat.le_of_ble_eq_true (by kernel_rfl)) (pyxlaw1_words.eq k)
/-! ### pyx/limb.Wide: function 20 -/
noncomputable def limb_Wide.f (k : Nat) (a0 : (Int × Int)) : Option (Int × Int × Int × Int) := some (a0.1, a0.2, 0, 0)
noncomputable def limb_Wide.un : List (AV U) → Option (Int × Int) | [.agg [.flat (.int .u64 x1), .flat (.int .u64 x2)]] => some (x1, x2) | _ => none
noncomputable def limb_Wide.mk (x : (Int × Int)) : List (AV U) := [.agg [.flat (.int .u64 x.1), .flat (.int .u64 x.2)]]
noncomputable def limb_Wide.D (k : Nat) : FDen U := { X := (Int × Int), Y := (Int × Int × Int × Int), un := limb_Wide.un, f := fun x => limb_Wide.f k (x), fin := fun y => .agg [.flat (.int .u64 y.1), .flat (.int .u64 y.2.1), .flat (.int .u64 y.2.2.1), .flat (.int .u64 y.2.2.2)] }
noncomputable def limb_Wide.re : AV U → Option (Int × Int × Int × Int) | .agg [.flat (.int .u64 x1), .flat (.int .u64 x2), .flat (.int .u64 x3), .flat (.int .u64 x4)] => some (x1, x2, x3, x4) | _ => none
noncomputable def limb_Wide.jl : List (Nat × JDen U) := []
noncomputable def limb_Wide.fl (k : Nat) : List (Nat × FDen U) := []
noncomputable def limb_Wide.ll (k : Nat) : List (Nat × LDen U) := []
noncomputable def limb_Wide.E (k : Nat) : Env U := { P := Try.prog, D := DD, fd := lk (limb_Wide.fl k), ld := lk (limb_Wide.ll k), jd := lk limb_Wide.jl, mode := lk [], elc := lk ec, dyn := fun t => false, vecs := fun d => false, results := Try.f20.results.toList }
theorem limb_Wide.ok (k : Nat) : EnvOk (limb_Wide.E k) := envOk lawful (limb_Wide.fl k) (limb_Wide.ll k) limb_Wide.jl _ _ _ _ _ (by
  intro p hp
  simp [limb_Wide.fl] at hp) (by
  intro p hp
  simp [limb_Wide.jl] at hp)
theorem limb_Wide.eq (k : Nat) (x : (Int × Int)) : runF (limb_Wide.E k) (codeOf Try.f20) (limb_Wide.mk x) limb_Wide.re = (limb_Wide.D k).f x := by kernel_rfl
theorem limb_Wide.sound (k : Nat) : Sound Try.prog DD 20 (limb_Wide.D k) :=
  fun_sound (E := limb_Wide.E k) (fn := Try.f20) (c := codeOf Try.f20) (limb_Wide.ok k) mixed rfl Try.func20 (by kernel_rfl) (by kernel_rfl) (allL_of (l := []) (by kernel_rfl) allL_nil) (limb_Wide.D k) limb_Wide.mk limb_Wide.re
    (by intro args x h; replace h : limb_Wide.un args = some x := h; unfold limb_Wide.un at h; split at h; · cases h; rfl
        · cases h)
    (by intro v y h; unfold limb_Wide.re at h; split at h; · cases h; rfl
        · cases h)
    (fun _ => rfl) (fun x => Nat.le_of_ble_eq_true (by kernel_rfl)) (limb_Wide.eq k)
/-! ### pyx/limb.Left: function 22 -/
noncomputable def limb_Left.l4.once (k : Nat) (x : (Int × Int × List Int × List Int × List Int)) : Option ((Int × Int × List Int × List Int × List Int) ⊕ ((List Int × List Int))) := match x with | (x1, x5, x2, x3, x4) => cond (decide (x5 < 4)) (((cond (decide ((IntKind.wrap .i64 (x5 - (IntKind.wrap .i64 (Int.tdiv x1 64)))) ≥ 0)) (cond (inb (IntKind.wrap .i64 (x5 - (IntKind.wrap .i64 (Int.tdiv x1 64)))) 4) (cond (Nat.blt (Int.toNat (IntKind.wrap .i64 (x5 - (IntKind.wrap .i64 (Int.tdiv x1 64))))) 4) (cond (decide (Int.tmod x1 64 < 0)) none (cond (inb x5 4) (cond (Nat.blt (Int.toNat x5) 4) (some (x1, x5, IntKind.wrap .i64 (x5 - (IntKind.wrap .i64 (Int.tdiv x1 64))), x5, x2, x3, List.set x4 (Int.toNat x5) (IntKind.wrap .u64 ((List.getD x2 (Int.toNat (IntKind.wrap .i64 (x5 - (IntKind.wrap .i64 (Int.tdiv x1 64))))) 0) * 2 ^ (min (Int.toNat (Int.tmod x1 64)) 64))))) none) none)) none) none) (some (x1, x5, IntKind.wrap .i64 (x5 - (IntKind.wrap .i64 (Int.tdiv x1 64))), x5, x2, x3, x4))) : Option (Int × Int × Int × Int × List Int × List Int × List Int)).bind fun y13 => (((cond (decide (y13.2.2.1 ≥ 1)) (some (y13.1, y13.2.1, y13.2.2.1, y13.2.2.2.1, decide ((Int.tmod y13.1 64) > 0), y13.2.2.2.2.1, y13.2.2.2.2.2.1, y13.2.2.2.2.2.2)) (some (y13.1, y13.2.1, y13.2.2.1, y13.2.2.2.1, false, y13.2.2.2.2.1, y13.2.2.2.2.2.1, y13.2.2.2.2.2.2))) : Option (Int × Int × Int × Int × Bool × List Int × List Int × List Int)).bind fun y22 => (cond (y22.2.2.2.2.1) (cond (inb y22.2.1 4) (cond (Nat.blt (Int.toNat y22.2.1) 4) (cond (inb (IntKind.wrap .i64 (y22.2.2.1 - 1)) 4) (cond (Nat.blt (Int.toNat (IntKind.wrap .i64 (y22.2.2.1 - 1))) 4) (cond (decide (IntKind.wrap .i64 (64 - (Int.tmod y22.1 64)) < 0)) none (cond (inb y22.2.1 4) (cond (Nat.blt (Int.toNat y22.2.1) 4) (some (.inl (y22.1, IntKind.wrap .i64 (y22.2.2.2.1 + 1), y22.2.2.2.2.2.1, y22.2.2.2.2.2.2.1, List.set y22.2.2.2.2.2.2.2 (Int.toNat y22.2.1) (bits .or .u64 (List.getD y22.2.2.2.2.2.2.2 (Int.toNat y22.2.1) 0) (Int.fdiv (List.getD y22.2.2.2.2.2.1 (Int.toNat (IntKind.wrap .i64 (y22.2.2.1 - 1))) 0) (2 ^ (min (Int.toNat (IntKind.wrap .i64 (64 - (Int.tmod y22.1 64)))) 64))))))) none) none)) none) none) none) none) (some (.inl (y22.1, IntKind.wrap .i64 (y22.2.2.2.1 + 1), y22.2.2.2.2.2.1, y22.2.2.2.2.2.2.1, y22.2.2.2.2.2.2.2)))))) (some (.inr (x3, x4)))
noncomputable def limb_Left.f (k : Nat) (a0 : (Int × Int × Int × Int)) (a1 : Int) : Option (Int × Int × Int × Int) := (iter (limb_Left.l4.once k) k ((if (if 256 < a1 then 256 else a1) > 0 then (if 256 < a1 then 256 else a1) else 0), 0, [a0.1, a0.2.1, a0.2.2.1, a0.2.2.2], [0, 0, 0, 0], [0, 0, 0, 0])).bind fun y25 => (some (List.getD [List.getD y25.2 0 0, List.getD y25.2 1 0, List.getD y25.2 2 0, List.getD y25.2 3 0] 0 0, List.getD [List.getD y25.2 0 0, List.getD y25.2 1 0, List.getD y25.2 2 0, List.getD y25.2 3 0] 1 0, List.getD [List.getD y25.2 0 0, List.getD y25.2 1 0, List.getD y25.2 2 0, List.getD y25.2 3 0] 2 0, List.getD [List.getD y25.2 0 0, List.getD y25.2 1 0, List.getD y25.2 2 0, List.getD y25.2 3 0] 3 0))
noncomputable def limb_Left.un : List (AV U) → Option ((Int × Int × Int × Int) × Int) | [.agg [.flat (.int .u64 x1), .flat (.int .u64 x2), .flat (.int .u64 x3), .flat (.int .u64 x4)], .flat (.int .i64 x5)] => some ((x1, x2, x3, x4), x5) | _ => none
noncomputable def limb_Left.mk (x : ((Int × Int × Int × Int) × Int)) : List (AV U) := [.agg [.flat (.int .u64 x.1.1), .flat (.int .u64 x.1.2.1), .flat (.int .u64 x.1.2.2.1), .flat (.int .u64 x.1.2.2.2)], .flat (.int .i64 x.2)]
noncomputable def limb_Left.D (k : Nat) : FDen U := { X := ((Int × Int × Int × Int) × Int), Y := (Int × Int × Int × Int), un := limb_Left.un, f := fun x => limb_Left.f k (x.1) (x.2), fin := fun y => .agg [.flat (.int .u64 y.1), .flat (.int .u64 y.2.1), .flat (.int .u64 y.2.2.1), .flat (.int .u64 y.2.2.2)] }
noncomputable def limb_Left.re : AV U → Option (Int × Int × Int × Int) | .agg [.flat (.int .u64 x1), .flat (.int .u64 x2), .flat (.int .u64 x3), .flat (.int .u64 x4)] => some (x1, x2, x3, x4) | _ => none
noncomputable def limb_Left.l4.mk (x : (Int × Int × List Int × List Int × List Int)) : St U := match x with | (x1, x5, x2, x3, x4) => ⟨[(2, .ptr 2 0), (4, .ptr 4 0), (5, .ptr 5 0), (1, .flat (.int .i64 x1)), (11, .flat (.int .i64 x5))], [(2, .arr 4 C.u64 x2), (4, .arr 4 C.u64 x3), (5, .arr 4 C.u64 x4)]⟩
noncomputable def limb_Left.l4.un (s : St U) : Option (Int × Int × List Int × List Int × List Int) := match s.get 2, s.get 4, s.get 5, s.get 1, s.get 11, lk s.o 2, lk s.o 4, lk s.o 5 with | .ptr 2 0, .ptr 4 0, .ptr 5 0, .flat (.int .i64 x1), .flat (.int .i64 x5), some (.arr 4 C.u64 x2), some (.arr 4 C.u64 x3), some (.arr 4 C.u64 x4) => some (x1, x5, x2, x3, x4) | _, _, _, _, _, _, _, _ => none
noncomputable def limb_Left.l4.fin (y : (List Int × List Int)) : Out U := match y with | (x23, x24) => .exit 0 ⟨[(4, .ptr 4 0), (5, .ptr 5 0)], [(4, .arr 4 C.u64 x23), (5, .arr 4 C.u64 x24)]⟩
noncomputable def limb_Left.l4.finK {ρ : Type} (y : (List Int × List Int)) (K : Out U → Option ρ) : Option ρ := match y with | (x23, x24) => K (.exit 0 ⟨[(4, .ptr 4 0), (5, .ptr 5 0)], [(4, .arr 4 C.u64 x23), (5, .arr 4 C.u64 x24)]⟩)
theorem limb_Left.l4.finK_eq {ρ : Type} (y : (List Int × List Int)) (K : Out U → Option ρ) : limb_Left.l4.finK y K = K (limb_Left.l4.fin y) := by
  unfold limb_Left.l4.finK limb_Left.l4.fin
  first | rfl | (split <;> rfl)
noncomputable def limb_Left.l4.re : Out U → Option ((List Int × List Int)) | .exit 0 s => (match s.get 4, s.get 5, lk s.o 4, lk s.o 5 with | .ptr 4 0, .ptr 5 0, some (.arr 4 C.u64 x23), some (.arr 4 C.u64 x24) => some (x23, x24) | _, _, _, _ => none) | _ => none
noncomputable def limb_Left.l4.L (k : Nat) : LDen U := { X := (Int × Int × List Int × List Int × List Int), Y := (List Int × List Int), un := limb_Left.l4.un, f := iter (limb_Left.l4.once k) k, fin := limb_Left.l4.fin, finK := limb_Left.l4.finK, finK_eq := limb_Left.l4.finK_eq }
noncomputable def limb_Left.j8001.fin (y : (Int × Int × Int × Int × List Int × List Int × List Int)) : Out U := match y with | (x6, x10, x11, x12, x7, x8, x9) => .norm ⟨[(2, .ptr 2 0), (4, .ptr 4 0), (5, .ptr 5 0), (1, .flat (.int .i64 x6)), (6, .flat (.int .i64 x10)), (7, .flat (.int .i64 x11)), (11, .flat (.int .i64 x12))], [(2, .arr 4 C.u64 x7), (4, .arr 4 C.u64 x8), (5, .arr 4 C.u64 x9)]⟩
noncomputable def limb_Left.j8001.finK {ρ : Type} (y : (Int × Int × Int × Int × List Int × List Int × List Int)) (K : Out U → Option ρ) : Option ρ := match y with | (x6, x10, x11, x12, x7, x8, x9) => K (.norm ⟨[(2, .ptr 2 0), (4, .ptr 4 0), (5, .ptr 5 0), (1, .flat (.int .i64 x6)), (6, .flat (.int .i64 x10)), (7, .flat (.int .i64 x11)), (11, .flat (.int .i64 x12))], [(2, .arr 4 C.u64 x7), (4, .arr 4 C.u64 x8), (5, .arr 4 C.u64 x9)]⟩)
theorem limb_Left.j8001.finK_eq {ρ : Type} (y : (Int × Int × Int × Int × List Int × List Int × List Int)) (K : Out U → Option ρ) : limb_Left.j8001.finK y K = K (limb_Left.j8001.fin y) := by
  unfold limb_Left.j8001.finK limb_Left.j8001.fin
  first | rfl | (split <;> rfl)
noncomputable def limb_Left.j8001.re : Out U → Option ((Int × Int × Int × Int × List Int × List Int × List Int)) | .norm s => (match s.get 2, s.get 4, s.get 5, s.get 1, s.get 6, s.get 7, s.get 11, lk s.o 2, lk s.o 4, lk s.o 5 with | .ptr 2 0, .ptr 4 0, .ptr 5 0, .flat (.int .i64 x6), .flat (.int .i64 x10), .flat (.int .i64 x11), .flat (.int .i64 x12), some (.arr 4 C.u64 x7), some (.arr 4 C.u64 x8), some (.arr 4 C.u64 x9) => some (x6, x10, x11, x12, x7, x8, x9) | _, _, _, _, _, _, _, _, _, _ => none) | _ => none
noncomputable def limb_Left.j8001.J : JDen U := { Y := (Int × Int × Int × Int × List Int × List Int × List Int), re := limb_Left.j8001.re, fin := limb_Left.j8001.fin, finK := limb_Left.j8001.finK, finK_eq := limb_Left.j8001.finK_eq }
theorem limb_Left.j8001.fit (o : Out U) (y : (Int × Int × Int × Int × List Int × List Int × List Int)) (h : limb_Left.j8001.re o = some y) : FitsO o (limb_Left.j8001.fin y) := by
  unfold limb_Left.j8001.re at h
  split at h
  · split at h
    · cases h
      refine fitsO_norm (fits_ren [] ?_ ?_ ren_nil rfl)
      · exact List.forall_mem_cons.2 ⟨FV.same (by assumption) (fun _ _ _ hh => by cases hh) (fun _ hh => by cases hh), List.forall_mem_cons.2 ⟨FV.same (by assumption) (fun _ _ _ hh => by cases hh) (fun _ hh => by cases hh), List.forall_mem_cons.2 ⟨FV.same (by assumption) (fun _ _ _ hh => by cases hh) (fun _ hh => by cases hh), List.forall_mem_cons.2 ⟨FV.same (by assumption) (fun _ _ _ hh => by cases hh) (fun _ hh => by cases hh), List.forall_mem_cons.2 ⟨FV.same (by assumption) (fun _ _ _ hh => by cases hh) (fun _ hh => by cases hh), List.forall_mem_cons.2 ⟨FV.same (by assumption) (fun _ _ _ hh => by cases hh) (fun _ hh => by cases hh), List.forall_mem_cons.2 ⟨FV.same (by assumption) (fun _ _ _ hh => by cases hh) (fun _ hh => by cases hh), fun _ hp => (List.not_mem_nil hp).elim⟩⟩⟩⟩⟩⟩⟩
      · exact List.forall_mem_cons.2 ⟨(show lk (St.o _) 2 = some _ from by assumption), List.forall_mem_cons.2 ⟨(show lk (St.o _) 4 = some _ from by assumption), List.forall_mem_cons.2 ⟨(show lk (St.o _) 5 = some _ from by assumption), fun _ hp => (List.not_mem_nil hp).elim⟩⟩⟩
    · cases h
  · cases h
noncomputable def limb_Left.j9000.fin (y : (Int × Int × Int × Int × Bool × List Int × List Int × List Int)) : Out U := match y with | (x14, x18, x19, x20, x21, x15, x16, x17) => .norm ⟨[(2, .ptr 2 0), (4, .ptr 4 0), (5, .ptr 5 0), (1, .flat (.int .i64 x14)), (6, .flat (.int .i64 x18)), (7, .flat (.int .i64 x19)), (11, .flat (.int .i64 x20)), (34, .flat (.bool x21))], [(2, .arr 4 C.u64 x15), (4, .arr 4 C.u64 x16), (5, .arr 4 C.u64 x17)]⟩
noncomputable def limb_Left.j9000.finK {ρ : Type} (y : (Int × Int × Int × Int × Bool × List Int × List Int × List Int)) (K : Out U → Option ρ) : Option ρ := match y with | (x14, x18, x19, x20, x21, x15, x16, x17) => K (.norm ⟨[(2, .ptr 2 0), (4, .ptr 4 0), (5, .ptr 5 0), (1, .flat (.int .i64 x14)), (6, .flat (.int .i64 x18)), (7, .flat (.int .i64 x19)), (11, .flat (.int .i64 x20)), (34, .flat (.bool x21))], [(2, .arr 4 C.u64 x15), (4, .arr 4 C.u64 x16), (5, .arr 4 C.u64 x17)]⟩)
theorem limb_Left.j9000.finK_eq {ρ : Type} (y : (Int × Int × Int × Int × Bool × List Int × List Int × List Int)) (K : Out U → Option ρ) : limb_Left.j9000.finK y K = K (limb_Left.j9000.fin y) := by
  unfold limb_Left.j9000.finK limb_Left.j9000.fin
  first | rfl | (split <;> rfl)
noncomputable def limb_Left.j9000.re : Out U → Option ((Int × Int × Int × Int × Bool × List Int × List Int × List Int)) | .norm s => (match s.get 2, s.get 4, s.get 5, s.get 1, s.get 6, s.get 7, s.get 11, s.get 34, lk s.o 2, lk s.o 4, lk s.o 5 with | .ptr 2 0, .ptr 4 0, .ptr 5 0, .flat (.int .i64 x14), .flat (.int .i64 x18), .flat (.int .i64 x19), .flat (.int .i64 x20), .flat (.bool x21), some (.arr 4 C.u64 x15), some (.arr 4 C.u64 x16), some (.arr 4 C.u64 x17) => some (x14, x18, x19, x20, x21, x15, x16, x17) | _, _, _, _, _, _, _, _, _, _, _ => none) | _ => none
noncomputable def limb_Left.j9000.J : JDen U := { Y := (Int × Int × Int × Int × Bool × List Int × List Int × List Int), re := limb_Left.j9000.re, fin := limb_Left.j9000.fin, finK := limb_Left.j9000.finK, finK_eq := limb_Left.j9000.finK_eq }
theorem limb_Left.j9000.fit (o : Out U) (y : (Int × Int × Int × Int × Bool × List Int × List Int × List Int)) (h : limb_Left.j9000.re o = some y) : FitsO o (limb_Left.j9000.fin y) := by
  unfold limb_Left.j9000.re at h
  split at h
  · split at h
    · cases h
      refine fitsO_norm (fits_ren [] ?_ ?_ ren_nil rfl)
      · exact List.forall_mem_cons.2 ⟨FV.same (by assumption) (fun _ _ _ hh => by cases hh) (fun _ hh => by cases hh), List.forall_mem_cons.2 ⟨FV.same (by assumption) (fun _ _ _ hh => by cases hh) (fun _ hh => by cases hh), List.forall_mem_cons.2 ⟨FV.same (by assumption) (fun _ _ _ hh => by cases hh) (fun _ hh => by cases hh), List.forall_mem_cons.2 ⟨FV.same (by assumption) (fun _ _ _ hh => by cases hh) (fun _ hh => by cases hh), List.forall_mem_cons.2 ⟨FV.same (by assumption) (fun _ _ _ hh => by cases hh) (fun _ hh => by cases hh), List.forall_mem_cons.2 ⟨FV.same (by assumption) (fun _ _ _ hh => by cases hh) (fun _ hh => by cases hh), List.forall_mem_cons.2 ⟨FV.same (by assumption) (fun _ _ _ hh => by cases hh) (fun _ hh => by cases hh), List.forall_mem_cons.2 ⟨FV.same (by assumption) (fun _ _ _ hh => by cases hh) (fun _ hh => by cases hh), fun _ hp => (List.not_mem_nil hp).elim⟩⟩⟩⟩⟩⟩⟩⟩
      · exact List.forall_mem_cons.2 ⟨(show lk (St.o _) 2 = some _ from by assumption), List.forall_mem_cons.2 ⟨(show lk (St.o _) 4 = some _ from by assumption), List.forall_mem_cons.2 ⟨(show lk (St.o _) 5 = some _ from by assumption), fun _ hp => (List.not_mem_nil hp).elim⟩⟩⟩
    · cases h
  · cases h
noncomputable def limb_Left.jl : List (Nat × JDen U) := [(8001, limb_Left.j8001.J), (9000, limb_Left.j9000.J)]
noncomputable def limb_Left.fl (k : Nat) : List (Nat × FDen U) := []
noncomputable def limb_Left.ll (k : Nat) : List (Nat × LDen U) := [(4, limb_Left.l4.L k)]
noncomputable def limb_Left.E (k : Nat) : Env U := { P := Try.prog, D := DD, fd := lk (limb_Left.fl k), ld := lk (limb_Left.ll k), jd := lk limb_Left.jl, mode := lk [(30, (4, C.u64))], elc := lk ec, dyn := fun t => false, vecs := fun d => false, results := Try.f22.results.toList }
theorem limb_Left.ok (k : Nat) : EnvOk (limb_Left.E k) := envOk lawful (limb_Left.fl k) (limb_Left.ll k) limb_Left.jl _ _ _ _ _ (by
  intro p hp
  simp [limb_Left.fl] at hp) (by
  intro p hp
  simp only [limb_Left.jl, List.mem_cons, List.not_mem_nil, or_false] at hp
  rcases hp with rfl | rfl
  · exact limb_Left.j8001.fit
  · exact limb_Left.j9000.fit)
theorem limb_Left.l4.eq (k : Nat) (x : (Int × Int × List Int × List Int × List Int)) : evC (limb_Left.E k) (loopAt Try.f22 4) (limb_Left.l4.mk x) (headK limb_Left.l4.un limb_Left.l4.re) = limb_Left.l4.once k x := by kernel_rfl
theorem limb_Left.l4.fit (s : St U) (x : (Int × Int × List Int × List Int × List Int)) (h : limb_Left.l4.un s = some x) : Fits s (limb_Left.l4.mk x) := by
  unfold limb_Left.l4.un at h
  split at h
  · cases h
    refine fits_ren [] ?_ ?_ ren_nil rfl
    · exact List.forall_mem_cons.2 ⟨FV.same (by assumption) (fun _ _ _ hh => by cases hh) (fun _ hh => by cases hh), List.forall_mem_cons.2 ⟨FV.same (by assumption) (fun _ _ _ hh => by cases hh) (fun _ hh => by cases hh), List.forall_mem_cons.2 ⟨FV.same (by assumption) (fun _ _ _ hh => by cases hh) (fun _ hh => by cases hh), List.forall_mem_cons.2 ⟨FV.same (by assumption) (fun _ _ _ hh => by cases hh) (fun _ hh => by cases hh), List.forall_mem_cons.2 ⟨FV.same (by assumption) (fun _ _ _ hh => by cases hh) (fun _ hh => by cases hh), fun _ hp => (List.not_mem_nil hp).elim⟩⟩⟩⟩⟩
    · exact List.forall_mem_cons.2 ⟨(show lk (St.o _) 2 = some _ from by assumption), List.forall_mem_cons.2 ⟨(show lk (St.o _) 4 = some _ from by assumption), List.forall_mem_cons.2 ⟨(show lk (St.o _) 5 = some _ from by assumption), fun _ hp => (List.not_mem_nil hp).elim⟩⟩⟩
  · cases h
theorem limb_Left.l4.fitO (o : Out U) (y : (List Int × List Int)) (h : limb_Left.l4.re o = some y) : FitsO o (limb_Left.l4.fin y) := by
  unfold limb_Left.l4.re at h
  split at h
  · split at h
    · cases h
      refine fitsO_exit (fits_ren [] ?_ ?_ ren_nil rfl)
      · exact List.forall_mem_cons.2 ⟨FV.same (by assumption) (fun _ _ _ hh => by cases hh) (fun _ hh => by cases hh), List.forall_mem_cons.2 ⟨FV.same (by assumption) (fun _ _ _ hh => by cases hh) (fun _ hh => by cases hh), fun _ hp => (List.not_mem_nil hp).elim⟩⟩
      · exact List.forall_mem_cons.2 ⟨(show lk (St.o _) 4 = some _ from by assumption), List.forall_mem_cons.2 ⟨(show lk (St.o _) 5 = some _ from by assumption), fun _ hp => (List.not_mem_nil hp).elim⟩⟩
    · cases h
  · cases h
theorem limb_Left.l4.sound (k : Nat) : LSound (limb_Left.E k) Try.f22.ntmps Try.f22 (loopAt Try.f22 4) (limb_Left.l4.L k) :=
  loop_sound (limb_Left.ok k) mixed rfl (by kernel_rfl) (allL_of (l := []) (by kernel_rfl) allL_nil) limb_Left.l4.un limb_Left.l4.mk limb_Left.l4.fin limb_Left.l4.re (limb_Left.l4.once k) k limb_Left.l4.fit limb_Left.l4.fitO (limb_Left.l4.eq k) limb_Left.l4.finK limb_Left.l4.finK_eq
theorem limb_Left.eq (k : Nat) (x : ((Int × Int × Int × Int) × Int)) : runF (limb_Left.E k) (codeOf Try.f22) (limb_Left.mk x) limb_Left.re = (limb_Left.D k).f x := by kernel_rfl
theorem limb_Left.sound (k : Nat) : Sound Try.prog DD 22 (limb_Left.D k) :=
  fun_sound (E := limb_Left.E k) (fn := Try.f22) (c := codeOf Try.f22) (limb_Left.ok k) mixed rfl Try.func22 (by kernel_rfl) (by kernel_rfl) (allL_of (l := [loopAt Try.f22 4]) (by kernel_rfl) (allL_cons (key := 4) (by kernel_rfl) rfl (limb_Left.l4.sound k) allL_nil)) (limb_Left.D k) limb_Left.mk limb_Left.re
    (by intro args x h; replace h : limb_Left.un args = some x := h; unfold limb_Left.un at h; split at h; · cases h; rfl
        · cases h)
    (by intro v y h; unfold limb_Left.re at h; split at h; · cases h; rfl
        · cases h)
    (fun _ => rfl) (fun x => Nat.le_of_ble_eq_true (by kernel_rfl)) (limb_Left.eq k)
/-! ### pyx/limb.Right: function 23 -/
noncomputable def limb_Right.l4.once (k : Nat) (x : (Int × Int × List Int × List Int × List Int)) : Option ((Int × Int × List Int × List Int × List Int) ⊕ ((List Int × List Int))) := match x with | (x1, x5, x2, x3, x4) => cond (decide (x5 < 4)) (((cond (decide ((IntKind.wrap .i64 (x5 + (IntKind.wrap .i64 (Int.tdiv x1 64)))) < 4)) (cond (inb (IntKind.wrap .i64 (x5 + (IntKind.wrap .i64 (Int.tdiv x1 64)))) 4) (cond (Nat.blt (Int.toNat (IntKind.wrap .i64 (x5 + (IntKind.wrap .i64 (Int.tdiv x1 64))))) 4) (cond (decide (Int.tmod x1 64 < 0)) none (cond (inb x5 4) (cond (Nat.blt (Int.toNat x5) 4) (some (x1, x5, IntKind.wrap .i64 (x5 + (IntKind.wrap .i64 (Int.tdiv x1 64))), x5, x2, x3, List.set x4 (Int.toNat x5) (Int.fdiv (List.getD x2 (Int.toNat (IntKind.wrap .i64 (x5 + (IntKind.wrap .i64 (Int.tdiv x1 64))))) 0) (2 ^ (min (Int.toNat (Int.tmod x1 64)) 64))))) none) none)) none) none) (some (x1, x5, IntKind.wrap .i64 (x5 + (IntKind.wrap .i64 (Int.tdiv x1 64))), x5, x2, x3, x4))) : Option (Int × Int × Int × Int × List Int × List Int × List Int)).bind fun y13 => (((cond (decide ((IntKind.wrap .i64 (y13.2.2.1 + 1)) < 4)) (some (y13.1, y13.2.1, y13.2.2.1, y13.2.2.2.1, decide ((Int.tmod y13.1 64) > 0), y13.2.2.2.2.1, y13.2.2.2.2.2.1, y13.2.2.2.2.2.2)) (some (y13.1, y13.2.1, y13.2.2.1, y13.2.2.2.1, false, y13.2.2.2.2.1, y13.2.2.2.2.2.1, y13.2.2.2.2.2.2))) : Option (Int × Int × Int × Int × Bool × List Int × List Int × List Int)).bind fun y22 => (cond (y22.2.2.2.2.1) (cond (inb y22.2.1 4) (cond (Nat.blt (Int.toNat y22.2.1) 4) (cond (inb (IntKind.wrap .i64 (y22.2.2.1 + 1)) 4) (cond (Nat.blt (Int.toNat (IntKind.wrap .i64 (y22.2.2.1 + 1))) 4) (cond (decide (IntKind.wrap .i64 (64 - (Int.tmod y22.1 64)) < 0)) none (cond (inb y22.2.1 4) (cond (Nat.blt (Int.toNat y22.2.1) 4) (some (.inl (y22.1, IntKind.wrap .i64 (y22.2.2.2.1 + 1), y22.2.2.2.2.2.1, y22.2.2.2.2.2.2.1, List.set y22.2.2.2.2.2.2.2 (Int.toNat y22.2.1) (bits .or .u64 (List.getD y22.2.2.2.2.2.2.2 (Int.toNat y22.2.1) 0) (IntKind.wrap .u64 ((List.getD y22.2.2.2.2.2.1 (Int.toNat (IntKind.wrap .i64 (y22.2.2.1 + 1))) 0) * 2 ^ (min (Int.toNat (IntKind.wrap .i64 (64 - (Int.tmod y22.1 64)))) 64))))))) none) none)) none) none) none) none) (some (.inl (y22.1, IntKind.wrap .i64 (y22.2.2.2.1 + 1), y22.2.2.2.2.2.1, y22.2.2.2.2.2.2.1, y22.2.2.2.2.2.2.2)))))) (some (.inr (x3, x4)))
noncomputable def limb_Right.f (k : Nat) (a0 : (Int × Int × Int × Int)) (a1 : Int) : Option (Int × Int × Int × Int) := (iter (limb_Right.l4.once k) k ((if (if 256 < a1 then 256 else a1) > 0 then (if 256 < a1 then 256 else a1) else 0), 0, [a0.1, a0.2.1, a0.2.2.1, a0.2.2.2], [0, 0, 0, 0], [0, 0, 0, 0])).bind fun y25 => (some (List.getD [List.getD y25.2 0 0, List.getD y25.2 1 0, List.getD y25.2 2 0, List.getD y25.2 3 0] 0 0, List.getD [List.getD y25.2 0 0, List.getD y25.2 1 0, List.getD y25.2 2 0, List.getD y25.2 3 0] 1 0, List.getD [List.getD y25.2 0 0, List.getD y25.2 1 0, List.getD y25.2 2 0, List.getD y25.2 3 0] 2 0, List.getD [List.getD y25.2 0 0, List.getD y25.2 1 0, List.getD y25.2 2 0, List.getD y25.2 3 0] 3 0))
noncomputable def limb_Right.un : List (AV U) → Option ((Int × Int × Int × Int) × Int) | [.agg [.flat (.int .u64 x1), .flat (.int .u64 x2), .flat (.int .u64 x3), .flat (.int .u64 x4)], .flat (.int .i64 x5)] => some ((x1, x2, x3, x4), x5) | _ => none
noncomputable def limb_Right.mk (x : ((Int × Int × Int × Int) × Int)) : List (AV U) := [.agg [.flat (.int .u64 x.1.1), .flat (.int .u64 x.1.2.1), .flat (.int .u64 x.1.2.2.1), .flat (.int .u64 x.1.2.2.2)], .flat (.int .i64 x.2)]
noncomputable def limb_Right.D (k : Nat) : FDen U := { X := ((Int × Int × Int × Int) × Int), Y := (Int × Int × Int × Int), un := limb_Right.un, f := fun x => limb_Right.f k (x.1) (x.2), fin := fun y => .agg [.flat (.int .u64 y.1), .flat (.int .u64 y.2.1), .flat (.int .u64 y.2.2.1), .flat (.int .u64 y.2.2.2)] }
noncomputable def limb_Right.re : AV U → Option (Int × Int × Int × Int) | .agg [.flat (.int .u64 x1), .flat (.int .u64 x2), .flat (.int .u64 x3), .flat (.int .u64 x4)] => some (x1, x2, x3, x4) | _ => none
noncomputable def limb_Right.l4.mk (x : (Int × Int × List Int × List Int × List Int)) : St U := match x with | (x1, x5, x2, x3, x4) => ⟨[(2, .ptr 2 0), (4, .ptr 4 0), (5, .ptr 5 0), (1, .flat (.int .i64 x1)), (11, .flat (.int .i64 x5))], [(2, .arr 4 C.u64 x2), (4, .arr 4 C.u64 x3), (5, .arr 4 C.u64 x4)]⟩
noncomputable def limb_Right.l4.un (s : St U) : Option (Int × Int × List Int × List Int × List Int) := match s.get 2, s.get 4, s.get 5, s.get 1, s.get 11, lk s.o 2, lk s.o 4, lk s.o 5 with | .ptr 2 0, .ptr 4 0, .ptr 5 0, .flat (.int .i64 x1), .flat (.int .i64 x5), some (.arr 4 C.u64 x2), some (.arr 4 C.u64 x3), some (.arr 4 C.u64 x4) => some (x1, x5, x2, x3, x4) | _, _, _, _, _, _, _, _ => none
noncomputable def limb_Right.l4.fin (y : (List Int × List Int)) : Out U := match y with | (x23, x24) => .exit 0 ⟨[(4, .ptr 4 0), (5, .ptr 5 0)], [(4, .arr 4 C.u64 x23), (5, .arr 4 C.u64 x24)]⟩
noncomputable def limb_Right.l4.finK {ρ : Type} (y : (List Int × List Int)) (K : Out U → Option ρ) : Option ρ := match y with | (x23, x24) => K (.exit 0 ⟨[(4, .ptr 4 0), (5, .ptr 5 0)], [(4, .arr 4 C.u64 x23), (5, .arr 4 C.u64 x24)]⟩)
theorem limb_Right.l4.finK_eq {ρ : Type} (y : (List Int × List Int)) (K : Out U → Option ρ) : limb_Right.l4.finK y K = K (limb_Right.l4.fin y) := by
  unfold limb_Right.l4.finK limb_Right.l4.fin
  first | rfl | (split <;> rfl)
noncomputable def limb_Right.l4.re : Out U → Option ((List Int × List Int)) | .exit 0 s => (match s.get 4, s.get 5, lk s.o 4, lk s.o 5 with | .ptr 4 0, .ptr 5 0, some (.arr 4 C.u64 x23), some (.arr 4 C.u64 x24) => some (x23, x24) | _, _, _, _ => none) | _ => none
noncomputable def limb_Right.l4.L (k : Nat) : LDen U := { X := (Int × Int × List Int × List Int × List Int), Y := (List Int × List Int), un := limb_Right.l4.un, f := iter (limb_Right.l4.once k) k, fin := limb_Right.l4.fin, finK := limb_Right.l4.finK, finK_eq := limb_Right.l4.finK_eq }
noncomputable def limb_Right.j8001.fin (y : (Int × Int × Int × Int × List Int × List Int × List Int)) : Out U := match y with | (x6, x10, x11, x12, x7, x8, x9) => .norm ⟨[(2, .ptr 2 0), (4, .ptr 4 0), (5, .ptr 5 0), (1, .flat (.int .i64 x6)), (6, .flat (.int .i64 x10)), (7, .flat (.int .i64 x11)), (11, .flat (.int .i64 x12))], [(2, .arr 4 C.u64 x7), (4, .arr 4 C.u64 x8), (5, .arr 4 C.u64 x9)]⟩
noncomputable def limb_Right.j8001.finK {ρ : Type} (y : (Int × Int × Int × Int × List Int × List Int × List Int)) (K : Out U → Option ρ) : Option ρ := match y with | (x6, x10, x11, x12, x7, x8, x9) => K (.norm ⟨[(2, .ptr 2 0), (4, .ptr 4 0), (5, .ptr 5 0), (1, .flat (.int .i64 x6)), (6, .flat (.int .i64 x10)), (7, .flat (.int .i64 x11)), (11, .flat (.int .i64 x12))], [(2, .arr 4 C.u64 x7), (4, .arr 4 C.u64 x8), (5, .arr 4 C.u64 x9)]⟩)
theorem limb_Right.j8001.finK_eq {ρ : Type} (y : (Int × Int × Int × Int × List Int × List Int × List Int)) (K : Out U → Option ρ) : limb_Right.j8001.finK y K = K (limb_Right.j8001.fin y) := by
  unfold limb_Right.j8001.finK limb_Right.j8001.fin
  first | rfl | (split <;> rfl)
noncomputable def limb_Right.j8001.re : Out U → Option ((Int × Int × Int × Int × List Int × List Int × List Int)) | .norm s => (match s.get 2, s.get 4, s.get 5, s.get 1, s.get 6, s.get 7, s.get 11, lk s.o 2, lk s.o 4, lk s.o 5 with | .ptr 2 0, .ptr 4 0, .ptr 5 0, .flat (.int .i64 x6), .flat (.int .i64 x10), .flat (.int .i64 x11), .flat (.int .i64 x12), some (.arr 4 C.u64 x7), some (.arr 4 C.u64 x8), some (.arr 4 C.u64 x9) => some (x6, x10, x11, x12, x7, x8, x9) | _, _, _, _, _, _, _, _, _, _ => none) | _ => none
noncomputable def limb_Right.j8001.J : JDen U := { Y := (Int × Int × Int × Int × List Int × List Int × List Int), re := limb_Right.j8001.re, fin := limb_Right.j8001.fin, finK := limb_Right.j8001.finK, finK_eq := limb_Right.j8001.finK_eq }
theorem limb_Right.j8001.fit (o : Out U) (y : (Int × Int × Int × Int × List Int × List Int × List Int)) (h : limb_Right.j8001.re o = some y) : FitsO o (limb_Right.j8001.fin y) := by
  unfold limb_Right.j8001.re at h
  split at h
  · split at h
    · cases h
      refine fitsO_norm (fits_ren [] ?_ ?_ ren_nil rfl)
      · exact List.forall_mem_cons.2 ⟨FV.same (by assumption) (fun _ _ _ hh => by cases hh) (fun _ hh => by cases hh), List.forall_mem_cons.2 ⟨FV.same (by assumption) (fun _ _ _ hh => by cases hh) (fun _ hh => by cases hh), List.forall_mem_cons.2 ⟨FV.same (by assumption) (fun _ _ _ hh => by cases hh) (fun _ hh => by cases hh), List.forall_mem_cons.2 ⟨FV.same (by assumption) (fun _ _ _ hh => by cases hh) (fun _ hh => by cases hh), List.forall_mem_cons.2 ⟨FV.same (by assumption) (fun _ _ _ hh => by cases hh) (fun _ hh => by cases hh), List.forall_mem_cons.2 ⟨FV.same (by assumption) (fun _ _ _ hh => by cases hh) (fun _ hh => by cases hh), List.forall_mem_cons.2 ⟨FV.same (by assumption) (fun _ _ _ hh => by cases hh) (fun _ hh => by cases hh), fun _ hp => (List.not_mem_nil hp).elim⟩⟩⟩⟩⟩⟩⟩
      · exact List.forall_mem_cons.2 ⟨(show lk (St.o _) 2 = some _ from by assumption), List.forall_mem_cons.2 ⟨(show lk (St.o _) 4 = some _ from by assumption), List.forall_mem_cons.2 ⟨(show lk (St.o _) 5 = some _ from by assumption), fun _ hp => (List.not_mem_nil hp).elim⟩⟩⟩
    · cases h
  · cases h
noncomputable def limb_Right.j9000.fin (y : (Int × Int × Int × Int × Bool × List Int × List Int × List Int)) : Out U := match y with | (x14, x18, x19, x20, x21, x15, x16, x17) => .norm ⟨[(2, .ptr 2 0), (4, .ptr 4 0), (5, .ptr 5 0), (1, .flat (.int .i64 x14)), (6, .flat (.int .i64 x18)), (7, .flat (.int .i64 x19)), (11, .flat (.int .i64 x20)), (35, .flat (.bool x21))], [(2, .arr 4 C.u64 x15), (4, .arr 4 C.u64 x16), (5, .arr 4 C.u64 x17)]⟩
noncomputable def limb_Right.j9000.finK {ρ : Type} (y : (Int × Int × Int × Int × Bool × List Int × List Int × List Int)) (K : Out U → Option ρ) : Option ρ := match y with | (x14, x18, x19, x20, x21, x15, x16, x17) => K (.norm ⟨[(2, .ptr 2 0), (4, .ptr 4 0), (5, .ptr 5 0), (1, .flat (.int .i64 x14)), (6, .flat (.int .i64 x18)), (7, .flat (.int .i64 x19)), (11, .flat (.int .i64 x20)), (35, .flat (.bool x21))], [(2, .arr 4 C.u64 x15), (4, .arr 4 C.u64 x16), (5, .arr 4 C.u64 x17)]⟩)
theorem limb_Right.j9000.finK_eq {ρ : Type} (y : (Int × Int × Int × Int × Bool × List Int × List Int × List Int)) (K : Out U → Option ρ) : limb_Right.j9000.finK y K = K (limb_Right.j9000.fin y) := by
  unfold limb_Right.j9000.finK limb_Right.j9000.fin
  first | rfl | (split <;> rfl)
noncomputable def limb_Right.j9000.re : Out U → Option ((Int × Int × Int × Int × Bool × List Int × List Int × List Int)) | .norm s => (match s.get 2, s.get 4, s.get 5, s.get 1, s.get 6, s.get 7, s.get 11, s.get 35, lk s.o 2, lk s.o 4, lk s.o 5 with | .ptr 2 0, .ptr 4 0, .ptr 5 0, .flat (.int .i64 x14), .flat (.int .i64 x18), .flat (.int .i64 x19), .flat (.int .i64 x20), .flat (.bool x21), some (.arr 4 C.u64 x15), some (.arr 4 C.u64 x16), some (.arr 4 C.u64 x17) => some (x14, x18, x19, x20, x21, x15, x16, x17) | _, _, _, _, _, _, _, _, _, _, _ => none) | _ => none
noncomputable def limb_Right.j9000.J : JDen U := { Y := (Int × Int × Int × Int × Bool × List Int × List Int × List Int), re := limb_Right.j9000.re, fin := limb_Right.j9000.fin, finK := limb_Right.j9000.finK, finK_eq := limb_Right.j9000.finK_eq }
theorem limb_Right.j9000.fit (o : Out U) (y : (Int × Int × Int × Int × Bool × List Int × List Int × List Int)) (h : limb_Right.j9000.re o = some y) : FitsO o (limb_Right.j9000.fin y) := by
  unfold limb_Right.j9000.re at h
  split at h
  · split at h
    · cases h
      refine fitsO_norm (fits_ren [] ?_ ?_ ren_nil rfl)
      · exact List.forall_mem_cons.2 ⟨FV.same (by assumption) (fun _ _ _ hh => by cases hh) (fun _ hh => by cases hh), List.forall_mem_cons.2 ⟨FV.same (by assumption) (fun _ _ _ hh => by cases hh) (fun _ hh => by cases hh), List.forall_mem_cons.2 ⟨FV.same (by assumption) (fun _ _ _ hh => by cases hh) (fun _ hh => by cases hh), List.forall_mem_cons.2 ⟨FV.same (by assumption) (fun _ _ _ hh => by cases hh) (fun _ hh => by cases hh), List.forall_mem_cons.2 ⟨FV.same (by assumption) (fun _ _ _ hh => by cases hh) (fun _ hh => by cases hh), List.forall_mem_cons.2 ⟨FV.same (by assumption) (fun _ _ _ hh => by cases hh) (fun _ hh => by cases hh), List.forall_mem_cons.2 ⟨FV.same (by assumption) (fun _ _ _ hh => by cases hh) (fun _ hh => by cases hh), List.forall_mem_cons.2 ⟨FV.same (by assumption) (fun _ _ _ hh => by cases hh) (fun _ hh => by cases hh), fun _ hp => (List.not_mem_nil hp).elim⟩⟩⟩⟩⟩⟩⟩⟩
      · exact List.forall_mem_cons.2 ⟨(show lk (St.o _) 2 = some _ from by assumption), List.forall_mem_cons.2 ⟨(show lk (St.o _) 4 = some _ from by assumption), List.forall_mem_cons.2 ⟨(show lk (St.o _) 5 = some _ from by assumption), fun _ hp => (List.not_mem_nil hp).elim⟩⟩⟩
    · cases h
  · cases h
noncomputable def limb_Right.jl : List (Nat × JDen U) := [(8001, limb_Right.j8001.J), (9000, limb_Right.j9000.J)]
noncomputable def limb_Right.fl (k : Nat) : List (Nat × FDen U) := []
noncomputable def limb_Right.ll (k : Nat) : List (Nat × LDen U) := [(4, limb_Right.l4.L k)]
noncomputable def limb_Right.E (k : Nat) : Env U := { P := Try.prog, D := DD, fd := lk (limb_Right.fl k), ld := lk (limb_Right.ll k), jd := lk limb_Right.jl, mode := lk [(30, (4, C.u64))], elc := lk ec, dyn := fun t => false, vecs := fun d => false, results := Try.f23.results.toList }
theorem limb_Right.ok (k : Nat) : EnvOk (limb_Right.E k) := envOk lawful (limb_Right.fl k) (limb_Right.ll k) limb_Right.jl _ _ _ _ _ (by
  intro p hp
  simp [limb_Right.fl] at hp) (by
  intro p hp
  simp only [limb_Right.jl, List.mem_cons, List.not_mem_nil, or_false] at hp
  rcases hp with rfl | rfl
  · exact limb_Right.j8001.fit
  · exact limb_Right.j9000.fit)
theorem limb_Right.l4.eq (k : Nat) (x : (Int × Int × List Int × List Int × List Int)) : evC (limb_Right.E k) (loopAt Try.f23 4) (limb_Right.l4.mk x) (headK limb_Right.l4.un limb_Right.l4.re) = limb_Right.l4.once k x := by kernel_rfl
theorem limb_Right.l4.fit (s : St U) (x : (Int × Int × List Int × List Int × List Int)) (h : limb_Right.l4.un s = some x) : Fits s (limb_Right.l4.mk x) := by
  unfold limb_Right.l4.un at h
  split at h
  · cases h
    refine fits_ren [] ?_ ?_ ren_nil rfl
    · exact List.forall_mem_cons.2 ⟨FV.same (by assumption) (fun _ _ _ hh => by cases hh) (fun _ hh => by cases hh), List.forall_mem_cons.2 ⟨FV.same (by assumption) (fun _ _ _ hh => by cases hh) (fun _ hh => by cases hh), List.forall_mem_cons.2 ⟨FV.same (by assumption) (fun _ _ _ hh => by cases hh) (fun _ hh => by cases hh), List.forall_mem_cons.2 ⟨FV.same (by assumption) (fun _ _ _ hh => by cases hh) (fun _ hh => by cases hh), List.forall_mem_cons.2 ⟨FV.same (by assumption) (fun _ _ _ hh => by cases hh) (fun _ hh => by cases hh), fun _ hp => (List.not_mem_nil hp).elim⟩⟩⟩⟩⟩
    · exact List.forall_mem_cons.2 ⟨(show lk (St.o _) 2 = some _ from by assumption), List.forall_mem_cons.2 ⟨(show lk (St.o _) 4 = some _ from by assumption), List.forall_mem_cons.2 ⟨(show lk (St.o _) 5 = some _ from by assumption), fun _ hp => (List.not_mem_nil hp).elim⟩⟩⟩
  · cases h
theorem limb_Right.l4.fitO (o : Out U) (y : (List Int × List Int)) (h : limb_Right.l4.re o = some y) : FitsO o (limb_Right.l4.fin y) := by
  unfold limb_Right.l4.re at h
  split at h
  · split at h
    · cases h
      refine fitsO_exit (fits_ren [] ?_ ?_ ren_nil rfl)
      · exact List.forall_mem_cons.2 ⟨FV.same (by assumption) (fun _ _ _ hh => by cases hh) (fun _ hh => by cases hh), List.forall_mem_cons.2 ⟨FV.same (by assumption) (fun _ _ _ hh => by cases hh) (fun _ hh => by cases hh), fun _ hp => (List.not_mem_nil hp).elim⟩⟩
      · exact List.forall_mem_cons.2 ⟨(show lk (St.o _) 4 = some _ from by assumption), List.forall_mem_cons.2 ⟨(show lk (St.o _) 5 = some _ from by assumption), fun _ hp => (List.not_mem_nil hp).elim⟩⟩
    · cases h
  · cases h
theorem limb_Right.l4.sound (k : Nat) : LSound (limb_Right.E k) Try.f23.ntmps Try.f23 (loopAt Try.f23 4) (limb_Right.l4.L k) :=
  loop_sound (limb_Right.ok k) mixed rfl (by kernel_rfl) (allL_of (l := []) (by kernel_rfl) allL_nil) limb_Right.l4.un limb_Right.l4.mk limb_Right.l4.fin limb_Right.l4.re (limb_Right.l4.once k) k limb_Right.l4.fit limb_Right.l4.fitO (limb_Right.l4.eq k) limb_Right.l4.finK limb_Right.l4.finK_eq
theorem limb_Right.eq (k : Nat) (x : ((Int × Int × Int × Int) × Int)) : runF (limb_Right.E k) (codeOf Try.f23) (limb_Right.mk x) limb_Right.re = (limb_Right.D k).f x := by kernel_rfl
theorem limb_Right.sound (k : Nat) : Sound Try.prog DD 23 (limb_Right.D k) :=
  fun_sound (E := limb_Right.E k) (fn := Try.f23) (c := codeOf Try.f23) (limb_Right.ok k) mixed rfl Try.func23 (by kernel_rfl) (by kernel_rfl) (allL_of (l := [loopAt Try.f23 4]) (by kernel_rfl) (allL_cons (key := 4) (by kernel_rfl) rfl (limb_Right.l4.sound k) allL_nil)) (limb_Right.D k) limb_Right.mk limb_Right.re
    (by intro args x h; replace h : limb_Right.un args = some x := h; unfold limb_Right.un at h; split at h; · cases h; rfl
        · cases h)
    (by intro v y h; unfold limb_Right.re at h; split at h; · cases h; rfl
        · cases h)
    (fun _ => rfl) (fun x => Nat.le_of_ble_eq_true (by kernel_rfl)) (limb_Right.eq k)
/-! ### pyx/limb.Bits: function 24 -/
noncomputable def limb_Bits.l2.once (k : Nat) (x : (Int × List Int)) : Option ((Int × List Int) ⊕ (Unit ⊕ Int)) := match x with | (x2, x1) => cond (decide (x2 ≥ 0)) (cond (inb (IntKind.wrap .i64 (Int.tdiv x2 64)) 4) (cond (Nat.blt (Int.toNat (IntKind.wrap .i64 (Int.tdiv x2 64))) 4) (cond (decide (Int.tmod x2 64 < 0)) none (cond (decide ((bits .and .u64 (Int.fdiv (List.getD x1 (Int.toNat (IntKind.wrap .i64 (Int.tdiv x2 64))) 0) (2 ^ (min (Int.toNat (Int.tmod x2 64)) 64))) 1) > 0)) (some (.inr (.inr (IntKind.wrap .i64 (x2 + 1))))) (some (.inl (IntKind.wrap .i64 (x2 - 1), x1))))) none) none) (some (.inr (.inl ())))
noncomputable def limb_Bits.f (k : Nat) (a0 : (Int × Int × Int × Int)) : Option Int := (iter (limb_Bits.l2.once k) k (255, [a0.1, a0.2.1, a0.2.2.1, a0.2.2.2])).bind fun | .inl y4 => (some 0) | .inr y5 => (some y5)
noncomputable def limb_Bits.un : List (AV U) → Option (Int × Int × Int × Int) | [.agg [.flat (.int .u64 x1), .flat (.int .u64 x2), .flat (.int .u64 x3), .flat (.int .u64 x4)]] => some (x1, x2, x3, x4) | _ => none
noncomputable def limb_Bits.mk (x : (Int × Int × Int × Int)) : List (AV U) := [.agg [.flat (.int .u64 x.1), .flat (.int .u64 x.2.1), .flat (.int .u64 x.2.2.1), .flat (.int .u64 x.2.2.2)]]
noncomputable def limb_Bits.D (k : Nat) : FDen U := { X := (Int × Int × Int × Int), Y := Int, un := limb_Bits.un, f := fun x => limb_Bits.f k (x), fin := fun y => .flat (.int .i64 y) }
noncomputable def limb_Bits.re : AV U → Option Int | .flat (.int .i64 x1) => some x1 | _ => none
noncomputable def limb_Bits.l2.mk (x : (Int × List Int)) : St U := match x with | (x2, x1) => ⟨[(1, .ptr 1 0), (3, .flat (.int .i64 x2))], [(1, .arr 4 C.u64 x1)]⟩
noncomputable def limb_Bits.l2.un (s : St U) : Option (Int × List Int) := match s.get 1, s.get 3, lk s.o 1 with | .ptr 1 0, .flat (.int .i64 x2), some (.arr 4 C.u64 x1) => some (x2, x1) | _, _, _ => none
noncomputable def limb_Bits.l2.fin (y : Unit ⊕ Int) : Out U := match y with | .inl () => .exit 0 ⟨[], []⟩ | .inr z => .ret (.flat (.int .i64 z))
noncomputable def limb_Bits.l2.finK {ρ : Type} (y : Unit ⊕ Int) (K : Out U → Option ρ) : Option ρ := match y with | .inl () => K (.exit 0 ⟨[], []⟩) | .inr z => K (.ret (.flat (.int .i64 z)))
theorem limb_Bits.l2.finK_eq {ρ : Type} (y : Unit ⊕ Int) (K : Out U → Option ρ) : limb_Bits.l2.finK y K = K (limb_Bits.l2.fin y) := by
  unfold limb_Bits.l2.finK limb_Bits.l2.fin
  first | rfl | (split <;> rfl)
noncomputable def limb_Bits.l2.re : Out U → Option (Unit ⊕ Int) | .exit 0 s => (some (.inl ())) | .ret v => (match v with | .flat (.int .i64 x1) => some (.inr x1) | _ => none) | _ => none
noncomputable def limb_Bits.l2.L (k : Nat) : LDen U := { X := (Int × List Int), Y := Unit ⊕ Int, un := limb_Bits.l2.un, f := iter (limb_Bits.l2.once k) k, fin := limb_Bits.l2.fin, finK := limb_Bits.l2.finK, finK_eq := limb_Bits.l2.finK_eq }
noncomputable def limb_Bits.jl : List (Nat × JDen U) := []
noncomputable def limb_Bits.fl (k : Nat) : List (Nat × FDen U) := []
noncomputable def limb_Bits.ll (k : Nat) : List (Nat × LDen U) := [(2, limb_Bits.l2.L k)]
noncomputable def limb_Bits.E (k : Nat) : Env U := { P := Try.prog, D := DD, fd := lk (limb_Bits.fl k), ld := lk (limb_Bits.ll k), jd := lk limb_Bits.jl, mode := lk [(30, (4, C.u64))], elc := lk ec, dyn := fun t => false, vecs := fun d => false, results := Try.f24.results.toList }
theorem limb_Bits.ok (k : Nat) : EnvOk (limb_Bits.E k) := envOk lawful (limb_Bits.fl k) (limb_Bits.ll k) limb_Bits.jl _ _ _ _ _ (by
  intro p hp
  simp [limb_Bits.fl] at hp) (by
  intro p hp
  simp [limb_Bits.jl] at hp)
theorem limb_Bits.l2.eq (k : Nat) (x : (Int × List Int)) : evC (limb_Bits.E k) (loopAt Try.f24 2) (limb_Bits.l2.mk x) (headK limb_Bits.l2.un limb_Bits.l2.re) = limb_Bits.l2.once k x := by kernel_rfl
theorem limb_Bits.l2.fit (s : St U) (x : (Int × List Int)) (h : limb_Bits.l2.un s = some x) : Fits s (limb_Bits.l2.mk x) := by
  unfold limb_Bits.l2.un at h
  split at h
  · cases h
    refine fits_ren [] ?_ ?_ ren_nil rfl
    · exact List.forall_mem_cons.2 ⟨FV.same (by assumption) (fun _ _ _ hh => by cases hh) (fun _ hh => by cases hh), List.forall_mem_cons.2 ⟨FV.same (by assumption) (fun _ _ _ hh => by cases hh) (fun _ hh => by cases hh), fun _ hp => (List.not_mem_nil hp).elim⟩⟩
    · exact List.forall_mem_cons.2 ⟨(show lk (St.o _) 1 = some _ from by assumption), fun _ hp => (List.not_mem_nil hp).elim⟩
  · cases h
theorem limb_Bits.l2.fitO (o : Out U) (y : Unit ⊕ Int) (h : limb_Bits.l2.re o = some y) : FitsO o (limb_Bits.l2.fin y) := by
  unfold limb_Bits.l2.re at h
  split at h
  · cases h
    refine fitsO_exit (fits_ren [] ?_ ?_ ren_nil rfl)
    · exact fun _ hp => (List.not_mem_nil hp).elim
    · exact fun _ hp => (List.not_mem_nil hp).elim
  · split at h
    · cases h; exact fitsO_ret
    · cases h
  · cases h
theorem limb_Bits.l2.sound (k : Nat) : LSound (limb_Bits.E k) Try.f24.ntmps Try.f24 (loopAt Try.f24 2) (limb_Bits.l2.L k) :=
  loop_sound (limb_Bits.ok k) mixed rfl (by kernel_rfl) (allL_of (l := []) (by kernel_rfl) allL_nil) limb_Bits.l2.un limb_Bits.l2.mk limb_Bits.l2.fin limb_Bits.l2.re (limb_Bits.l2.once k) k limb_Bits.l2.fit limb_Bits.l2.fitO (limb_Bits.l2.eq k) limb_Bits.l2.finK limb_Bits.l2.finK_eq
theorem limb_Bits.eq (k : Nat) (x : (Int × Int × Int × Int)) : runF (limb_Bits.E k) (codeOf Try.f24) (limb_Bits.mk x) limb_Bits.re = (limb_Bits.D k).f x := by kernel_rfl
theorem limb_Bits.sound (k : Nat) : Sound Try.prog DD 24 (limb_Bits.D k) :=
  fun_sound (E := limb_Bits.E k) (fn := Try.f24) (c := codeOf Try.f24) (limb_Bits.ok k) mixed rfl Try.func24 (by kernel_rfl) (by kernel_rfl) (allL_of (l := [loopAt Try.f24 2]) (by kernel_rfl) (allL_cons (key := 2) (by kernel_rfl) rfl (limb_Bits.l2.sound k) allL_nil)) (limb_Bits.D k) limb_Bits.mk limb_Bits.re
    (by intro args x h; replace h : limb_Bits.un args = some x := h; unfold limb_Bits.un at h; split at h; · cases h; rfl
        · cases h)
    (by intro v y h; unfold limb_Bits.re at h; split at h; · cases h; rfl
        · cases h)
    (fun _ => rfl) (fun x => Nat.le_of_ble_eq_true (by kernel_rfl)) (limb_Bits.eq k)
/-! ### pyx/limb.Of: function 26 -/
noncomputable def limb_Of.f (k : Nat) (a0 : Int) : Option (Int × Int) := some (a0, 0)
noncomputable def limb_Of.un : List (AV U) → Option Int | [.flat (.int .u64 x1)] => some x1 | _ => none
noncomputable def limb_Of.mk (x : Int) : List (AV U) := [.flat (.int .u64 x)]
noncomputable def limb_Of.D (k : Nat) : FDen U := { X := Int, Y := (Int × Int), un := limb_Of.un, f := fun x => limb_Of.f k (x), fin := fun y => .agg [.flat (.int .u64 y.1), .flat (.int .u64 y.2)] }
noncomputable def limb_Of.re : AV U → Option (Int × Int) | .agg [.flat (.int .u64 x1), .flat (.int .u64 x2)] => some (x1, x2) | _ => none
noncomputable def limb_Of.jl : List (Nat × JDen U) := []
noncomputable def limb_Of.fl (k : Nat) : List (Nat × FDen U) := []
noncomputable def limb_Of.ll (k : Nat) : List (Nat × LDen U) := []
noncomputable def limb_Of.E (k : Nat) : Env U := { P := Try.prog, D := DD, fd := lk (limb_Of.fl k), ld := lk (limb_Of.ll k), jd := lk limb_Of.jl, mode := lk [], elc := lk ec, dyn := fun t => false, vecs := fun d => false, results := Try.f26.results.toList }
theorem limb_Of.ok (k : Nat) : EnvOk (limb_Of.E k) := envOk lawful (limb_Of.fl k) (limb_Of.ll k) limb_Of.jl _ _ _ _ _ (by
  intro p hp
  simp [limb_Of.fl] at hp) (by
  intro p hp
  simp [limb_Of.jl] at hp)
theorem limb_Of.eq (k : Nat) (x : Int) : runF (limb_Of.E k) (codeOf Try.f26) (limb_Of.mk x) limb_Of.re = (limb_Of.D k).f x := by kernel_rfl
theorem limb_Of.sound (k : Nat) : Sound Try.prog DD 26 (limb_Of.D k) :=
  fun_sound (E := limb_Of.E k) (fn := Try.f26) (c := codeOf Try.f26) (limb_Of.ok k) mixed rfl Try.func26 (by kernel_rfl) (by kernel_rfl) (allL_of (l := []) (by kernel_rfl) allL_nil) (limb_Of.D k) limb_Of.mk limb_Of.re
    (by intro args x h; replace h : limb_Of.un args = some x := h; unfold limb_Of.un at h; split at h; · cases h; rfl
        · cases h)
    (by intro v y h; unfold limb_Of.re at h; split at h; · cases h; rfl
        · cases h)
    (fun _ => rfl) (fun x => Nat.le_of_ble_eq_true (by kernel_rfl)) (limb_Of.eq k)
/-! ### pyx/limb.halves: function 66 -/
noncomputable def limb_halves.f (k : Nat) (a0 : (Int × Int)) : Option (Int × Int × Int × Int) := some (IntKind.wrap .u32 (a0.1), IntKind.wrap .u32 (Int.fdiv a0.1 (2 ^ 32)), IntKind.wrap .u32 (a0.2), IntKind.wrap .u32 (Int.fdiv a0.2 (2 ^ 32)))
noncomputable def limb_halves.un : List (AV U) → Option (Int × Int) | [.agg [.flat (.int .u64 x1), .flat (.int .u64 x2)]] => some (x1, x2) | _ => none
noncomputable def limb_halves.mk (x : (Int × Int)) : List (AV U) := [.agg [.flat (.int .u64 x.1), .flat (.int .u64 x.2)]]
noncomputable def limb_halves.D (k : Nat) : FDen U := { X := (Int × Int), Y := (Int × Int × Int × Int), un := limb_halves.un, f := fun x => limb_halves.f k (x), fin := fun y => .agg [.flat (.int .u32 y.1), .flat (.int .u32 y.2.1), .flat (.int .u32 y.2.2.1), .flat (.int .u32 y.2.2.2)] }
noncomputable def limb_halves.re : AV U → Option (Int × Int × Int × Int) | .agg [.flat (.int .u32 x1), .flat (.int .u32 x2), .flat (.int .u32 x3), .flat (.int .u32 x4)] => some (x1, x2, x3, x4) | _ => none
noncomputable def limb_halves.jl : List (Nat × JDen U) := []
noncomputable def limb_halves.fl (k : Nat) : List (Nat × FDen U) := []
noncomputable def limb_halves.ll (k : Nat) : List (Nat × LDen U) := []
noncomputable def limb_halves.E (k : Nat) : Env U := { P := Try.prog, D := DD, fd := lk (limb_halves.fl k), ld := lk (limb_halves.ll k), jd := lk limb_halves.jl, mode := lk [], elc := lk ec, dyn := fun t => false, vecs := fun d => false, results := Try.f66.results.toList }
theorem limb_halves.ok (k : Nat) : EnvOk (limb_halves.E k) := envOk lawful (limb_halves.fl k) (limb_halves.ll k) limb_halves.jl _ _ _ _ _ (by
  intro p hp
  simp [limb_halves.fl] at hp) (by
  intro p hp
  simp [limb_halves.jl] at hp)
theorem limb_halves.eq (k : Nat) (x : (Int × Int)) : runF (limb_halves.E k) (codeOf Try.f66) (limb_halves.mk x) limb_halves.re = (limb_halves.D k).f x := by kernel_rfl
theorem limb_halves.sound (k : Nat) : Sound Try.prog DD 66 (limb_halves.D k) :=
  fun_sound (E := limb_halves.E k) (fn := Try.f66) (c := codeOf Try.f66) (limb_halves.ok k) mixed rfl Try.func66 (by kernel_rfl) (by kernel_rfl) (allL_of (l := []) (by kernel_rfl) allL_nil) (limb_halves.D k) limb_halves.mk limb_halves.re
    (by intro args x h; replace h : limb_halves.un args = some x := h; unfold limb_halves.un at h; split at h; · cases h; rfl
        · cases h)
    (by intro v y h; unfold limb_halves.re at h; split at h; · cases h; rfl
        · cases h)
    (fun _ => rfl) (fun x => Nat.le_of_ble_eq_true (by kernel_rfl)) (limb_halves.eq k)
/-! ### pyx/limb.Mul: function 25 -/
noncomputable def limb_Mul.l8.once (k : Nat) (x : (Int × Int × Int × Int × Int × Int × Int × Int × Int × Int × Int × Int × Int × List Int × List Int × List Int)) : Option ((Int × Int × Int × Int × Int × Int × Int × Int × Int × Int × Int × Int × Int × List Int × List Int × List Int) ⊕ ((Int × Int × Int × Int × Int × Int × Int × List Int × List Int × List Int))) := match x with | (x14, x15, x16, x17, x18, x19, x20, x21, x22, x23, x24, x25, x26, x11, x12, x13) => cond (decide (x26 < 4)) (cond (inb x26 4) (cond (inb (IntKind.wrap .i64 (x14 + x26)) 8) (cond (Nat.blt (Int.toNat (IntKind.wrap .i64 (x14 + x26))) 8) (cond (inb (IntKind.wrap .i64 (x14 + x26)) 8) (cond (Nat.blt (Int.toNat (IntKind.wrap .i64 (x14 + x26))) 8) (some (.inl (x14, x15, Int.fdiv (IntKind.wrap .u64 ((IntKind.wrap .u64 ((IntKind.wrap .u64 ((IntKind.wrap .u64 (x15)) * (IntKind.wrap .u64 (List.getD [x22, x23, x24, x25] (Int.toNat x26) 0)))) + (List.getD x12 (Int.toNat (IntKind.wrap .i64 (x14 + x26))) 0))) + x16)) (2 ^ 32), x17, x18, x19, x20, x21, x22, x23, x24, x25, IntKind.wrap .i64 (x26 + 1), x11, List.set x12 (Int.toNat (IntKind.wrap .i64 (x14 + x26))) (IntKind.wrap .u64 (IntKind.wrap .u32 (IntKind.wrap .u64 ((IntKind.wrap .u64 ((IntKind.wrap .u64 ((IntKind.wrap .u64 (x15)) * (IntKind.wrap .u64 (List.getD [x22, x23, x24, x25] (Int.toNat x26) 0)))) + (List.getD x12 (Int.toNat (IntKind.wrap .i64 (x14 + x26))) 0))) + x16)))), x13))) none) none) none) none) none) (some (.inr (x14, x16, x17, x18, x19, x20, x21, x11, x12, x13)))
noncomputable def limb_Mul.l4.once (k : Nat) (x : (Int × Int × Int × Int × Int × List Int × List Int × List Int)) : Option ((Int × Int × Int × Int × Int × List Int × List Int × List Int) ⊕ ((List Int × List Int))) := match x with | (x6, x7, x8, x9, x10, x3, x4, x5) => cond (decide (x10 < 4)) (cond (inb x10 4) ((iter (limb_Mul.l8.once k) k (x10, List.getD [x6, x7, x8, x9] (Int.toNat x10) 0, 0, x6, x7, x8, x9, x10, List.getD x5 0 0, List.getD x5 1 0, List.getD x5 2 0, List.getD x5 3 0, 0, x3, x4, x5)).bind fun y37 => (cond (inb (IntKind.wrap .i64 (y37.1 + 4)) 8) (cond (Nat.blt (Int.toNat (IntKind.wrap .i64 (y37.1 + 4))) 8) (some (.inl (y37.2.2.1, y37.2.2.2.1, y37.2.2.2.2.1, y37.2.2.2.2.2.1, IntKind.wrap .i64 (y37.2.2.2.2.2.2.1 + 1), y37.2.2.2.2.2.2.2.1, List.set y37.2.2.2.2.2.2.2.2.1 (Int.toNat (IntKind.wrap .i64 (y37.1 + 4))) y37.2.1, y37.2.2.2.2.2.2.2.2.2))) none) none)) none) (some (.inr (x3, x4)))
noncomputable def limb_Mul.l18.once (k : Nat) (x : (Int × List Int × List Int × List Int)) : Option ((Int × List Int × List Int × List Int) ⊕ ((List Int × List Int))) := match x with | (x44, x41, x42, x43) => cond (decide (x44 < 4)) (cond (inb (IntKind.wrap .i64 (2 * x44)) 8) (cond (Nat.blt (Int.toNat (IntKind.wrap .i64 (2 * x44))) 8) (cond (inb (IntKind.wrap .i64 ((IntKind.wrap .i64 (2 * x44)) + 1)) 8) (cond (Nat.blt (Int.toNat (IntKind.wrap .i64 ((IntKind.wrap .i64 (2 * x44)) + 1))) 8) (cond (inb x44 4) (cond (Nat.blt (Int.toNat x44) 4) (some (.inl (IntKind.wrap .i64 (x44 + 1), x41, x42, List.set x43 (Int.toNat x44) (bits .or .u64 (List.getD x42 (Int.toNat (IntKind.wrap .i64 (2 * x44))) 0) (IntKind.wrap .u64 ((List.getD x42 (Int.toNat (IntKind.wrap .i64 ((IntKind.wrap .i64 (2 * x44)) + 1))) 0) * 2 ^ 32)))))) none) none) none) none) none) none) (some (.inr (x41, x43)))
noncomputable def limb_Mul.f (k : Nat) (a0 : (Int × Int)) (a1 : (Int × Int)) : Option (Int × Int × Int × Int) := (limb_halves.f k (a0.1, a0.2)).bind fun t1 => ((limb_halves.f k (a1.1, a1.2)).bind fun t2 => ((iter (limb_Mul.l4.once k) k (List.getD [t1.1, t1.2.1, t1.2.2.1, t1.2.2.2] 0 0, List.getD [t1.1, t1.2.1, t1.2.2.1, t1.2.2.2] 1 0, List.getD [t1.1, t1.2.1, t1.2.2.1, t1.2.2.2] 2 0, List.getD [t1.1, t1.2.1, t1.2.2.1, t1.2.2.2] 3 0, 0, [0, 0, 0, 0], [0, 0, 0, 0, 0, 0, 0, 0], [t2.1, t2.2.1, t2.2.2.1, t2.2.2.2])).bind fun y40 => ((iter (limb_Mul.l18.once k) k (0, y40.1, y40.2, [0, 0, 0, 0])).bind fun y47 => (some (List.getD [List.getD y47.2 0 0, List.getD y47.2 1 0, List.getD y47.2 2 0, List.getD y47.2 3 0] 0 0, List.getD [List.getD y47.2 0 0, List.getD y47.2 1 0, List.getD y47.2 2 0, List.getD y47.2 3 0] 1 0, List.getD [List.getD y47.2 0 0, List.getD y47.2 1 0, List.getD y47.2 2 0, List.getD y47.2 3 0] 2 0, List.getD [List.getD y47.2 0 0, List.getD y47.2 1 0, List.getD y47.2 2 0, List.getD y47.2 3 0] 3 0)))))
noncomputable def limb_Mul.un : List (AV U) → Option ((Int × Int) × (Int × Int)) | [.agg [.flat (.int .u64 x1), .flat (.int .u64 x2)], .agg [.flat (.int .u64 x3), .flat (.int .u64 x4)]] => some ((x1, x2), (x3, x4)) | _ => none
noncomputable def limb_Mul.mk (x : ((Int × Int) × (Int × Int))) : List (AV U) := [.agg [.flat (.int .u64 x.1.1), .flat (.int .u64 x.1.2)], .agg [.flat (.int .u64 x.2.1), .flat (.int .u64 x.2.2)]]
noncomputable def limb_Mul.D (k : Nat) : FDen U := { X := ((Int × Int) × (Int × Int)), Y := (Int × Int × Int × Int), un := limb_Mul.un, f := fun x => limb_Mul.f k (x.1) (x.2), fin := fun y => .agg [.flat (.int .u64 y.1), .flat (.int .u64 y.2.1), .flat (.int .u64 y.2.2.1), .flat (.int .u64 y.2.2.2)] }
noncomputable def limb_Mul.re : AV U → Option (Int × Int × Int × Int) | .agg [.flat (.int .u64 x1), .flat (.int .u64 x2), .flat (.int .u64 x3), .flat (.int .u64 x4)] => some (x1, x2, x3, x4) | _ => none
noncomputable def limb_Mul.l8.mk (x : (Int × Int × Int × Int × Int × Int × Int × Int × Int × Int × Int × Int × Int × List Int × List Int × List Int)) : St U := match x with | (x14, x15, x16, x17, x18, x19, x20, x21, x22, x23, x24, x25, x26, x11, x12, x13) => ⟨[(4, .ptr 4 0), (5, .ptr 5 0), (7, .ptr 7 0), (8, .flat (.int .i64 x14)), (9, .flat (.int .u32 x15)), (10, .flat (.int .u64 x16)), (20, .agg [.flat (.int .u32 x17), .flat (.int .u32 x18), .flat (.int .u32 x19), .flat (.int .u32 x20)]), (21, .flat (.int .i64 x21)), (25, .agg [.flat (.int .u32 x22), .flat (.int .u32 x23), .flat (.int .u32 x24), .flat (.int .u32 x25)]), (26, .flat (.int .i64 x26))], [(4, .arr 4 C.u64 x11), (5, .arr 8 C.u64 x12), (7, .arr 4 C.u32 x13)]⟩
noncomputable def limb_Mul.l8.un (s : St U) : Option (Int × Int × Int × Int × Int × Int × Int × Int × Int × Int × Int × Int × Int × List Int × List Int × List Int) := match s.get 4, s.get 5, s.get 7, s.get 8, s.get 9, s.get 10, s.get 20, s.get 21, s.get 25, s.get 26, lk s.o 4, lk s.o 5, lk s.o 7 with | .ptr 4 0, .ptr 5 0, .ptr 7 0, .flat (.int .i64 x14), .flat (.int .u32 x15), .flat (.int .u64 x16), .agg [.flat (.int .u32 x17), .flat (.int .u32 x18), .flat (.int .u32 x19), .flat (.int .u32 x20)], .flat (.int .i64 x21), .agg [.flat (.int .u32 x22), .flat (.int .u32 x23), .flat (.int .u32 x24), .flat (.int .u32 x25)], .flat (.int .i64 x26), some (.arr 4 C.u64 x11), some (.arr 8 C.u64 x12), some (.arr 4 C.u32 x13) => some (x14, x15, x16, x17, x18, x19, x20, x21, x22, x23, x24, x25, x26, x11, x12, x13) | _, _, _, _, _, _, _, _, _, _, _, _, _ => none
noncomputable def limb_Mul.l8.fin (y : (Int × Int × Int × Int × Int × Int × Int × List Int × List Int × List Int)) : Out U := match y with | (x30, x31, x32, x33, x34, x35, x36, x27, x28, x29) => .exit 2 ⟨[(4, .ptr 4 0), (5, .ptr 5 0), (7, .ptr 7 0), (8, .flat (.int .i64 x30)), (10, .flat (.int .u64 x31)), (20, .agg [.flat (.int .u32 x32), .flat (.int .u32 x33), .flat (.int .u32 x34), .flat (.int .u32 x35)]), (21, .flat (.int .i64 x36))], [(4, .arr 4 C.u64 x27), (5, .arr 8 C.u64 x28), (7, .arr 4 C.u32 x29)]⟩
noncomputable def limb_Mul.l8.finK {ρ : Type} (y : (Int × Int × Int × Int × Int × Int × Int × List Int × List Int × List Int)) (K : Out U → Option ρ) : Option ρ := match y with | (x30, x31, x32, x33, x34, x35, x36, x27, x28, x29) => K (.exit 2 ⟨[(4, .ptr 4 0), (5, .ptr 5 0), (7, .ptr 7 0), (8, .flat (.int .i64 x30)), (10, .flat (.int .u64 x31)), (20, .agg [.flat (.int .u32 x32), .flat (.int .u32 x33), .flat (.int .u32 x34), .flat (.int .u32 x35)]), (21, .flat (.int .i64 x36))], [(4, .arr 4 C.u64 x27), (5, .arr 8 C.u64 x28), (7, .arr 4 C.u32 x29)]⟩)
theorem limb_Mul.l8.finK_eq {ρ : Type} (y : (Int × Int × Int × Int × Int × Int × Int × List Int × List Int × List Int)) (K : Out U → Option ρ) : limb_Mul.l8.finK y K = K (limb_Mul.l8.fin y) := by
  unfold limb_Mul.l8.finK limb_Mul.l8.fin
  first | rfl | (split <;> rfl)
noncomputable def limb_Mul.l8.re : Out U → Option ((Int × Int × Int × Int × Int × Int × Int × List Int × List Int × List Int)) | .exit 2 s => (match s.get 4, s.get 5, s.get 7, s.get 8, s.get 10, s.get 20, s.get 21, lk s.o 4, lk s.o 5, lk s.o 7 with | .ptr 4 0, .ptr 5 0, .ptr 7 0, .flat (.int .i64 x30), .flat (.int .u64 x31), .agg [.flat (.int .u32 x32), .flat (.int .u32 x33), .flat (.int .u32 x34), .flat (.int .u32 x35)], .flat (.int .i64 x36), some (.arr 4 C.u64 x27), some (.arr 8 C.u64 x28), some (.arr 4 C.u32 x29) => some (x30, x31, x32, x33, x34, x35, x36, x27, x28, x29) | _, _, _, _, _, _, _, _, _, _ => none) | _ => none
noncomputable def limb_Mul.l8.L (k : Nat) : LDen U := { X := (Int × Int × Int × Int × Int × Int × Int × Int × Int × Int × Int × Int × Int × List Int × List Int × List Int), Y := (Int × Int × Int × Int × Int × Int × Int × List Int × List Int × List Int), un := limb_Mul.l8.un, f := iter (limb_Mul.l8.once k) k, fin := limb_Mul.l8.fin, finK := limb_Mul.l8.finK, finK_eq := limb_Mul.l8.finK_eq }
noncomputable def limb_Mul.l4.mk (x : (Int × Int × Int × Int × Int × List Int × List Int × List Int)) : St U := match x with | (x6, x7, x8, x9, x10, x3, x4, x5) => ⟨[(4, .ptr 4 0), (5, .ptr 5 0), (7, .ptr 7 0), (20, .agg [.flat (.int .u32 x6), .flat (.int .u32 x7), .flat (.int .u32 x8), .flat (.int .u32 x9)]), (21, .flat (.int .i64 x10))], [(4, .arr 4 C.u64 x3), (5, .arr 8 C.u64 x4), (7, .arr 4 C.u32 x5)]⟩
noncomputable def limb_Mul.l4.un (s : St U) : Option (Int × Int × Int × Int × Int × List Int × List Int × List Int) := match s.get 4, s.get 5, s.get 7, s.get 20, s.get 21, lk s.o 4, lk s.o 5, lk s.o 7 with | .ptr 4 0, .ptr 5 0, .ptr 7 0, .agg [.flat (.int .u32 x6), .flat (.int .u32 x7), .flat (.int .u32 x8), .flat (.int .u32 x9)], .flat (.int .i64 x10), some (.arr 4 C.u64 x3), some (.arr 8 C.u64 x4), some (.arr 4 C.u32 x5) => some (x6, x7, x8, x9, x10, x3, x4, x5) | _, _, _, _, _, _, _, _ => none
noncomputable def limb_Mul.l4.fin (y : (List Int × List Int)) : Out U := match y with | (x38, x39) => .exit 0 ⟨[(4, .ptr 4 0), (5, .ptr 5 0)], [(4, .arr 4 C.u64 x38), (5, .arr 8 C.u64 x39)]⟩
noncomputable def limb_Mul.l4.finK {ρ : Type} (y : (List Int × List Int)) (K : Out U → Option ρ) : Option ρ := match y with | (x38, x39) => K (.exit 0 ⟨[(4, .ptr 4 0), (5, .ptr 5 0)], [(4, .arr 4 C.u64 x38), (5, .arr 8 C.u64 x39)]⟩)
theorem limb_Mul.l4.finK_eq {ρ : Type} (y : (List Int × List Int)) (K : Out U → Option ρ) : limb_Mul.l4.finK y K = K (limb_Mul.l4.fin y) := by
  unfold limb_Mul.l4.finK limb_Mul.l4.fin
  first | rfl | (split <;> rfl)
noncomputable def limb_Mul.l4.re : Out U → Option ((List Int × List Int)) | .exit 0 s => (match s.get 4, s.get 5, lk s.o 4, lk s.o 5 with | .ptr 4 0, .ptr 5 0, some (.arr 4 C.u64 x38), some (.arr 8 C.u64 x39) => some (x38, x39) | _, _, _, _ => none) | _ => none
noncomputable def limb_Mul.l4.L (k : Nat) : LDen U := { X := (Int × Int × Int × Int × Int × List Int × List Int × List Int), Y := (List Int × List Int), un := limb_Mul.l4.un, f := iter (limb_Mul.l4.once k) k, fin := limb_Mul.l4.fin, finK := limb_Mul.l4.finK, finK_eq := limb_Mul.l4.finK_eq }
noncomputable def limb_Mul.l18.mk (x : (Int × List Int × List Int × List Int)) : St U := match x with | (x44, x41, x42, x43) => ⟨[(4, .ptr 4 0), (5, .ptr 5 0), (14, .ptr 14 0), (58, .flat (.int .i64 x44))], [(4, .arr 4 C.u64 x41), (5, .arr 8 C.u64 x42), (14, .arr 4 C.u64 x43)]⟩
noncomputable def limb_Mul.l18.un (s : St U) : Option (Int × List Int × List Int × List Int) := match s.get 4, s.get 5, s.get 14, s.get 58, lk s.o 4, lk s.o 5, lk s.o 14 with | .ptr 4 0, .ptr 5 0, .ptr 14 0, .flat (.int .i64 x44), some (.arr 4 C.u64 x41), some (.arr 8 C.u64 x42), some (.arr 4 C.u64 x43) => some (x44, x41, x42, x43) | _, _, _, _, _, _, _ => none
noncomputable def limb_Mul.l18.fin (y : (List Int × List Int)) : Out U := match y with | (x45, x46) => .exit 4 ⟨[(4, .ptr 4 0), (14, .ptr 14 0)], [(4, .arr 4 C.u64 x45), (14, .arr 4 C.u64 x46)]⟩
noncomputable def limb_Mul.l18.finK {ρ : Type} (y : (List Int × List Int)) (K : Out U → Option ρ) : Option ρ := match y with | (x45, x46) => K (.exit 4 ⟨[(4, .ptr 4 0), (14, .ptr 14 0)], [(4, .arr 4 C.u64 x45), (14, .arr 4 C.u64 x46)]⟩)
theorem limb_Mul.l18.finK_eq {ρ : Type} (y : (List Int × List Int)) (K : Out U → Option ρ) : limb_Mul.l18.finK y K = K (limb_Mul.l18.fin y) := by
  unfold limb_Mul.l18.finK limb_Mul.l18.fin
  first | rfl | (split <;> rfl)
noncomputable def limb_Mul.l18.re : Out U → Option ((List Int × List Int)) | .exit 4 s => (match s.get 4, s.get 14, lk s.o 4, lk s.o 14 with | .ptr 4 0, .ptr 14 0, some (.arr 4 C.u64 x45), some (.arr 4 C.u64 x46) => some (x45, x46) | _, _, _, _ => none) | _ => none
noncomputable def limb_Mul.l18.L (k : Nat) : LDen U := { X := (Int × List Int × List Int × List Int), Y := (List Int × List Int), un := limb_Mul.l18.un, f := iter (limb_Mul.l18.once k) k, fin := limb_Mul.l18.fin, finK := limb_Mul.l18.finK, finK_eq := limb_Mul.l18.finK_eq }
noncomputable def limb_Mul.jl : List (Nat × JDen U) := []
noncomputable def limb_Mul.fl (k : Nat) : List (Nat × FDen U) := [(66, limb_halves.D k)]
noncomputable def limb_Mul.ll (k : Nat) : List (Nat × LDen U) := [(8, limb_Mul.l8.L k), (4, limb_Mul.l4.L k), (18, limb_Mul.l18.L k)]
noncomputable def limb_Mul.E (k : Nat) : Env U := { P := Try.prog, D := DD, fd := lk (limb_Mul.fl k), ld := lk (limb_Mul.ll k), jd := lk limb_Mul.jl, mode := lk [(30, (4, C.u64)), (93, (8, C.u64)), (95, (4, C.u32))], elc := lk ec, dyn := fun t => false, vecs := fun d => false, results := Try.f25.results.toList }
theorem limb_Mul.ok (k : Nat) : EnvOk (limb_Mul.E k) := envOk lawful (limb_Mul.fl k) (limb_Mul.ll k) limb_Mul.jl _ _ _ _ _ (by
  intro p hp
  simp only [limb_Mul.fl, List.mem_cons, List.not_mem_nil, or_false] at hp
  rcases hp with rfl
  · exact ⟨limb_halves.sound k, enter_of Try.func66 (by kernel_rfl) (by kernel_rfl)⟩) (by
  intro p hp
  simp [limb_Mul.jl] at hp)
theorem limb_Mul.l8.eq (k : Nat) (x : (Int × Int × Int × Int × Int × Int × Int × Int × Int × Int × Int × Int × Int × List Int × List Int × List Int)) : evC (limb_Mul.E k) (loopAt Try.f25 8) (limb_Mul.l8.mk x) (headK limb_Mul.l8.un limb_Mul.l8.re) = limb_Mul.l8.once k x := by kernel_rfl
theorem limb_Mul.l8.fit (s : St U) (x : (Int × Int × Int × Int × Int × Int × Int × Int × Int × Int × Int × Int × Int × List Int × List Int × List Int)) (h : limb_Mul.l8.un s = some x) : Fits s (limb_Mul.l8.mk x) := by
  unfold limb_Mul.l8.un at h
  split at h
  · cases h
    refine fits_ren [] ?_ ?_ ren_nil rfl
    · exact List.forall_mem_cons.2 ⟨FV.same (by assumption) (fun _ _ _ hh => by cases hh) (fun _ hh => by cases hh), List.forall_mem_cons.2 ⟨FV.same (by assumption) (fun _ _ _ hh => by cases hh) (fun _ hh => by cases hh), List.forall_mem_cons.2 ⟨FV.same (by assumption) (fun _ _ _ hh => by cases hh) (fun _ hh => by cases hh), List.forall_mem_cons.2 ⟨FV.same (by assumption) (fun _ _ _ hh => by cases hh) (fun _ hh => by cases hh), List.forall_mem_cons.2 ⟨FV.same (by assumption) (fun _ _ _ hh => by cases hh) (fun _ hh => by cases hh), List.forall_mem_cons.2 ⟨FV.same (by assumption) (fun _ _ _ hh => by cases hh) (fun _ hh => by cases hh), List.forall_mem_cons.2 ⟨FV.same (by assumption) (fun _ _ _ hh => by cases hh) (fun _ hh => by cases hh), List.forall_mem_cons.2 ⟨FV.same (by assumption) (fun _ _ _ hh => by cases hh) (fun _ hh => by cases hh), List.forall_mem_cons.2 ⟨FV.same (by assumption) (fun _ _ _ hh => by cases hh) (fun _ hh => by cases hh), List.forall_mem_cons.2 ⟨FV.same (by assumption) (fun _ _ _ hh => by cases hh) (fun _ hh => by cases hh), fun _ hp => (List.not_mem_nil hp).elim⟩⟩⟩⟩⟩⟩⟩⟩⟩⟩
    · exact List.forall_mem_cons.2 ⟨(show lk (St.o _) 4 = some _ from by assumption), List.forall_mem_cons.2 ⟨(show lk (St.o _) 5 = some _ from by assumption), List.forall_mem_cons.2 ⟨(show lk (St.o _) 7 = some _ from by assumption), fun _ hp => (List.not_mem_nil hp).elim⟩⟩⟩
  · cases h
theorem limb_Mul.l8.fitO (o : Out U) (y : (Int × Int × Int × Int × Int × Int × Int × List Int × List Int × List Int)) (h : limb_Mul.l8.re o = some y) : FitsO o (limb_Mul.l8.fin y) := by
  unfold limb_Mul.l8.re at h
  split at h
  · split at h
    · cases h
      refine fitsO_exit (fits_ren [] ?_ ?_ ren_nil rfl)
      · exact List.forall_mem_cons.2 ⟨FV.same (by assumption) (fun _ _ _ hh => by cases hh) (fun _ hh => by cases hh), List.forall_mem_cons.2 ⟨FV.same (by assumption) (fun _ _ _ hh => by cases hh) (fun _ hh => by cases hh), List.forall_mem_cons.2 ⟨FV.same (by assumption) (fun _ _ _ hh => by cases hh) (fun _ hh => by cases hh), List.forall_mem_cons.2 ⟨FV.same (by assumption) (fun _ _ _ hh => by cases hh) (fun _ hh => by cases hh), List.forall_mem_cons.2 ⟨FV.same (by assumption) (fun _ _ _ hh => by cases hh) (fun _ hh => by cases hh), List.forall_mem_cons.2 ⟨FV.same (by assumption) (fun _ _ _ hh => by cases hh) (fun _ hh => by cases hh), List.forall_mem_cons.2 ⟨FV.same (by assumption) (fun _ _ _ hh => by cases hh) (fun _ hh => by cases hh), fun _ hp => (List.not_mem_nil hp).elim⟩⟩⟩⟩⟩⟩⟩
      · exact List.forall_mem_cons.2 ⟨(show lk (St.o _) 4 = some _ from by assumption), List.forall_mem_cons.2 ⟨(show lk (St.o _) 5 = some _ from by assumption), List.forall_mem_cons.2 ⟨(show lk (St.o _) 7 = some _ from by assumption), fun _ hp => (List.not_mem_nil hp).elim⟩⟩⟩
    · cases h
  · cases h
theorem limb_Mul.l8.sound (k : Nat) : LSound (limb_Mul.E k) Try.f25.ntmps Try.f25 (loopAt Try.f25 8) (limb_Mul.l8.L k) :=
  loop_sound (limb_Mul.ok k) mixed rfl (by kernel_rfl) (allL_of (l := []) (by kernel_rfl) allL_nil) limb_Mul.l8.un limb_Mul.l8.mk limb_Mul.l8.fin limb_Mul.l8.re (limb_Mul.l8.once k) k limb_Mul.l8.fit limb_Mul.l8.fitO (limb_Mul.l8.eq k) limb_Mul.l8.finK limb_Mul.l8.finK_eq
theorem limb_Mul.l4.eq (k : Nat) (x : (Int × Int × Int × Int × Int × List Int × List Int × List Int)) : evC (limb_Mul.E k) (loopAt Try.f25 4) (limb_Mul.l4.mk x) (headK limb_Mul.l4.un limb_Mul.l4.re) = limb_Mul.l4.once k x := by kernel_rfl
theorem limb_Mul.l4.fit (s : St U) (x : (Int × Int × Int × Int × Int × List Int × List Int × List Int)) (h : limb_Mul.l4.un s = some x) : Fits s (limb_Mul.l4.mk x) := by
  unfold limb_Mul.l4.un at h
  split at h
  · cases h
    refine fits_ren [] ?_ ?_ ren_nil rfl
    · exact List.forall_mem_cons.2 ⟨FV.same (by assumption) (fun _ _ _ hh => by cases hh) (fun _ hh => by cases hh), List.forall_mem_cons.2 ⟨FV.same (by assumption) (fun _ _ _ hh => by cases hh) (fun _ hh => by cases hh), List.forall_mem_cons.2 ⟨FV.same (by assumption) (fun _ _ _ hh => by cases hh) (fun _ hh => by cases hh), List.forall_mem_cons.2 ⟨FV.same (by assumption) (fun _ _ _ hh => by cases hh) (fun _ hh => by cases hh), List.forall_mem_cons.2 ⟨FV.same (by assumption) (fun _ _ _ hh => by cases hh) (fun _ hh => by cases hh), fun _ hp => (List.not_mem_nil hp).elim⟩⟩⟩⟩⟩
    · exact List.forall_mem_cons.2 ⟨(show lk (St.o _) 4 = some _ from by assumption), List.forall_mem_cons.2 ⟨(show lk (St.o _) 5 = some _ from by assumption), List.forall_mem_cons.2 ⟨(show lk (St.o _) 7 = some _ from by assumption), fun _ hp => (List.not_mem_nil hp).elim⟩⟩⟩
  · cases h
theorem limb_Mul.l4.fitO (o : Out U) (y : (List Int × List Int)) (h : limb_Mul.l4.re o = some y) : FitsO o (limb_Mul.l4.fin y) := by
  unfold limb_Mul.l4.re at h
  split at h
  · split at h
    · cases h
      refine fitsO_exit (fits_ren [] ?_ ?_ ren_nil rfl)
      · exact List.forall_mem_cons.2 ⟨FV.same (by assumption) (fun _ _ _ hh => by cases hh) (fun _ hh => by cases hh), List.forall_mem_cons.2 ⟨FV.same (by assumption) (fun _ _ _ hh => by cases hh) (fun _ hh => by cases hh), fun _ hp => (List.not_mem_nil hp).elim⟩⟩
      · exact List.forall_mem_cons.2 ⟨(show lk (St.o _) 4 = some _ from by assumption), List.forall_mem_cons.2 ⟨(show lk (St.o _) 5 = some _ from by assumption), fun _ hp => (List.not_mem_nil hp).elim⟩⟩
    · cases h
  · cases h
theorem limb_Mul.l4.sound (k : Nat) : LSound (limb_Mul.E k) Try.f25.ntmps Try.f25 (loopAt Try.f25 4) (limb_Mul.l4.L k) :=
  loop_sound (limb_Mul.ok k) mixed rfl (by kernel_rfl) (allL_of (l := [loopAt Try.f25 8]) (by kernel_rfl) (allL_cons (key := 8) (by kernel_rfl) rfl (limb_Mul.l8.sound k) allL_nil)) limb_Mul.l4.un limb_Mul.l4.mk limb_Mul.l4.fin limb_Mul.l4.re (limb_Mul.l4.once k) k limb_Mul.l4.fit limb_Mul.l4.fitO (limb_Mul.l4.eq k) limb_Mul.l4.finK limb_Mul.l4.finK_eq
theorem limb_Mul.l18.eq (k : Nat) (x : (Int × List Int × List Int × List Int)) : evC (limb_Mul.E k) (loopAt Try.f25 18) (limb_Mul.l18.mk x) (headK limb_Mul.l18.un limb_Mul.l18.re) = limb_Mul.l18.once k x := by kernel_rfl
theorem limb_Mul.l18.fit (s : St U) (x : (Int × List Int × List Int × List Int)) (h : limb_Mul.l18.un s = some x) : Fits s (limb_Mul.l18.mk x) := by
  unfold limb_Mul.l18.un at h
  split at h
  · cases h
    refine fits_ren [] ?_ ?_ ren_nil rfl
    · exact List.forall_mem_cons.2 ⟨FV.same (by assumption) (fun _ _ _ hh => by cases hh) (fun _ hh => by cases hh), List.forall_mem_cons.2 ⟨FV.same (by assumption) (fun _ _ _ hh => by cases hh) (fun _ hh => by cases hh), List.forall_mem_cons.2 ⟨FV.same (by assumption) (fun _ _ _ hh => by cases hh) (fun _ hh => by cases hh), List.forall_mem_cons.2 ⟨FV.same (by assumption) (fun _ _ _ hh => by cases hh) (fun _ hh => by cases hh), fun _ hp => (List.not_mem_nil hp).elim⟩⟩⟩⟩
    · exact List.forall_mem_cons.2 ⟨(show lk (St.o _) 4 = some _ from by assumption), List.forall_mem_cons.2 ⟨(show lk (St.o _) 5 = some _ from by assumption), List.forall_mem_cons.2 ⟨(show lk (St.o _) 14 = some _ from by assumption), fun _ hp => (List.not_mem_nil hp).elim⟩⟩⟩
  · cases h
theorem limb_Mul.l18.fitO (o : Out U) (y : (List Int × List Int)) (h : limb_Mul.l18.re o = some y) : FitsO o (limb_Mul.l18.fin y) := by
  unfold limb_Mul.l18.re at h
  split at h
  · split at h
    · cases h
      refine fitsO_exit (fits_ren [] ?_ ?_ ren_nil rfl)
      · exact List.forall_mem_cons.2 ⟨FV.same (by assumption) (fun _ _ _ hh => by cases hh) (fun _ hh => by cases hh), List.forall_mem_cons.2 ⟨FV.same (by assumption) (fun _ _ _ hh => by cases hh) (fun _ hh => by cases hh), fun _ hp => (List.not_mem_nil hp).elim⟩⟩
      · exact List.forall_mem_cons.2 ⟨(show lk (St.o _) 4 = some _ from by assumption), List.forall_mem_cons.2 ⟨(show lk (St.o _) 14 = some _ from by assumption), fun _ hp => (List.not_mem_nil hp).elim⟩⟩
    · cases h
  · cases h
theorem limb_Mul.l18.sound (k : Nat) : LSound (limb_Mul.E k) Try.f25.ntmps Try.f25 (loopAt Try.f25 18) (limb_Mul.l18.L k) :=
  loop_sound (limb_Mul.ok k) mixed rfl (by kernel_rfl) (allL_of (l := []) (by kernel_rfl) allL_nil) limb_Mul.l18.un limb_Mul.l18.mk limb_Mul.l18.fin limb_Mul.l18.re (limb_Mul.l18.once k) k limb_Mul.l18.fit limb_Mul.l18.fitO (limb_Mul.l18.eq k) limb_Mul.l18.finK limb_Mul.l18.finK_eq
theorem limb_Mul.eq (k : Nat) (x : ((Int × Int) × (Int × Int))) : runF (limb_Mul.E k) (codeOf Try.f25) (limb_Mul.mk x) limb_Mul.re = (limb_Mul.D k).f x := by kernel_rfl
theorem limb_Mul.sound (k : Nat) : Sound Try.prog DD 25 (limb_Mul.D k) :=
  fun_sound (E := limb_Mul.E k) (fn := Try.f25) (c := codeOf Try.f25) (limb_Mul.ok k) mixed rfl Try.func25 (by kernel_rfl) (by kernel_rfl) (allL_of (l := [loopAt Try.f25 4, loopAt Try.f25 18]) (by kernel_rfl) (allL_cons (key := 4) (by kernel_rfl) rfl (limb_Mul.l4.sound k) (allL_cons (key := 18) (by kernel_rfl) rfl (limb_Mul.l18.sound k) allL_nil))) (limb_Mul.D k) limb_Mul.mk limb_Mul.re
    (by intro args x h; replace h : limb_Mul.un args = some x := h; unfold limb_Mul.un at h; split at h; · cases h; rfl
        · cases h)
    (by intro v y h; unfold limb_Mul.re at h; split at h; · cases h; rfl
        · cases h)
    (fun _ => rfl) (fun x => Nat.le_of_ble_eq_true (by kernel_rfl)) (limb_Mul.eq k)
/-! ### pyx/pyxlaw1.known: function 17 -/
noncomputable def pyxlaw1_known.f (k : Nat)  : Option Bool := (limb_Mul.f k (0, 1) (0, 1)).bind fun t1 => (cond ((t1.1 == 0) && ((t1.2.1 == 0) && ((t1.2.2.1 == 1) && (t1.2.2.2 == 0)))) ((limb_Of.f k 7).bind fun t2 => (some ((t2.1 == 7) && (t2.2 == 0)))) (some false))
noncomputable def pyxlaw1_known.un : List (AV U) → Option Unit | [] => some () | _ => none
noncomputable def pyxlaw1_known.mk (x : Unit) : List (AV U) := []
noncomputable def pyxlaw1_known.D (k : Nat) : FDen U := { X := Unit, Y := Bool, un := pyxlaw1_known.un, f := fun x => pyxlaw1_known.f k , fin := fun y => .flat (.bool y) }
noncomputable def pyxlaw1_known.re : AV U → Option Bool | .flat (.bool x1) => some x1 | _ => none
noncomputable def pyxlaw1_known.jl : List (Nat × JDen U) := []
noncomputable def pyxlaw1_known.fl (k : Nat) : List (Nat × FDen U) := [(25, limb_Mul.D k), (26, limb_Of.D k)]
noncomputable def pyxlaw1_known.ll (k : Nat) : List (Nat × LDen U) := []
noncomputable def pyxlaw1_known.E (k : Nat) : Env U := { P := Try.prog, D := DD, fd := lk (pyxlaw1_known.fl k), ld := lk (pyxlaw1_known.ll k), jd := lk pyxlaw1_known.jl, mode := lk [], elc := lk ec, dyn := fun t => false, vecs := fun d => false, results := Try.f17.results.toList }
theorem pyxlaw1_known.ok (k : Nat) : EnvOk (pyxlaw1_known.E k) := envOk lawful (pyxlaw1_known.fl k) (pyxlaw1_known.ll k) pyxlaw1_known.jl _ _ _ _ _ (by
  intro p hp
  simp only [pyxlaw1_known.fl, List.mem_cons, List.not_mem_nil, or_false] at hp
  rcases hp with rfl | rfl
  · exact ⟨limb_Mul.sound k, enter_of Try.func25 (by kernel_rfl) (by kernel_rfl)⟩
  · exact ⟨limb_Of.sound k, enter_of Try.func26 (by kernel_rfl) (by kernel_rfl)⟩) (by
  intro p hp
  simp [pyxlaw1_known.jl] at hp)
theorem pyxlaw1_known.eq (k : Nat) (x : Unit) : runF (pyxlaw1_known.E k) (codeOf Try.f17) (pyxlaw1_known.mk x) pyxlaw1_known.re = (pyxlaw1_known.D k).f x := by kernel_rfl
theorem pyxlaw1_known.sound (k : Nat) : Sound Try.prog DD 17 (pyxlaw1_known.D k) :=
  fun_sound (E := pyxlaw1_known.E k) (fn := Try.f17) (c := codeOf Try.f17) (pyxlaw1_known.ok k) mixed rfl Try.func17 (by kernel_rfl) (by kernel_rfl) (allL_of (l := []) (by kernel_rfl) allL_nil) (pyxlaw1_known.D k) pyxlaw1_known.mk pyxlaw1_known.re
    (by intro args x h; replace h : pyxlaw1_known.un args = some x := h; unfold pyxlaw1_known.un at h; split at h; · cases h; rfl
        · cases h)
    (by intro v y h; unfold pyxlaw1_known.re at h; split at h; · cases h; rfl
        · cases h)
    (fun _ => rfl) (fun x => Nat.le_of_ble_eq_true (by kernel_rfl)) (pyxlaw1_known.eq k)
/-! ### pyx/pyxlaw1.LimbShifts: function 4 -/
noncomputable def pyxlaw1_LimbShifts.f (k : Nat) (a0 : Int) (a1 : Int) (a2 : Int) (a3 : Int) : Option Bool := (pyxlaw1_words.f k a0 a1 a2).bind fun t1 => ((limb_Wide.f k (t1.1, t1.2)).bind fun t2 => ((pyxhand_Pick.f k a3 129).bind fun t3 => ((limb_Left.f k (t2.1, t2.2.1, t2.2.2.1, t2.2.2.2) t3).bind fun t4 => ((((limb_Right.f k (t4.1, t4.2.1, t4.2.2.1, t4.2.2.2) t3).bind fun t5 => (cond (!((t5.1 == t2.1) && ((t5.2.1 == t2.2.1) && ((t5.2.2.1 == t2.2.2.1) && (t5.2.2.2 == t2.2.2.2))))) (some (t3, true, t1.1, t1.2, t2.1, t2.2.1, t2.2.2.1, t2.2.2.2)) (cond (!((t1.1 == 0) && (t1.2 == 0))) ((limb_Bits.f k (t4.1, t4.2.1, t4.2.2.1, t4.2.2.2)).bind fun t14 => ((limb_Bits.f k (t2.1, t2.2.1, t2.2.2.1, t2.2.2.2)).bind fun t15 => (some (t3, t14 != (IntKind.wrap .i64 (t15 + t3)), t1.1, t1.2, t2.1, t2.2.1, t2.2.2.1, t2.2.2.2)))) (some (t3, false, t1.1, t1.2, t2.1, t2.2.1, t2.2.2.1, t2.2.2.2))))) : Option (Int × Bool × Int × Int × Int × Int × Int × Int)).bind fun y16 => (cond (y16.2.1) (some false) ((limb_Of.f k 2).bind fun t17 => ((limb_Mul.f k (y16.2.2.1, y16.2.2.2.1) (t17.1, t17.2)).bind fun t18 => ((limb_Of.f k 1).bind fun t19 => ((limb_Wide.f k (t19.1, t19.2)).bind fun t20 => ((limb_Bits.f k (y16.2.2.2.2.1, y16.2.2.2.2.2.1, y16.2.2.2.2.2.2.1, y16.2.2.2.2.2.2.2)).bind fun t21 => ((limb_Left.f k (t20.1, t20.2.1, t20.2.2.1, t20.2.2.2) t21).bind fun t22 => ((pyxlaw1_known.f k).bind fun t23 => (cond (t23) ((limb_Left.f k (y16.2.2.2.2.1, y16.2.2.2.2.2.1, y16.2.2.2.2.2.2.1, y16.2.2.2.2.2.2.2) 1).bind fun t24 => (cond ((t24.1 == t18.1) && ((t24.2.1 == t18.2.1) && ((t24.2.2.1 == t18.2.2.1) && (t24.2.2.2 == t18.2.2.2)))) ((limb_Left.f k (y16.2.2.2.2.1, y16.2.2.2.2.2.1, y16.2.2.2.2.2.2.1, y16.2.2.2.2.2.2.2) y16.1).bind fun t25 => ((limb_Left.f k (t25.1, t25.2.1, t25.2.2.1, t25.2.2.2) 3).bind fun t26 => ((limb_Left.f k (y16.2.2.2.2.1, y16.2.2.2.2.2.1, y16.2.2.2.2.2.2.1, y16.2.2.2.2.2.2.2) (IntKind.wrap .i64 (y16.1 + 3))).bind fun t27 => (cond ((t26.1 == t27.1) && ((t26.2.1 == t27.2.1) && ((t26.2.2.1 == t27.2.2.1) && (t26.2.2.2 == t27.2.2.2)))) ((limb_Bits.f k (y16.2.2.2.2.1, y16.2.2.2.2.2.1, y16.2.2.2.2.2.2.1, y16.2.2.2.2.2.2.2)).bind fun t28 => (cond (t28 == 0) (cond ((y16.2.2.2.2.1 == 0) && ((y16.2.2.2.2.2.1 == 0) && ((y16.2.2.2.2.2.2.1 == 0) && (y16.2.2.2.2.2.2.2 == 0)))) ((limb_Bits.f k (t22.1, t22.2.1, t22.2.2.1, t22.2.2.2)).bind fun t29 => ((limb_Bits.f k (y16.2.2.2.2.1, y16.2.2.2.2.2.1, y16.2.2.2.2.2.2.1, y16.2.2.2.2.2.2.2)).bind fun t30 => (some (t29 == (IntKind.wrap .i64 (t30 + 1)))))) ((limb_Bits.f k (y16.2.2.2.2.1, y16.2.2.2.2.2.1, y16.2.2.2.2.2.2.1, y16.2.2.2.2.2.2.2)).bind fun t31 => ((limb_Right.f k (y16.2.2.2.2.1, y16.2.2.2.2.2.1, y16.2.2.2.2.2.2.1, y16.2.2.2.2.2.2.2) t31).bind fun t32 => (cond ((t32.1 == 0) && ((t32.2.1 == 0) && ((t32.2.2.1 == 0) && (t32.2.2.2 == 0)))) ((limb_Bits.f k (y16.2.2.2.2.1, y16.2.2.2.2.2.1, y16.2.2.2.2.2.2.1, y16.2.2.2.2.2.2.2)).bind fun t33 => ((limb_Right.f k (y16.2.2.2.2.1, y16.2.2.2.2.2.1, y16.2.2.2.2.2.2.1, y16.2.2.2.2.2.2.2) (IntKind.wrap .i64 (t33 - 1))).bind fun t34 => (cond ((t34.1 == 1) && ((t34.2.1 == 0) && ((t34.2.2.1 == 0) && (t34.2.2.2 == 0)))) ((limb_Bits.f k (t22.1, t22.2.1, t22.2.2.1, t22.2.2.2)).bind fun t35 => ((limb_Bits.f k (y16.2.2.2.2.1, y16.2.2.2.2.2.1, y16.2.2.2.2.2.2.1, y16.2.2.2.2.2.2.2)).bind fun t36 => (some (t35 == (IntKind.wrap .i64 (t36 + 1)))))) (some false)))) (some false))))) ((limb_Bits.f k (y16.2.2.2.2.1, y16.2.2.2.2.2.1, y16.2.2.2.2.2.2.1, y16.2.2.2.2.2.2.2)).bind fun t37 => ((limb_Right.f k (y16.2.2.2.2.1, y16.2.2.2.2.2.1, y16.2.2.2.2.2.2.1, y16.2.2.2.2.2.2.2) t37).bind fun t38 => (cond ((t38.1 == 0) && ((t38.2.1 == 0) && ((t38.2.2.1 == 0) && (t38.2.2.2 == 0)))) ((limb_Bits.f k (y16.2.2.2.2.1, y16.2.2.2.2.2.1, y16.2.2.2.2.2.2.1, y16.2.2.2.2.2.2.2)).bind fun t39 => ((limb_Right.f k (y16.2.2.2.2.1, y16.2.2.2.2.2.1, y16.2.2.2.2.2.2.1, y16.2.2.2.2.2.2.2) (IntKind.wrap .i64 (t39 - 1))).bind fun t40 => (cond ((t40.1 == 1) && ((t40.2.1 == 0) && ((t40.2.2.1 == 0) && (t40.2.2.2 == 0)))) ((limb_Bits.f k (t22.1, t22.2.1, t22.2.2.1, t22.2.2.2)).bind fun t41 => ((limb_Bits.f k (y16.2.2.2.2.1, y16.2.2.2.2.2.1, y16.2.2.2.2.2.2.1, y16.2.2.2.2.2.2.2)).bind fun t42 => (some (t41 == (IntKind.wrap .i64 (t42 + 1)))))) (some false)))) (some false)))))) (some false))))) (some false))) (some false))))))))))))))
noncomputable def pyxlaw1_LimbShifts.un : List (AV U) → Option (Int × Int × Int × Int) | [.flat (.int .u64 x1), .flat (.int .u64 x2), .flat (.int .i64 x3), .flat (.int .i64 x4)] => some (x1, x2, x3, x4) | _ => none
noncomputable def pyxlaw1_LimbShifts.mk (x : (Int × Int × Int × Int)) : List (AV U) := [.flat (.int .u64 x.1), .flat (.int .u64 x.2.1), .flat (.int .i64 x.2.2.1), .flat (.int .i64 x.2.2.2)]
noncomputable def pyxlaw1_LimbShifts.D (k : Nat) : FDen U := { X := (Int × Int × Int × Int), Y := Bool, un := pyxlaw1_LimbShifts.un, f := fun x => pyxlaw1_LimbShifts.f k (x.1) (x.2.1) (x.2.2.1) (x.2.2.2), fin := fun y => .flat (.bool y) }
noncomputable def pyxlaw1_LimbShifts.re : AV U → Option Bool | .flat (.bool x1) => some x1 | _ => none
noncomputable def pyxlaw1_LimbShifts.j5000.fin (y : (Int × Bool × Int × Int × Int × Int × Int × Int)) : Out U := match y with | (x6, x13, x7, x8, x9, x10, x11, x12) => .norm ⟨[(9, .ptr 9 0), (10, .ptr 10 0), (3, .flat (.int .i64 x6)), (43, .flat (.bool x13))], [(9, .lit [.flat (.int .u64 x7), .flat (.int .u64 x8)]), (10, .lit [.flat (.int .u64 x9), .flat (.int .u64 x10), .flat (.int .u64 x11), .flat (.int .u64 x12)])]⟩
noncomputable def pyxlaw1_LimbShifts.j5000.finK {ρ : Type} (y : (Int × Bool × Int × Int × Int × Int × Int × Int)) (K : Out U → Option ρ) : Option ρ := match y with | (x6, x13, x7, x8, x9, x10, x11, x12) => K (.norm ⟨[(9, .ptr 9 0), (10, .ptr 10 0), (3, .flat (.int .i64 x6)), (43, .flat (.bool x13))], [(9, .lit [.flat (.int .u64 x7), .flat (.int .u64 x8)]), (10, .lit [.flat (.int .u64 x9), .flat (.int .u64 x10), .flat (.int .u64 x11), .flat (.int .u64 x12)])]⟩)
theorem pyxlaw1_LimbShifts.j5000.finK_eq {ρ : Type} (y : (Int × Bool × Int × Int × Int × Int × Int × Int)) (K : Out U → Option ρ) : pyxlaw1_LimbShifts.j5000.finK y K = K (pyxlaw1_LimbShifts.j5000.fin y) := by
  unfold pyxlaw1_LimbShifts.j5000.finK pyxlaw1_LimbShifts.j5000.fin
  first | rfl | (split <;> rfl)
noncomputable def pyxlaw1_LimbShifts.j5000.re : Out U → Option ((Int × Bool × Int × Int × Int × Int × Int × Int)) | .norm s => (match s.get 9, s.get 10, s.get 3, s.get 43, lk s.o 9, lk s.o 10 with | .ptr 9 0, .ptr 10 0, .flat (.int .i64 x6), .flat (.bool x13), some (.lit [.flat (.int .u64 x7), .flat (.int .u64 x8)]), some (.lit [.flat (.int .u64 x9), .flat (.int .u64 x10), .flat (.int .u64 x11), .flat (.int .u64 x12)]) => some (x6, x13, x7, x8, x9, x10, x11, x12) | _, _, _, _, _, _ => none) | _ => none
noncomputable def pyxlaw1_LimbShifts.j5000.J : JDen U := { Y := (Int × Bool × Int × Int × Int × Int × Int × Int), re := pyxlaw1_LimbShifts.j5000.re, fin := pyxlaw1_LimbShifts.j5000.fin, finK := pyxlaw1_LimbShifts.j5000.finK, finK_eq := pyxlaw1_LimbShifts.j5000.finK_eq }
theorem pyxlaw1_LimbShifts.j5000.fit (o : Out U) (y : (Int × Bool × Int × Int × Int × Int × Int × Int)) (h : pyxlaw1_LimbShifts.j5000.re o = some y) : FitsO o (pyxlaw1_LimbShifts.j5000.fin y) := by
  unfold pyxlaw1_LimbShifts.j5000.re at h
  split at h
  · split at h
    · cases h
      refine fitsO_norm (fits_ren [] ?_ ?_ ren_nil rfl)
      · exact List.forall_mem_cons.2 ⟨FV.same (by assumption) (fun _ _ _ hh => by cases hh) (fun _ hh => by cases hh), List.forall_mem_cons.2 ⟨FV.same (by assumption) (fun _ _ _ hh => by cases hh) (fun _ hh => by cases hh), List.forall_mem_cons.2 ⟨FV.same (by assumption) (fun _ _ _ hh => by cases hh) (fun _ hh => by cases hh), List.forall_mem_cons.2 ⟨FV.same (by assumption) (fun _ _ _ hh => by cases hh) (fun _ hh => by cases hh), fun _ hp => (List.not_mem_nil hp).elim⟩⟩⟩⟩
      · exact List.forall_mem_cons.2 ⟨(show lk (St.o _) 9 = some _ from by assumption), List.forall_mem_cons.2 ⟨(show lk (St.o _) 10 = some _ from by assumption), fun _ hp => (List.not_mem_nil hp).elim⟩⟩
    · cases h
  · cases h
noncomputable def pyxlaw1_LimbShifts.jl : List (Nat × JDen U) := [(5000, pyxlaw1_LimbShifts.j5000.J)]
noncomputable def pyxlaw1_LimbShifts.fl (k : Nat) : List (Nat × FDen U) := [(15, pyxlaw1_words.D k), (20, limb_Wide.D k), (21, pyxhand_Pick.D k), (22, limb_Left.D k), (23, limb_Right.D k), (24, limb_Bits.D k), (26, limb_Of.D k), (25, limb_Mul.D k), (17, pyxlaw1_known.D k)]
noncomputable def pyxlaw1_LimbShifts.ll (k : Nat) : List (Nat × LDen U) := []
noncomputable def pyxlaw1_LimbShifts.E (k : Nat) : Env U := { P := Try.prog, D := DD, fd := lk (pyxlaw1_LimbShifts.fl k), ld := lk (pyxlaw1_LimbShifts.ll k), jd := lk pyxlaw1_LimbShifts.jl, mode := lk [], elc := lk ec, dyn := fun t => false, vecs := fun d => false, results := Try.f4.results.toList }
theorem pyxlaw1_LimbShifts.ok (k : Nat) : EnvOk (pyxlaw1_LimbShifts.E k) := envOk lawful (pyxlaw1_LimbShifts.fl k) (pyxlaw1_LimbShifts.ll k) pyxlaw1_LimbShifts.jl _ _ _ _ _ (by
  intro p hp
  simp only [pyxlaw1_LimbShifts.fl, List.mem_cons, List.not_mem_nil, or_false] at hp
  rcases hp with rfl | rfl | rfl | rfl | rfl | rfl | rfl | rfl | rfl
  · exact ⟨pyxlaw1_words.sound k, enter_of Try.func15 (by kernel_rfl) (by kernel_rfl)⟩
  · exact ⟨limb_Wide.sound k, enter_of Try.func20 (by kernel_rfl) (by kernel_rfl)⟩
  · exact ⟨pyxhand_Pick.sound k, enter_of Try.func21 (by kernel_rfl) (by kernel_rfl)⟩
  · exact ⟨limb_Left.sound k, enter_of Try.func22 (by kernel_rfl) (by kernel_rfl)⟩
  · exact ⟨limb_Right.sound k, enter_of Try.func23 (by kernel_rfl) (by kernel_rfl)⟩
  · exact ⟨limb_Bits.sound k, enter_of Try.func24 (by kernel_rfl) (by kernel_rfl)⟩
  · exact ⟨limb_Of.sound k, enter_of Try.func26 (by kernel_rfl) (by kernel_rfl)⟩
  · exact ⟨limb_Mul.sound k, enter_of Try.func25 (by kernel_rfl) (by kernel_rfl)⟩
  · exact ⟨pyxlaw1_known.sound k, enter_of Try.func17 (by kernel_rfl) (by kernel_rfl)⟩) (by
  intro p hp
  simp only [pyxlaw1_LimbShifts.jl, List.mem_cons, List.not_mem_nil, or_false] at hp
  rcases hp with rfl
  · exact pyxlaw1_LimbShifts.j5000.fit)
theorem pyxlaw1_LimbShifts.eq (k : Nat) (x : (Int × Int × Int × Int)) : runF (pyxlaw1_LimbShifts.E k) (codeOf Try.f4) (pyxlaw1_LimbShifts.mk x) pyxlaw1_LimbShifts.re = (pyxlaw1_LimbShifts.D k).f x := by kernel_rfl
theorem pyxlaw1_LimbShifts.sound (k : Nat) : Sound Try.prog DD 4 (pyxlaw1_LimbShifts.D k) :=
  fun_sound (E := pyxlaw1_LimbShifts.E k) (fn := Try.f4) (c := codeOf Try.f4) (pyxlaw1_LimbShifts.ok k) mixed rfl Try.func4 (by kernel_rfl) (by kernel_rfl) (allL_of (l := []) (by kernel_rfl) allL_nil) (pyxlaw1_LimbShifts.D k) pyxlaw1_LimbShifts.mk pyxlaw1_LimbShifts.re
    (by intro args x h; replace h : pyxlaw1_LimbShifts.un args = some x := h; unfold pyxlaw1_LimbShifts.un at h; split at h; · cases h; rfl
        · cases h)
    (by intro v y h; unfold pyxlaw1_LimbShifts.re at h; split at h; · cases h; rfl
        · cases h)
    (fun _ => rfl) (fun x => Nat.le_of_ble_eq_true (by kernel_rfl)) (pyxlaw1_LimbShifts.eq k)
/-! ### pyx/limb.Cmp: function 19 -/
noncomputable def limb_Cmp.l2.once (k : Nat) (x : (Int × List Int × List Int)) : Option ((Int × List Int × List Int) ⊕ (Unit ⊕ Int)) := match x with | (x3, x1, x2) => cond (decide (x3 ≥ 0)) (cond (inb x3 2) (cond (Nat.blt (Int.toNat x3) 2) (cond (inb x3 2) (cond (Nat.blt (Int.toNat x3) 2) (cond ((List.getD x1 (Int.toNat x3) 0) != (List.getD x2 (Int.toNat x3) 0)) (cond (inb x3 2) (cond (Nat.blt (Int.toNat x3) 2) (cond (inb x3 2) (cond (Nat.blt (Int.toNat x3) 2) (cond (decide ((List.getD x1 (Int.toNat x3) 0) < (List.getD x2 (Int.toNat x3) 0))) (some (.inr (.inr (-1)))) (some (.inr (.inr 1)))) none) none) none) none) (some (.inl (IntKind.wrap .i64 (x3 - 1), x1, x2)))) none) none) none) none) (some (.inr (.inl ())))
noncomputable def limb_Cmp.f (k : Nat) (a0 : (Int × Int)) (a1 : (Int × Int)) : Option Int := (iter (limb_Cmp.l2.once k) k (1, [a0.1, a0.2], [a1.1, a1.2])).bind fun | .inl y5 => (some 0) | .inr y6 => (some y6)
noncomputable def limb_Cmp.un : List (AV U) → Option ((Int × Int) × (Int × Int)) | [.agg [.flat (.int .u64 x1), .flat (.int .u64 x2)], .agg [.flat (.int .u64 x3), .flat (.int .u64 x4)]] => some ((x1, x2), (x3, x4)) | _ => none
noncomputable def limb_Cmp.mk (x : ((Int × Int) × (Int × Int))) : List (AV U) := [.agg [.flat (.int .u64 x.1.1), .flat (.int .u64 x.1.2)], .agg [.flat (.int .u64 x.2.1), .flat (.int .u64 x.2.2)]]
noncomputable def limb_Cmp.D (k : Nat) : FDen U := { X := ((Int × Int) × (Int × Int)), Y := Int, un := limb_Cmp.un, f := fun x => limb_Cmp.f k (x.1) (x.2), fin := fun y => .flat (.int .i64 y) }
noncomputable def limb_Cmp.re : AV U → Option Int | .flat (.int .i64 x1) => some x1 | _ => none
noncomputable def limb_Cmp.l2.mk (x : (Int × List Int × List Int)) : St U := match x with | (x3, x1, x2) => ⟨[(2, .ptr 2 0), (3, .ptr 3 0), (5, .flat (.int .i64 x3))], [(2, .arr 2 C.u64 x1), (3, .arr 2 C.u64 x2)]⟩
noncomputable def limb_Cmp.l2.un (s : St U) : Option (Int × List Int × List Int) := match s.get 2, s.get 3, s.get 5, lk s.o 2, lk s.o 3 with | .ptr 2 0, .ptr 3 0, .flat (.int .i64 x3), some (.arr 2 C.u64 x1), some (.arr 2 C.u64 x2) => some (x3, x1, x2) | _, _, _, _, _ => none
noncomputable def limb_Cmp.l2.fin (y : Unit ⊕ Int) : Out U := match y with | .inl () => .exit 0 ⟨[], []⟩ | .inr z => .ret (.flat (.int .i64 z))
noncomputable def limb_Cmp.l2.finK {ρ : Type} (y : Unit ⊕ Int) (K : Out U → Option ρ) : Option ρ := match y with | .inl () => K (.exit 0 ⟨[], []⟩) | .inr z => K (.ret (.flat (.int .i64 z)))
theorem limb_Cmp.l2.finK_eq {ρ : Type} (y : Unit ⊕ Int) (K : Out U → Option ρ) : limb_Cmp.l2.finK y K = K (limb_Cmp.l2.fin y) := by
  unfold limb_Cmp.l2.finK limb_Cmp.l2.fin
  first | rfl | (split <;> rfl)
noncomputable def limb_Cmp.l2.re : Out U → Option (Unit ⊕ Int) | .exit 0 s => (some (.inl ())) | .ret v => (match v with | .flat (.int .i64 x1) => some (.inr x1) | _ => none) | _ => none
noncomputable def limb_Cmp.l2.L (k : Nat) : LDen U := { X := (Int × List Int × List Int), Y := Unit ⊕ Int, un := limb_Cmp.l2.un, f := iter (limb_Cmp.l2.once k) k, fin := limb_Cmp.l2.fin, finK := limb_Cmp.l2.finK, finK_eq := limb_Cmp.l2.finK_eq }
noncomputable def limb_Cmp.jl : List (Nat × JDen U) := []
noncomputable def limb_Cmp.fl (k : Nat) : List (Nat × FDen U) := []
noncomputable def limb_Cmp.ll (k : Nat) : List (Nat × LDen U) := [(2, limb_Cmp.l2.L k)]
noncomputable def limb_Cmp.E (k : Nat) : Env U := { P := Try.prog, D := DD, fd := lk (limb_Cmp.fl k), ld := lk (limb_Cmp.ll k), jd := lk limb_Cmp.jl, mode := lk [(23, (2, C.u64))], elc := lk ec, dyn := fun t => false, vecs := fun d => false, results := Try.f19.results.toList }
theorem limb_Cmp.ok (k : Nat) : EnvOk (limb_Cmp.E k) := envOk lawful (limb_Cmp.fl k) (limb_Cmp.ll k) limb_Cmp.jl _ _ _ _ _ (by
  intro p hp
  simp [limb_Cmp.fl] at hp) (by
  intro p hp
  simp [limb_Cmp.jl] at hp)
theorem limb_Cmp.l2.eq (k : Nat) (x : (Int × List Int × List Int)) : evC (limb_Cmp.E k) (loopAt Try.f19 2) (limb_Cmp.l2.mk x) (headK limb_Cmp.l2.un limb_Cmp.l2.re) = limb_Cmp.l2.once k x := by kernel_rfl
theorem limb_Cmp.l2.fit (s : St U) (x : (Int × List Int × List Int)) (h : limb_Cmp.l2.un s = some x) : Fits s (limb_Cmp.l2.mk x) := by
  unfold limb_Cmp.l2.un at h
  split at h
  · cases h
    refine fits_ren [] ?_ ?_ ren_nil rfl
    · exact List.forall_mem_cons.2 ⟨FV.same (by assumption) (fun _ _ _ hh => by cases hh) (fun _ hh => by cases hh), List.forall_mem_cons.2 ⟨FV.same (by assumption) (fun _ _ _ hh => by cases hh) (fun _ hh => by cases hh), List.forall_mem_cons.2 ⟨FV.same (by assumption) (fun _ _ _ hh => by cases hh) (fun _ hh => by cases hh), fun _ hp => (List.not_mem_nil hp).elim⟩⟩⟩
    · exact List.forall_mem_cons.2 ⟨(show lk (St.o _) 2 = some _ from by assumption), List.forall_mem_cons.2 ⟨(show lk (St.o _) 3 = some _ from by assumption), fun _ hp => (List.not_mem_nil hp).elim⟩⟩
  · cases h
theorem limb_Cmp.l2.fitO (o : Out U) (y : Unit ⊕ Int) (h : limb_Cmp.l2.re o = some y) : FitsO o (limb_Cmp.l2.fin y) := by
  unfold limb_Cmp.l2.re at h
  split at h
  · cases h
    refine fitsO_exit (fits_ren [] ?_ ?_ ren_nil rfl)
    · exact fun _ hp => (List.not_mem_nil hp).elim
    · exact fun _ hp => (List.not_mem_nil hp).elim
  · split at h
    · cases h; exact fitsO_ret
    · cases h
  · cases h
theorem limb_Cmp.l2.sound (k : Nat) : LSound (limb_Cmp.E k) Try.f19.ntmps Try.f19 (loopAt Try.f19 2) (limb_Cmp.l2.L k) :=
  loop_sound (limb_Cmp.ok k) mixed rfl (by kernel_rfl) (allL_of (l := []) (by kernel_rfl) allL_nil) limb_Cmp.l2.un limb_Cmp.l2.mk limb_Cmp.l2.fin limb_Cmp.l2.re (limb_Cmp.l2.once k) k limb_Cmp.l2.fit limb_Cmp.l2.fitO (limb_Cmp.l2.eq k) limb_Cmp.l2.finK limb_Cmp.l2.finK_eq
theorem limb_Cmp.eq (k : Nat) (x : ((Int × Int) × (Int × Int))) : runF (limb_Cmp.E k) (codeOf Try.f19) (limb_Cmp.mk x) limb_Cmp.re = (limb_Cmp.D k).f x := by kernel_rfl
theorem limb_Cmp.sound (k : Nat) : Sound Try.prog DD 19 (limb_Cmp.D k) :=
  fun_sound (E := limb_Cmp.E k) (fn := Try.f19) (c := codeOf Try.f19) (limb_Cmp.ok k) mixed rfl Try.func19 (by kernel_rfl) (by kernel_rfl) (allL_of (l := [loopAt Try.f19 2]) (by kernel_rfl) (allL_cons (key := 2) (by kernel_rfl) rfl (limb_Cmp.l2.sound k) allL_nil)) (limb_Cmp.D k) limb_Cmp.mk limb_Cmp.re
    (by intro args x h; replace h : limb_Cmp.un args = some x := h; unfold limb_Cmp.un at h; split at h; · cases h; rfl
        · cases h)
    (by intro v y h; unfold limb_Cmp.re at h; split at h; · cases h; rfl
        · cases h)
    (fun _ => rfl) (fun x => Nat.le_of_ble_eq_true (by kernel_rfl)) (limb_Cmp.eq k)
/-! ### pyx/limb.less: function 65 -/
noncomputable def limb_less.f (k : Nat) (a0 : Int) (a1 : Int) (a2 : Int) : Option (Int × Int) := some (IntKind.wrap .u64 ((IntKind.wrap .u64 (a0 - a1)) - a2), Int.fdiv (bits .or .u64 (bits .and .u64 (bits .xor .u64 18446744073709551615 a0) a1) (bits .and .u64 (bits .or .u64 (bits .xor .u64 18446744073709551615 a0) a1) (IntKind.wrap .u64 ((IntKind.wrap .u64 (a0 - a1)) - a2)))) (2 ^ 63))
noncomputable def limb_less.un : List (AV U) → Option (Int × Int × Int) | [.flat (.int .u64 x1), .flat (.int .u64 x2), .flat (.int .u64 x3)] => some (x1, x2, x3) | _ => none
noncomputable def limb_less.mk (x : (Int × Int × Int)) : List (AV U) := [.flat (.int .u64 x.1), .flat (.int .u64 x.2.1), .flat (.int .u64 x.2.2)]
noncomputable def limb_less.D (k : Nat) : FDen U := { X := (Int × Int × Int), Y := (Int × Int), un := limb_less.un, f := fun x => limb_less.f k (x.1) (x.2.1) (x.2.2), fin := fun y => .tup [.flat (.int .u64 y.1), .flat (.int .u64 y.2)] }
noncomputable def limb_less.re : AV U → Option (Int × Int) | .tup [.flat (.int .u64 x1), .flat (.int .u64 x2)] => some (x1, x2) | _ => none
noncomputable def limb_less.jl : List (Nat × JDen U) := []
noncomputable def limb_less.fl (k : Nat) : List (Nat × FDen U) := []
noncomputable def limb_less.ll (k : Nat) : List (Nat × LDen U) := []
noncomputable def limb_less.E (k : Nat) : Env U := { P := Try.prog, D := DD, fd := lk (limb_less.fl k), ld := lk (limb_less.ll k), jd := lk limb_less.jl, mode := lk [], elc := lk ec, dyn := fun t => false, vecs := fun d => false, results := Try.f65.results.toList }
theorem limb_less.ok (k : Nat) : EnvOk (limb_less.E k) := envOk lawful (limb_less.fl k) (limb_less.ll k) limb_less.jl _ _ _ _ _ (by
  intro p hp
  simp [limb_less.fl] at hp) (by
  intro p hp
  simp [limb_less.jl] at hp)
theorem limb_less.eq (k : Nat) (x : (Int × Int × Int)) : runF (limb_less.E k) (codeOf Try.f65) (limb_less.mk x) limb_less.re = (limb_less.D k).f x := by kernel_rfl
theorem limb_less.sound (k : Nat) : Sound Try.prog DD 65 (limb_less.D k) :=
  fun_sound (E := limb_less.E k) (fn := Try.f65) (c := codeOf Try.f65) (limb_less.ok k) mixed rfl Try.func65 (by kernel_rfl) (by kernel_rfl) (allL_of (l := []) (by kernel_rfl) allL_nil) (limb_less.D k) limb_less.mk limb_less.re
    (by intro args x h; replace h : limb_less.un args = some x := h; unfold limb_less.un at h; split at h; · cases h; rfl
        · cases h)
    (by intro v y h; unfold limb_less.re at h; split at h; · cases h; rfl
        · cases h)
    (fun _ => rfl) (fun x => Nat.le_of_ble_eq_true (by kernel_rfl)) (limb_less.eq k)
end
end Go.Proofs.Ythknecaigoilmaa
