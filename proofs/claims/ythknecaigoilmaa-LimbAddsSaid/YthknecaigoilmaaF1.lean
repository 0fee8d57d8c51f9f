import Derived.Test.YthknecaigoilmaaF0
/-! Functions, told; their equations with the evaluator; that they are sound. Written by gen.py. -/
namespace Go.Proofs.Ythknecaigoilmaa
open Go Go.Ev
noncomputable section
set_option linter.unusedVariables false
set_option linter.unusedSimpArgs false
set_option maxRecDepth 100000
/-! ### pyx/limb.Ten: function 28 -/
noncomputable def limb_Ten.l5.once (k : Nat) (x : (Int × Int × Int × Int × Int × Int)) : Option ((Int × Int × Int × Int × Int × Int) ⊕ ((Int × Int × Int × Int))) := match x with | (x6, x7, x2, x3, x4, x5) => cond (decide (x7 < x6)) ((limb_Of.f k 10).bind fun t8 => ((limb_Mul.f k (x4, x5) (t8.1, t8.2)).bind fun t9 => ((limb_Short.f k (t9.1, t9.2.1, t9.2.2.1, t9.2.2.2)).bind fun t10 => (some (.inl (x6, IntKind.wrap .i64 (x7 + 1), x2, x3, t10.1.1, t10.1.2)))))) (some (.inr (x2, x3, x4, x5)))
noncomputable def limb_Ten.f (k : Nat) (a0 : Int) : Option ((Int × Int) × Bool) := cond (decide (a0 < 0)) (some ((0, 0), false)) (cond (decide (a0 > 38)) (some ((0, 0), false)) ((limb_Of.f k 1).bind fun t1 => ((iter (limb_Ten.l5.once k) k (a0, 0, 0, 0, t1.1, t1.2)).bind fun y15 => (some ((y15.2.2.1, y15.2.2.2), true)))))
noncomputable def limb_Ten.un : List (AV U) → Option Int | [.flat (.int .i64 x1)] => some x1 | _ => none
noncomputable def limb_Ten.mk (x : Int) : List (AV U) := [.flat (.int .i64 x)]
noncomputable def limb_Ten.D (k : Nat) : FDen U := { X := Int, Y := ((Int × Int) × Bool), un := limb_Ten.un, f := fun x => limb_Ten.f k (x), fin := fun y => .tup [.agg [.flat (.int .u64 y.1.1), .flat (.int .u64 y.1.2)], .flat (.bool y.2)] }
noncomputable def limb_Ten.re : AV U → Option ((Int × Int) × Bool) | .tup [.agg [.flat (.int .u64 x1), .flat (.int .u64 x2)], .flat (.bool x3)] => some ((x1, x2), x3) | _ => none
noncomputable def limb_Ten.l5.mk (x : (Int × Int × Int × Int × Int × Int)) : St U := match x with | (x6, x7, x2, x3, x4, x5) => ⟨[(2, .ptr 2 0), (4, .ptr 4 0), (13, .flat (.int .i64 x6)), (14, .flat (.int .i64 x7))], [(2, .lit [.flat (.int .u64 x2), .flat (.int .u64 x3)]), (4, .lit [.flat (.int .u64 x4), .flat (.int .u64 x5)])]⟩
noncomputable def limb_Ten.l5.un (s : St U) : Option (Int × Int × Int × Int × Int × Int) := match s.get 2, s.get 4, s.get 13, s.get 14, lk s.o 2, lk s.o 4 with | .ptr 2 0, .ptr 4 0, .flat (.int .i64 x6), .flat (.int .i64 x7), some (.lit [.flat (.int .u64 x2), .flat (.int .u64 x3)]), some (.lit [.flat (.int .u64 x4), .flat (.int .u64 x5)]) => some (x6, x7, x2, x3, x4, x5) | _, _, _, _, _, _ => none
noncomputable def limb_Ten.l5.fin (y : (Int × Int × Int × Int)) : Out U := match y with | (x11, x12, x13, x14) => .exit 0 ⟨[(2, .ptr 2 0), (4, .ptr 4 0)], [(2, .lit [.flat (.int .u64 x11), .flat (.int .u64 x12)]), (4, .lit [.flat (.int .u64 x13), .flat (.int .u64 x14)])]⟩
noncomputable def limb_Ten.l5.finK {ρ : Type} (y : (Int × Int × Int × Int)) (K : Out U → Option ρ) : Option ρ := match y with | (x11, x12, x13, x14) => K (.exit 0 ⟨[(2, .ptr 2 0), (4, .ptr 4 0)], [(2, .lit [.flat (.int .u64 x11), .flat (.int .u64 x12)]), (4, .lit [.flat (.int .u64 x13), .flat (.int .u64 x14)])]⟩)
theorem limb_Ten.l5.finK_eq {ρ : Type} (y : (Int × Int × Int × Int)) (K : Out U → Option ρ) : limb_Ten.l5.finK y K = K (limb_Ten.l5.fin y) := by
  unfold limb_Ten.l5.finK limb_Ten.l5.fin
  split <;> rfl
noncomputable def limb_Ten.l5.re : Out U → Option ((Int × Int × Int × Int)) | .exit 0 s => (match s.get 2, s.get 4, lk s.o 2, lk s.o 4 with | .ptr 2 0, .ptr 4 0, some (.lit [.flat (.int .u64 x11), .flat (.int .u64 x12)]), some (.lit [.flat (.int .u64 x13), .flat (.int .u64 x14)]) => some (x11, x12, x13, x14) | _, _, _, _ => none) | _ => none
noncomputable def limb_Ten.l5.L (k : Nat) : LDen U := { X := (Int × Int × Int × Int × Int × Int), Y := (Int × Int × Int × Int), un := limb_Ten.l5.un, f := iter (limb_Ten.l5.once k) k, fin := limb_Ten.l5.fin, finK := limb_Ten.l5.finK, finK_eq := limb_Ten.l5.finK_eq }
noncomputable def limb_Ten.fl (k : Nat) : List (Nat × FDen U) := [(26, limb_Of.D k), (25, limb_Mul.D k), (29, limb_Short.D k)]
noncomputable def limb_Ten.ll (k : Nat) : List (Nat × LDen U) := [(5, limb_Ten.l5.L k)]
noncomputable def limb_Ten.E (k : Nat) : Env U := { P := Try.prog, D := DD, fd := lk (limb_Ten.fl k), ld := lk (limb_Ten.ll k), mode := lk [], results := Try.f28.results.toList }
theorem limb_Ten.ok (k : Nat) : EnvOk (limb_Ten.E k) := envOk lawful (limb_Ten.fl k) (limb_Ten.ll k) _ _ (by
  intro p hp
  simp only [limb_Ten.fl, List.mem_cons, List.not_mem_nil, or_false] at hp
  rcases hp with rfl | rfl | rfl
  · exact ⟨limb_Of.sound k, enter_of Try.func26 (by kernel_rfl) (by kernel_rfl)⟩
  · exact ⟨limb_Mul.sound k, enter_of Try.func25 (by kernel_rfl) (by kernel_rfl)⟩
  · exact ⟨limb_Short.sound k, enter_of Try.func29 (by kernel_rfl) (by kernel_rfl)⟩)
theorem limb_Ten.l5.eq (k : Nat) (x : (Int × Int × Int × Int × Int × Int)) : evC (limb_Ten.E k) (loopAt Try.f28 5) (limb_Ten.l5.mk x) (headK limb_Ten.l5.un limb_Ten.l5.re) = limb_Ten.l5.once k x := by kernel_rfl
theorem limb_Ten.l5.fit (s : St U) (x : (Int × Int × Int × Int × Int × Int)) (h : limb_Ten.l5.un s = some x) : Fits s (limb_Ten.l5.mk x) := by
  unfold limb_Ten.l5.un at h
  split at h
  · cases h
    exact fits_mk (by simp [limb_Ten.l5.mk, *]) (by simp [limb_Ten.l5.mk, *]) rfl
  · cases h
theorem limb_Ten.l5.fitO (o : Out U) (y : (Int × Int × Int × Int)) (h : limb_Ten.l5.re o = some y) : FitsO o (limb_Ten.l5.fin y) := by
  unfold limb_Ten.l5.re at h
  split at h
  · split at h
    · cases h
      exact fitsO_exit (fits_mk (by simp [*]) (by simp [*]) rfl)
    · cases h
  · cases h
theorem limb_Ten.l5.sound (k : Nat) : LSound (limb_Ten.E k) Try.f28.ntmps Try.f28 (loopAt Try.f28 5) (limb_Ten.l5.L k) :=
  loop_sound (limb_Ten.ok k) mixed rfl (by kernel_rfl) (allL_of (l := []) (by kernel_rfl) allL_nil) limb_Ten.l5.un limb_Ten.l5.mk limb_Ten.l5.fin limb_Ten.l5.re (limb_Ten.l5.once k) k limb_Ten.l5.fit limb_Ten.l5.fitO (limb_Ten.l5.eq k) limb_Ten.l5.finK limb_Ten.l5.finK_eq
theorem limb_Ten.eq (k : Nat) (x : Int) : runF (limb_Ten.E k) (codeOf Try.f28) (limb_Ten.mk x) limb_Ten.re = (limb_Ten.D k).f x := by kernel_rfl
theorem limb_Ten.sound (k : Nat) : Sound Try.prog DD 28 (limb_Ten.D k) :=
  fun_sound (E := limb_Ten.E k) (fn := Try.f28) (c := codeOf Try.f28) (limb_Ten.ok k) mixed rfl Try.func28 (by kernel_rfl) (by kernel_rfl) (allL_of (l := [loopAt Try.f28 5]) (by kernel_rfl) (allL_cons (key := 5) (by kernel_rfl) rfl (limb_Ten.l5.sound k) allL_nil)) (limb_Ten.D k) limb_Ten.mk limb_Ten.re
    (by intro args x h; replace h : limb_Ten.un args = some x := h; unfold limb_Ten.un at h; split at h; · cases h; rfl
        · cases h)
    (by intro v y h; unfold limb_Ten.re at h; split at h; · cases h; rfl
        · cases h)
    (fun _ => rfl) (fun x => Nat.le_of_ble_eq_true (by kernel_rfl)) (limb_Ten.eq k)
/-! ### pyx/pyxhand.Pick: function 21 -/
noncomputable def pyxhand_Pick.f (k : Nat) (a0 : Int) (a1 : Int) : Option Int := cond (a1 == 0) none (cond (decide ((Int.tmod a0 a1) < 0)) (some (IntKind.wrap .i64 ((Int.tmod a0 a1) + a1))) (some (Int.tmod a0 a1)))
noncomputable def pyxhand_Pick.un : List (AV U) → Option (Int × Int) | [.flat (.int .i64 x1), .flat (.int .i64 x2)] => some (x1, x2) | _ => none
noncomputable def pyxhand_Pick.mk (x : (Int × Int)) : List (AV U) := [.flat (.int .i64 x.1), .flat (.int .i64 x.2)]
noncomputable def pyxhand_Pick.D (k : Nat) : FDen U := { X := (Int × Int), Y := Int, un := pyxhand_Pick.un, f := fun x => pyxhand_Pick.f k (x.1) (x.2), fin := fun y => .flat (.int .i64 y) }
noncomputable def pyxhand_Pick.re : AV U → Option Int | .flat (.int .i64 x1) => some x1 | _ => none
noncomputable def pyxhand_Pick.fl (k : Nat) : List (Nat × FDen U) := []
noncomputable def pyxhand_Pick.ll (k : Nat) : List (Nat × LDen U) := []
noncomputable def pyxhand_Pick.E (k : Nat) : Env U := { P := Try.prog, D := DD, fd := lk (pyxhand_Pick.fl k), ld := lk (pyxhand_Pick.ll k), mode := lk [], results := Try.f21.results.toList }
theorem pyxhand_Pick.ok (k : Nat) : EnvOk (pyxhand_Pick.E k) := envOk lawful (pyxhand_Pick.fl k) (pyxhand_Pick.ll k) _ _ (by
  intro p hp
  simp [pyxhand_Pick.fl] at hp)
theorem pyxhand_Pick.eq (k : Nat) (x : (Int × Int)) : runF (pyxhand_Pick.E k) (codeOf Try.f21) (pyxhand_Pick.mk x) pyxhand_Pick.re = (pyxhand_Pick.D k).f x := by kernel_rfl
theorem pyxhand_Pick.sound (k : Nat) : Sound Try.prog DD 21 (pyxhand_Pick.D k) :=
  fun_sound (E := pyxhand_Pick.E k) (fn := Try.f21) (c := codeOf Try.f21) (pyxhand_Pick.ok k) mixed rfl Try.func21 (by kernel_rfl) (by kernel_rfl) (allL_of (l := []) (by kernel_rfl) allL_nil) (pyxhand_Pick.D k) pyxhand_Pick.mk pyxhand_Pick.re
    (by intro args x h; replace h : pyxhand_Pick.un args = some x := h; unfold pyxhand_Pick.un at h; split at h; · cases h; rfl
        · cases h)
    (by intro v y h; unfold pyxhand_Pick.re at h; split at h; · cases h; rfl
        · cases h)
    (fun _ => rfl) (fun x => Nat.le_of_ble_eq_true (by kernel_rfl)) (pyxhand_Pick.eq k)
/-! ### pyx/pyxlaw1.word: function 63 -/
noncomputable def pyxlaw1_word.f (k : Nat) (a0 : Int) (a1 : Int) : Option Int := (pyxhand_Pick.f k a1 5).bind fun t1 => (cond (t1 == 0) (some (Int.tmod a0 16)) (cond (t1 == 1) (some (IntKind.wrap .u64 (18446744073709551615 - (Int.tmod a0 16)))) (cond (t1 == 2) (cond (decide (Int.tmod a0 64 < 0)) none (some (IntKind.wrap .u64 (1 * 2 ^ (min (Int.toNat (Int.tmod a0 64)) 64))))) (some a0))))
noncomputable def pyxlaw1_word.un : List (AV U) → Option (Int × Int) | [.flat (.int .u64 x1), .flat (.int .i64 x2)] => some (x1, x2) | _ => none
noncomputable def pyxlaw1_word.mk (x : (Int × Int)) : List (AV U) := [.flat (.int .u64 x.1), .flat (.int .i64 x.2)]
noncomputable def pyxlaw1_word.D (k : Nat) : FDen U := { X := (Int × Int), Y := Int, un := pyxlaw1_word.un, f := fun x => pyxlaw1_word.f k (x.1) (x.2), fin := fun y => .flat (.int .u64 y) }
noncomputable def pyxlaw1_word.re : AV U → Option Int | .flat (.int .u64 x1) => some x1 | _ => none
noncomputable def pyxlaw1_word.fl (k : Nat) : List (Nat × FDen U) := [(21, pyxhand_Pick.D k)]
noncomputable def pyxlaw1_word.ll (k : Nat) : List (Nat × LDen U) := []
noncomputable def pyxlaw1_word.E (k : Nat) : Env U := { P := Try.prog, D := DD, fd := lk (pyxlaw1_word.fl k), ld := lk (pyxlaw1_word.ll k), mode := lk [], results := Try.f63.results.toList }
theorem pyxlaw1_word.ok (k : Nat) : EnvOk (pyxlaw1_word.E k) := envOk lawful (pyxlaw1_word.fl k) (pyxlaw1_word.ll k) _ _ (by
  intro p hp
  simp only [pyxlaw1_word.fl, List.mem_cons, List.not_mem_nil, or_false] at hp
  rcases hp with rfl
  · exact ⟨pyxhand_Pick.sound k, enter_of Try.func21 (by kernel_rfl) (by kernel_rfl)⟩)
theorem pyxlaw1_word.eq (k : Nat) (x : (Int × Int)) : runF (pyxlaw1_word.E k) (codeOf Try.f63) (pyxlaw1_word.mk x) pyxlaw1_word.re = (pyxlaw1_word.D k).f x := by kernel_rfl
theorem pyxlaw1_word.sound (k : Nat) : Sound Try.prog DD 63 (pyxlaw1_word.D k) :=
  fun_sound (E := pyxlaw1_word.E k) (fn := Try.f63) (c := codeOf Try.f63) (pyxlaw1_word.ok k) mixed rfl Try.func63 (by kernel_rfl) (by kernel_rfl) (allL_of (l := []) (by kernel_rfl) allL_nil) (pyxlaw1_word.D k) pyxlaw1_word.mk pyxlaw1_word.re
    (by intro args x h; replace h : pyxlaw1_word.un args = some x := h; unfold pyxlaw1_word.un at h; split at h; · cases h; rfl
        · cases h)
    (by intro v y h; unfold pyxlaw1_word.re at h; split at h; · cases h; rfl
        · cases h)
    (fun _ => rfl) (fun x => Nat.le_of_ble_eq_true (by kernel_rfl)) (pyxlaw1_word.eq k)
/-! ### pyx/pyxlaw1.words: function 15 -/
noncomputable def pyxlaw1_words.f (k : Nat) (a0 : Int) (a1 : Int) (a2 : Int) : Option (Int × Int) := (pyxlaw1_word.f k a0 a2).bind fun t1 => ((pyxlaw1_word.f k a1 (IntKind.wrap .i64 (Int.tdiv a2 5))).bind fun t2 => (some (t1, t2)))
noncomputable def pyxlaw1_words.un : List (AV U) → Option (Int × Int × Int) | [.flat (.int .u64 x1), .flat (.int .u64 x2), .flat (.int .i64 x3)] => some (x1, x2, x3) | _ => none
noncomputable def pyxlaw1_words.mk (x : (Int × Int × Int)) : List (AV U) := [.flat (.int .u64 x.1), .flat (.int .u64 x.2.1), .flat (.int .i64 x.2.2)]
noncomputable def pyxlaw1_words.D (k : Nat) : FDen U := { X := (Int × Int × Int), Y := (Int × Int), un := pyxlaw1_words.un, f := fun x => pyxlaw1_words.f k (x.1) (x.2.1) (x.2.2), fin := fun y => .agg [.flat (.int .u64 y.1), .flat (.int .u64 y.2)] }
noncomputable def pyxlaw1_words.re : AV U → Option (Int × Int) | .agg [.flat (.int .u64 x1), .flat (.int .u64 x2)] => some (x1, x2) | _ => none
noncomputable def pyxlaw1_words.fl (k : Nat) : List (Nat × FDen U) := [(63, pyxlaw1_word.D k)]
noncomputable def pyxlaw1_words.ll (k : Nat) : List (Nat × LDen U) := []
noncomputable def pyxlaw1_words.E (k : Nat) : Env U := { P := Try.prog, D := DD, fd := lk (pyxlaw1_words.fl k), ld := lk (pyxlaw1_words.ll k), mode := lk [], results := Try.f15.results.toList }
theorem pyxlaw1_words.ok (k : Nat) : EnvOk (pyxlaw1_words.E k) := envOk lawful (pyxlaw1_words.fl k) (pyxlaw1_words.ll k) _ _ (by
  intro p hp
  simp only [pyxlaw1_words.fl, List.mem_cons, List.not_mem_nil, or_false] at hp
  rcases hp with rfl
  · exact ⟨pyxlaw1_word.sound k, enter_of Try.func63 (by kernel_rfl) (by kernel_rfl)⟩)
theorem pyxlaw1_words.eq (k : Nat) (x : (Int × Int × Int)) : runF (pyxlaw1_words.E k) (codeOf Try.f15) (pyxlaw1_words.mk x) pyxlaw1_words.re = (pyxlaw1_words.D k).f x := by kernel_rfl
theorem pyxlaw1_words.sound (k : Nat) : Sound Try.prog DD 15 (pyxlaw1_words.D k) :=
  fun_sound (E := pyxlaw1_words.E k) (fn := Try.f15) (c := codeOf Try.f15) (pyxlaw1_words.ok k) mixed rfl Try.func15 (by kernel_rfl) (by kernel_rfl) (allL_of (l := []) (by kernel_rfl) allL_nil) (pyxlaw1_words.D k) pyxlaw1_words.mk pyxlaw1_words.re
    (by intro args x h; replace h : pyxlaw1_words.un args = some x := h; unfold pyxlaw1_words.un at h; split at h; · cases h; rfl
        · cases h)
    (by intro v y h; unfold pyxlaw1_words.re at h; split at h; · cases h; rfl
        · cases h)
    (fun _ => rfl) (fun x => Nat.le_of_ble_eq_true (by kernel_rfl)) (pyxlaw1_words.eq k)
/-! ### pyx/pyxlaw1.known: function 17 -/
noncomputable def pyxlaw1_known.f (k : Nat)  : Option Bool := (limb_Mul.f k (0, 1) (0, 1)).bind fun t1 => (cond ((t1.1 == 0) && ((t1.2.1 == 0) && ((t1.2.2.1 == 1) && (t1.2.2.2 == 0)))) ((limb_Of.f k 7).bind fun t2 => (some ((t2.1 == 7) && (t2.2 == 0)))) (some false))
noncomputable def pyxlaw1_known.un : List (AV U) → Option Unit | [] => some () | _ => none
noncomputable def pyxlaw1_known.mk (x : Unit) : List (AV U) := []
noncomputable def pyxlaw1_known.D (k : Nat) : FDen U := { X := Unit, Y := Bool, un := pyxlaw1_known.un, f := fun x => pyxlaw1_known.f k , fin := fun y => .flat (.bool y) }
noncomputable def pyxlaw1_known.re : AV U → Option Bool | .flat (.bool x1) => some x1 | _ => none
noncomputable def pyxlaw1_known.fl (k : Nat) : List (Nat × FDen U) := [(25, limb_Mul.D k), (26, limb_Of.D k)]
noncomputable def pyxlaw1_known.ll (k : Nat) : List (Nat × LDen U) := []
noncomputable def pyxlaw1_known.E (k : Nat) : Env U := { P := Try.prog, D := DD, fd := lk (pyxlaw1_known.fl k), ld := lk (pyxlaw1_known.ll k), mode := lk [], results := Try.f17.results.toList }
theorem pyxlaw1_known.ok (k : Nat) : EnvOk (pyxlaw1_known.E k) := envOk lawful (pyxlaw1_known.fl k) (pyxlaw1_known.ll k) _ _ (by
  intro p hp
  simp only [pyxlaw1_known.fl, List.mem_cons, List.not_mem_nil, or_false] at hp
  rcases hp with rfl | rfl
  · exact ⟨limb_Mul.sound k, enter_of Try.func25 (by kernel_rfl) (by kernel_rfl)⟩
  · exact ⟨limb_Of.sound k, enter_of Try.func26 (by kernel_rfl) (by kernel_rfl)⟩)
theorem pyxlaw1_known.eq (k : Nat) (x : Unit) : runF (pyxlaw1_known.E k) (codeOf Try.f17) (pyxlaw1_known.mk x) pyxlaw1_known.re = (pyxlaw1_known.D k).f x := by kernel_rfl
theorem pyxlaw1_known.sound (k : Nat) : Sound Try.prog DD 17 (pyxlaw1_known.D k) :=
  fun_sound (E := pyxlaw1_known.E k) (fn := Try.f17) (c := codeOf Try.f17) (pyxlaw1_known.ok k) mixed rfl Try.func17 (by kernel_rfl) (by kernel_rfl) (allL_of (l := []) (by kernel_rfl) allL_nil) (pyxlaw1_known.D k) pyxlaw1_known.mk pyxlaw1_known.re
    (by intro args x h; replace h : pyxlaw1_known.un args = some x := h; unfold pyxlaw1_known.un at h; split at h; · cases h; rfl
        · cases h)
    (by intro v y h; unfold pyxlaw1_known.re at h; split at h; · cases h; rfl
        · cases h)
    (fun _ => rfl) (fun x => Nat.le_of_ble_eq_true (by kernel_rfl)) (pyxlaw1_known.eq k)
/-! ### pyx/pyxlaw1.LimbAdds: function 3 -/
noncomputable def pyxlaw1_LimbAdds.f (k : Nat) (a0 : Int) (a1 : Int) (a2 : Int) (a3 : Int) (a4 : Int) (a5 : Int) : Option Bool := (pyxlaw1_words.f k a0 a1 a4).bind fun t1 => ((pyxlaw1_words.f k a2 a3 a5).bind fun t2 => ((limb_Add.f k (t1.1, t1.2) (t2.1, t2.2)).bind fun t3 => ((limb_Add.f k (t2.1, t2.2) (t1.1, t1.2)).bind fun t4 => ((pyxlaw1_known.f k).bind fun t5 => (cond (!t5) (some false) (cond (!(t3.2 == t4.2)) (some false) (cond (!((t3.1.1 == t4.1.1) && (t3.1.2 == t4.1.2))) (some false) (cond (t3.2) ((limb_Sub.f k (t3.1.1, t3.1.2) (t2.1, t2.2)).bind fun t6 => (cond (!t6.2) (some false) (cond (!((t6.1.1 == t1.1) && (t6.1.2 == t1.2))) (some false) ((limb_Cmp.f k (t3.1.1, t3.1.2) (t1.1, t1.2)).bind fun t7 => (cond (decide (t7 < 0)) (some false) ((limb_Sub.f k (t1.1, t1.2) (t2.1, t2.2)).bind fun t8 => ((limb_Cmp.f k (t1.1, t1.2) (t2.1, t2.2)).bind fun t9 => (cond (t8.2 == (decide (t9 ≥ 0))) ((limb_Cmp.f k (t1.1, t1.2) (t2.1, t2.2)).bind fun t10 => ((limb_Cmp.f k (t2.1, t2.2) (t1.1, t1.2)).bind fun t11 => (cond (t10 == (IntKind.wrap .i64 (0 - t11))) ((limb_Cmp.f k (t1.1, t1.2) (t2.1, t2.2)).bind fun t12 => (some ((t12 == 0) == ((t1.1 == t2.1) && (t1.2 == t2.2))))) (some false)))) (some false))))))))) ((limb_Sub.f k (t1.1, t1.2) (t2.1, t2.2)).bind fun t13 => ((limb_Cmp.f k (t1.1, t1.2) (t2.1, t2.2)).bind fun t14 => (cond (t13.2 == (decide (t14 ≥ 0))) ((limb_Cmp.f k (t1.1, t1.2) (t2.1, t2.2)).bind fun t15 => ((limb_Cmp.f k (t2.1, t2.2) (t1.1, t1.2)).bind fun t16 => (cond (t15 == (IntKind.wrap .i64 (0 - t16))) ((limb_Cmp.f k (t1.1, t1.2) (t2.1, t2.2)).bind fun t17 => (some ((t17 == 0) == ((t1.1 == t2.1) && (t1.2 == t2.2))))) (some false)))) (some false))))))))))))
noncomputable def pyxlaw1_LimbAdds.un : List (AV U) → Option (Int × Int × Int × Int × Int × Int) | [.flat (.int .u64 x1), .flat (.int .u64 x2), .flat (.int .u64 x3), .flat (.int .u64 x4), .flat (.int .i64 x5), .flat (.int .i64 x6)] => some (x1, x2, x3, x4, x5, x6) | _ => none
noncomputable def pyxlaw1_LimbAdds.mk (x : (Int × Int × Int × Int × Int × Int)) : List (AV U) := [.flat (.int .u64 x.1), .flat (.int .u64 x.2.1), .flat (.int .u64 x.2.2.1), .flat (.int .u64 x.2.2.2.1), .flat (.int .i64 x.2.2.2.2.1), .flat (.int .i64 x.2.2.2.2.2)]
noncomputable def pyxlaw1_LimbAdds.D (k : Nat) : FDen U := { X := (Int × Int × Int × Int × Int × Int), Y := Bool, un := pyxlaw1_LimbAdds.un, f := fun x => pyxlaw1_LimbAdds.f k (x.1) (x.2.1) (x.2.2.1) (x.2.2.2.1) (x.2.2.2.2.1) (x.2.2.2.2.2), fin := fun y => .flat (.bool y) }
noncomputable def pyxlaw1_LimbAdds.re : AV U → Option Bool | .flat (.bool x1) => some x1 | _ => none
noncomputable def pyxlaw1_LimbAdds.fl (k : Nat) : List (Nat × FDen U) := [(15, pyxlaw1_words.D k), (16, limb_Add.D k), (17, pyxlaw1_known.D k), (18, limb_Sub.D k), (19, limb_Cmp.D k)]
noncomputable def pyxlaw1_LimbAdds.ll (k : Nat) : List (Nat × LDen U) := []
noncomputable def pyxlaw1_LimbAdds.E (k : Nat) : Env U := { P := Try.prog, D := DD, fd := lk (pyxlaw1_LimbAdds.fl k), ld := lk (pyxlaw1_LimbAdds.ll k), mode := lk [], results := Try.f3.results.toList }
theorem pyxlaw1_LimbAdds.ok (k : Nat) : EnvOk (pyxlaw1_LimbAdds.E k) := envOk lawful (pyxlaw1_LimbAdds.fl k) (pyxlaw1_LimbAdds.ll k) _ _ (by
  intro p hp
  simp only [pyxlaw1_LimbAdds.fl, List.mem_cons, List.not_mem_nil, or_false] at hp
  rcases hp with rfl | rfl | rfl | rfl | rfl
  · exact ⟨pyxlaw1_words.sound k, enter_of Try.func15 (by kernel_rfl) (by kernel_rfl)⟩
  · exact ⟨limb_Add.sound k, enter_of Try.func16 (by kernel_rfl) (by kernel_rfl)⟩
  · exact ⟨pyxlaw1_known.sound k, enter_of Try.func17 (by kernel_rfl) (by kernel_rfl)⟩
  · exact ⟨limb_Sub.sound k, enter_of Try.func18 (by kernel_rfl) (by kernel_rfl)⟩
  · exact ⟨limb_Cmp.sound k, enter_of Try.func19 (by kernel_rfl) (by kernel_rfl)⟩)
theorem pyxlaw1_LimbAdds.eq (k : Nat) (x : (Int × Int × Int × Int × Int × Int)) : runF (pyxlaw1_LimbAdds.E k) (codeOf Try.f3) (pyxlaw1_LimbAdds.mk x) pyxlaw1_LimbAdds.re = (pyxlaw1_LimbAdds.D k).f x := by kernel_rfl
theorem pyxlaw1_LimbAdds.sound (k : Nat) : Sound Try.prog DD 3 (pyxlaw1_LimbAdds.D k) :=
  fun_sound (E := pyxlaw1_LimbAdds.E k) (fn := Try.f3) (c := codeOf Try.f3) (pyxlaw1_LimbAdds.ok k) mixed rfl Try.func3 (by kernel_rfl) (by kernel_rfl) (allL_of (l := []) (by kernel_rfl) allL_nil) (pyxlaw1_LimbAdds.D k) pyxlaw1_LimbAdds.mk pyxlaw1_LimbAdds.re
    (by intro args x h; replace h : pyxlaw1_LimbAdds.un args = some x := h; unfold pyxlaw1_LimbAdds.un at h; split at h; · cases h; rfl
        · cases h)
    (by intro v y h; unfold pyxlaw1_LimbAdds.re at h; split at h; · cases h; rfl
        · cases h)
    (fun _ => rfl) (fun x => Nat.le_of_ble_eq_true (by kernel_rfl)) (pyxlaw1_LimbAdds.eq k)
/-! ### pyx/pyxlaw1.LimbShifts: function 4 -/
noncomputable def pyxlaw1_LimbShifts.f (k : Nat) (a0 : Int) (a1 : Int) (a2 : Int) (a3 : Int) : Option Bool := (pyxlaw1_words.f k a0 a1 a2).bind fun t1 => ((limb_Wide.f k (t1.1, t1.2)).bind fun t2 => ((pyxhand_Pick.f k a3 129).bind fun t3 => ((limb_Left.f k (t2.1, t2.2.1, t2.2.2.1, t2.2.2.2) t3).bind fun t4 => ((limb_Right.f k (t4.1, t4.2.1, t4.2.2.1, t4.2.2.2) t3).bind fun t5 => (cond (!((t5.1 == t2.1) && ((t5.2.1 == t2.2.1) && ((t5.2.2.1 == t2.2.2.1) && (t5.2.2.2 == t2.2.2.2))))) (some false) (cond (!((t1.1 == 0) && (t1.2 == 0))) ((limb_Bits.f k (t4.1, t4.2.1, t4.2.2.1, t4.2.2.2)).bind fun t6 => ((limb_Bits.f k (t2.1, t2.2.1, t2.2.2.1, t2.2.2.2)).bind fun t7 => (cond (t6 != (IntKind.wrap .i64 (t7 + t3))) (some false) ((limb_Of.f k 2).bind fun t8 => ((limb_Mul.f k (t1.1, t1.2) (t8.1, t8.2)).bind fun t9 => ((limb_Of.f k 1).bind fun t10 => ((limb_Wide.f k (t10.1, t10.2)).bind fun t11 => ((limb_Bits.f k (t2.1, t2.2.1, t2.2.2.1, t2.2.2.2)).bind fun t12 => ((limb_Left.f k (t11.1, t11.2.1, t11.2.2.1, t11.2.2.2) t12).bind fun t13 => ((pyxlaw1_known.f k).bind fun t14 => (cond (t14) ((limb_Left.f k (t2.1, t2.2.1, t2.2.2.1, t2.2.2.2) 1).bind fun t15 => (cond ((t15.1 == t9.1) && ((t15.2.1 == t9.2.1) && ((t15.2.2.1 == t9.2.2.1) && (t15.2.2.2 == t9.2.2.2)))) ((limb_Left.f k (t2.1, t2.2.1, t2.2.2.1, t2.2.2.2) t3).bind fun t16 => ((limb_Left.f k (t16.1, t16.2.1, t16.2.2.1, t16.2.2.2) 3).bind fun t17 => ((limb_Left.f k (t2.1, t2.2.1, t2.2.2.1, t2.2.2.2) (IntKind.wrap .i64 (t3 + 3))).bind fun t18 => (cond ((t17.1 == t18.1) && ((t17.2.1 == t18.2.1) && ((t17.2.2.1 == t18.2.2.1) && (t17.2.2.2 == t18.2.2.2)))) ((limb_Bits.f k (t2.1, t2.2.1, t2.2.2.1, t2.2.2.2)).bind fun t19 => (cond (t19 == 0) (cond ((t2.1 == 0) && ((t2.2.1 == 0) && ((t2.2.2.1 == 0) && (t2.2.2.2 == 0)))) ((limb_Bits.f k (t13.1, t13.2.1, t13.2.2.1, t13.2.2.2)).bind fun t20 => ((limb_Bits.f k (t2.1, t2.2.1, t2.2.2.1, t2.2.2.2)).bind fun t21 => (some (t20 == (IntKind.wrap .i64 (t21 + 1)))))) ((limb_Bits.f k (t2.1, t2.2.1, t2.2.2.1, t2.2.2.2)).bind fun t22 => ((limb_Right.f k (t2.1, t2.2.1, t2.2.2.1, t2.2.2.2) t22).bind fun t23 => (cond ((t23.1 == 0) && ((t23.2.1 == 0) && ((t23.2.2.1 == 0) && (t23.2.2.2 == 0)))) ((limb_Bits.f k (t2.1, t2.2.1, t2.2.2.1, t2.2.2.2)).bind fun t24 => ((limb_Right.f k (t2.1, t2.2.1, t2.2.2.1, t2.2.2.2) (IntKind.wrap .i64 (t24 - 1))).bind fun t25 => (cond ((t25.1 == 1) && ((t25.2.1 == 0) && ((t25.2.2.1 == 0) && (t25.2.2.2 == 0)))) ((limb_Bits.f k (t13.1, t13.2.1, t13.2.2.1, t13.2.2.2)).bind fun t26 => ((limb_Bits.f k (t2.1, t2.2.1, t2.2.2.1, t2.2.2.2)).bind fun t27 => (some (t26 == (IntKind.wrap .i64 (t27 + 1)))))) (some false)))) (some false))))) ((limb_Bits.f k (t2.1, t2.2.1, t2.2.2.1, t2.2.2.2)).bind fun t28 => ((limb_Right.f k (t2.1, t2.2.1, t2.2.2.1, t2.2.2.2) t28).bind fun t29 => (cond ((t29.1 == 0) && ((t29.2.1 == 0) && ((t29.2.2.1 == 0) && (t29.2.2.2 == 0)))) ((limb_Bits.f k (t2.1, t2.2.1, t2.2.2.1, t2.2.2.2)).bind fun t30 => ((limb_Right.f k (t2.1, t2.2.1, t2.2.2.1, t2.2.2.2) (IntKind.wrap .i64 (t30 - 1))).bind fun t31 => (cond ((t31.1 == 1) && ((t31.2.1 == 0) && ((t31.2.2.1 == 0) && (t31.2.2.2 == 0)))) ((limb_Bits.f k (t13.1, t13.2.1, t13.2.2.1, t13.2.2.2)).bind fun t32 => ((limb_Bits.f k (t2.1, t2.2.1, t2.2.2.1, t2.2.2.2)).bind fun t33 => (some (t32 == (IntKind.wrap .i64 (t33 + 1)))))) (some false)))) (some false)))))) (some false))))) (some false))) (some false)))))))))))) ((limb_Of.f k 2).bind fun t34 => ((limb_Mul.f k (t1.1, t1.2) (t34.1, t34.2)).bind fun t35 => ((limb_Of.f k 1).bind fun t36 => ((limb_Wide.f k (t36.1, t36.2)).bind fun t37 => ((limb_Bits.f k (t2.1, t2.2.1, t2.2.2.1, t2.2.2.2)).bind fun t38 => ((limb_Left.f k (t37.1, t37.2.1, t37.2.2.1, t37.2.2.2) t38).bind fun t39 => ((pyxlaw1_known.f k).bind fun t40 => (cond (t40) ((limb_Left.f k (t2.1, t2.2.1, t2.2.2.1, t2.2.2.2) 1).bind fun t41 => (cond ((t41.1 == t35.1) && ((t41.2.1 == t35.2.1) && ((t41.2.2.1 == t35.2.2.1) && (t41.2.2.2 == t35.2.2.2)))) ((limb_Left.f k (t2.1, t2.2.1, t2.2.2.1, t2.2.2.2) t3).bind fun t42 => ((limb_Left.f k (t42.1, t42.2.1, t42.2.2.1, t42.2.2.2) 3).bind fun t43 => ((limb_Left.f k (t2.1, t2.2.1, t2.2.2.1, t2.2.2.2) (IntKind.wrap .i64 (t3 + 3))).bind fun t44 => (cond ((t43.1 == t44.1) && ((t43.2.1 == t44.2.1) && ((t43.2.2.1 == t44.2.2.1) && (t43.2.2.2 == t44.2.2.2)))) ((limb_Bits.f k (t2.1, t2.2.1, t2.2.2.1, t2.2.2.2)).bind fun t45 => (cond (t45 == 0) (cond ((t2.1 == 0) && ((t2.2.1 == 0) && ((t2.2.2.1 == 0) && (t2.2.2.2 == 0)))) ((limb_Bits.f k (t39.1, t39.2.1, t39.2.2.1, t39.2.2.2)).bind fun t46 => ((limb_Bits.f k (t2.1, t2.2.1, t2.2.2.1, t2.2.2.2)).bind fun t47 => (some (t46 == (IntKind.wrap .i64 (t47 + 1)))))) ((limb_Bits.f k (t2.1, t2.2.1, t2.2.2.1, t2.2.2.2)).bind fun t48 => ((limb_Right.f k (t2.1, t2.2.1, t2.2.2.1, t2.2.2.2) t48).bind fun t49 => (cond ((t49.1 == 0) && ((t49.2.1 == 0) && ((t49.2.2.1 == 0) && (t49.2.2.2 == 0)))) ((limb_Bits.f k (t2.1, t2.2.1, t2.2.2.1, t2.2.2.2)).bind fun t50 => ((limb_Right.f k (t2.1, t2.2.1, t2.2.2.1, t2.2.2.2) (IntKind.wrap .i64 (t50 - 1))).bind fun t51 => (cond ((t51.1 == 1) && ((t51.2.1 == 0) && ((t51.2.2.1 == 0) && (t51.2.2.2 == 0)))) ((limb_Bits.f k (t39.1, t39.2.1, t39.2.2.1, t39.2.2.2)).bind fun t52 => ((limb_Bits.f k (t2.1, t2.2.1, t2.2.2.1, t2.2.2.2)).bind fun t53 => (some (t52 == (IntKind.wrap .i64 (t53 + 1)))))) (some false)))) (some false))))) ((limb_Bits.f k (t2.1, t2.2.1, t2.2.2.1, t2.2.2.2)).bind fun t54 => ((limb_Right.f k (t2.1, t2.2.1, t2.2.2.1, t2.2.2.2) t54).bind fun t55 => (cond ((t55.1 == 0) && ((t55.2.1 == 0) && ((t55.2.2.1 == 0) && (t55.2.2.2 == 0)))) ((limb_Bits.f k (t2.1, t2.2.1, t2.2.2.1, t2.2.2.2)).bind fun t56 => ((limb_Right.f k (t2.1, t2.2.1, t2.2.2.1, t2.2.2.2) (IntKind.wrap .i64 (t56 - 1))).bind fun t57 => (cond ((t57.1 == 1) && ((t57.2.1 == 0) && ((t57.2.2.1 == 0) && (t57.2.2.2 == 0)))) ((limb_Bits.f k (t39.1, t39.2.1, t39.2.2.1, t39.2.2.2)).bind fun t58 => ((limb_Bits.f k (t2.1, t2.2.1, t2.2.2.1, t2.2.2.2)).bind fun t59 => (some (t58 == (IntKind.wrap .i64 (t59 + 1)))))) (some false)))) (some false)))))) (some false))))) (some false))) (some false)))))))))))))))
noncomputable def pyxlaw1_LimbShifts.un : List (AV U) → Option (Int × Int × Int × Int) | [.flat (.int .u64 x1), .flat (.int .u64 x2), .flat (.int .i64 x3), .flat (.int .i64 x4)] => some (x1, x2, x3, x4) | _ => none
noncomputable def pyxlaw1_LimbShifts.mk (x : (Int × Int × Int × Int)) : List (AV U) := [.flat (.int .u64 x.1), .flat (.int .u64 x.2.1), .flat (.int .i64 x.2.2.1), .flat (.int .i64 x.2.2.2)]
noncomputable def pyxlaw1_LimbShifts.D (k : Nat) : FDen U := { X := (Int × Int × Int × Int), Y := Bool, un := pyxlaw1_LimbShifts.un, f := fun x => pyxlaw1_LimbShifts.f k (x.1) (x.2.1) (x.2.2.1) (x.2.2.2), fin := fun y => .flat (.bool y) }
noncomputable def pyxlaw1_LimbShifts.re : AV U → Option Bool | .flat (.bool x1) => some x1 | _ => none
noncomputable def pyxlaw1_LimbShifts.fl (k : Nat) : List (Nat × FDen U) := [(15, pyxlaw1_words.D k), (20, limb_Wide.D k), (21, pyxhand_Pick.D k), (22, limb_Left.D k), (23, limb_Right.D k), (24, limb_Bits.D k), (26, limb_Of.D k), (25, limb_Mul.D k), (17, pyxlaw1_known.D k)]
noncomputable def pyxlaw1_LimbShifts.ll (k : Nat) : List (Nat × LDen U) := []
noncomputable def pyxlaw1_LimbShifts.E (k : Nat) : Env U := { P := Try.prog, D := DD, fd := lk (pyxlaw1_LimbShifts.fl k), ld := lk (pyxlaw1_LimbShifts.ll k), mode := lk [], results := Try.f4.results.toList }
theorem pyxlaw1_LimbShifts.ok (k : Nat) : EnvOk (pyxlaw1_LimbShifts.E k) := envOk lawful (pyxlaw1_LimbShifts.fl k) (pyxlaw1_LimbShifts.ll k) _ _ (by
  intro p hp
  simp only [pyxlaw1_LimbShifts.fl, List.mem_cons, List.not_mem_nil, or_false] at hp
  rcases hp with rfl | rfl | rfl | rfl | rfl | rfl | rfl | rfl | rfl
  · exact ⟨pyxlaw1_words.sound k, enter_of Try.func15 (by kernel_rfl) (by kernel_rfl)⟩
  · exact ⟨limb_Wide.sound k, enter_of Try.func20 (by kernel_rfl) (by kernel_rfl)⟩
  · exact ⟨pyxhand_Pick.sound k, enter_of Try.func21 (by kernel_rfl) (by kernel_rfl)⟩
  · exact ⟨limb_Left.sound k, enter_of Try.func22 (by kernel_rfl) (by kernel_rfl)⟩
  · exact ⟨limb_Right.sound k, enter_of Try.func23 (by kernel_rfl) (by kernel_rfl)⟩
  · exact ⟨limb_Bits.sound k, enter_of Try.func24 (by kernel_rfl) (by kernel_rfl)⟩
  · exact ⟨limb_Of.sound k, enter_of Try.func26 (by kernel_rfl) (by kernel_rfl)⟩
  · exact ⟨limb_Mul.sound k, enter_of Try.func25 (by kernel_rfl) (by kernel_rfl)⟩
  · exact ⟨pyxlaw1_known.sound k, enter_of Try.func17 (by kernel_rfl) (by kernel_rfl)⟩)
theorem pyxlaw1_LimbShifts.eq (k : Nat) (x : (Int × Int × Int × Int)) : runF (pyxlaw1_LimbShifts.E k) (codeOf Try.f4) (pyxlaw1_LimbShifts.mk x) pyxlaw1_LimbShifts.re = (pyxlaw1_LimbShifts.D k).f x := by kernel_rfl
theorem pyxlaw1_LimbShifts.sound (k : Nat) : Sound Try.prog DD 4 (pyxlaw1_LimbShifts.D k) :=
  fun_sound (E := pyxlaw1_LimbShifts.E k) (fn := Try.f4) (c := codeOf Try.f4) (pyxlaw1_LimbShifts.ok k) mixed rfl Try.func4 (by kernel_rfl) (by kernel_rfl) (allL_of (l := []) (by kernel_rfl) allL_nil) (pyxlaw1_LimbShifts.D k) pyxlaw1_LimbShifts.mk pyxlaw1_LimbShifts.re
    (by intro args x h; replace h : pyxlaw1_LimbShifts.un args = some x := h; unfold pyxlaw1_LimbShifts.un at h; split at h; · cases h; rfl
        · cases h)
    (by intro v y h; unfold pyxlaw1_LimbShifts.re at h; split at h; · cases h; rfl
        · cases h)
    (fun _ => rfl) (fun x => Nat.le_of_ble_eq_true (by kernel_rfl)) (pyxlaw1_LimbShifts.eq k)
/-! ### pyx/pyxlaw1.LimbDivides: function 5 -/
noncomputable def pyxlaw1_LimbDivides.f (k : Nat) (a0 : Int) (a1 : Int) (a2 : Int) (a3 : Int) (a4 : Int) (a5 : Int) : Option Bool := (pyxlaw1_words.f k a0 a1 a4).bind fun t1 => ((pyxlaw1_words.f k a2 a3 a5).bind fun t2 => (cond ((t2.1 == 0) && (t2.2 == 0)) ((limb_Of.f k 3).bind fun t3 => ((pyxlaw1_words.f k a3 a0 (IntKind.wrap .i64 (Int.tdiv a4 3))).bind fun t4 => ((limb_Mul.f k (t1.1, t1.2) (t4.1, t4.2)).bind fun t5 => ((limb_Div.f k (t5.1, t5.2.1, t5.2.2.1, t5.2.2.2) (t3.1, t3.2)).bind fun t6 => ((pyxlaw1_known.f k).bind fun t7 => (cond (!t7) (some false) (cond (!t6.2.2) (some false) ((limb_Cmp.f k (t6.2.1.1, t6.2.1.2) (t3.1, t3.2)).bind fun t8 => (cond (decide (t8 ≥ 0)) (some false) ((limb_Mul.f k (t6.1.1, t6.1.2.1) (t3.1, t3.2)).bind fun t9 => ((limb_Mul.f k (t6.1.2.2.1, t6.1.2.2.2) (t3.1, t3.2)).bind fun t10 => (cond (t10.2.2.1 != 0) (some false) (cond (t10.2.2.2 != 0) (some false) ((limb_Add.f k (t9.1, t9.2.1) (t6.2.1.1, t6.2.1.2)).bind fun t11 => (cond (!t11.2) (cond (decide ((IntKind.wrap .u64 (t9.1 + t6.2.1.1)) < t6.2.1.1)) ((limb_Of.f k 1).bind fun t12 => ((limb_Add.f k (t9.2.2.1, t9.2.2.2) (t12.1, t12.2)).bind fun t13 => ((limb_Add.f k (t13.1.1, t13.1.2) (t10.1, t10.2.1)).bind fun t14 => (cond (t14.2) (cond (((IntKind.wrap .u64 (t9.1 + t6.2.1.1)) == t5.1) && ((IntKind.wrap .u64 ((IntKind.wrap .u64 (t9.2.1 + t6.2.1.2)) + 1)) == t5.2.1)) (some ((t14.1.1 == t5.2.2.1) && (t14.1.2 == t5.2.2.2))) (some false)) (some false))))) ((limb_Of.f k 1).bind fun t15 => ((limb_Add.f k (t9.2.2.1, t9.2.2.2) (t15.1, t15.2)).bind fun t16 => ((limb_Add.f k (t16.1.1, t16.1.2) (t10.1, t10.2.1)).bind fun t17 => (cond (t17.2) (cond (((IntKind.wrap .u64 (t9.1 + t6.2.1.1)) == t5.1) && ((IntKind.wrap .u64 (t9.2.1 + t6.2.1.2)) == t5.2.1)) (some ((t17.1.1 == t5.2.2.1) && (t17.1.2 == t5.2.2.2))) (some false)) (some false)))))) ((limb_Add.f k (t9.2.2.1, t9.2.2.2) (t10.1, t10.2.1)).bind fun t18 => (cond (t18.2) (cond ((t11.1.1 == t5.1) && (t11.1.2 == t5.2.1)) (some ((t18.1.1 == t5.2.2.1) && (t18.1.2 == t5.2.2.2))) (some false)) (some false)))))))))))))))))) ((pyxlaw1_words.f k a3 a0 (IntKind.wrap .i64 (Int.tdiv a4 3))).bind fun t19 => ((limb_Mul.f k (t1.1, t1.2) (t19.1, t19.2)).bind fun t20 => ((limb_Div.f k (t20.1, t20.2.1, t20.2.2.1, t20.2.2.2) (t2.1, t2.2)).bind fun t21 => ((pyxlaw1_known.f k).bind fun t22 => (cond (!t22) (some false) (cond (!t21.2.2) (some false) ((limb_Cmp.f k (t21.2.1.1, t21.2.1.2) (t2.1, t2.2)).bind fun t23 => (cond (decide (t23 ≥ 0)) (some false) ((limb_Mul.f k (t21.1.1, t21.1.2.1) (t2.1, t2.2)).bind fun t24 => ((limb_Mul.f k (t21.1.2.2.1, t21.1.2.2.2) (t2.1, t2.2)).bind fun t25 => (cond (t25.2.2.1 != 0) (some false) (cond (t25.2.2.2 != 0) (some false) ((limb_Add.f k (t24.1, t24.2.1) (t21.2.1.1, t21.2.1.2)).bind fun t26 => (cond (!t26.2) (cond (decide ((IntKind.wrap .u64 (t24.1 + t21.2.1.1)) < t21.2.1.1)) ((limb_Of.f k 1).bind fun t27 => ((limb_Add.f k (t24.2.2.1, t24.2.2.2) (t27.1, t27.2)).bind fun t28 => ((limb_Add.f k (t28.1.1, t28.1.2) (t25.1, t25.2.1)).bind fun t29 => (cond (t29.2) (cond (((IntKind.wrap .u64 (t24.1 + t21.2.1.1)) == t20.1) && ((IntKind.wrap .u64 ((IntKind.wrap .u64 (t24.2.1 + t21.2.1.2)) + 1)) == t20.2.1)) (some ((t29.1.1 == t20.2.2.1) && (t29.1.2 == t20.2.2.2))) (some false)) (some false))))) ((limb_Of.f k 1).bind fun t30 => ((limb_Add.f k (t24.2.2.1, t24.2.2.2) (t30.1, t30.2)).bind fun t31 => ((limb_Add.f k (t31.1.1, t31.1.2) (t25.1, t25.2.1)).bind fun t32 => (cond (t32.2) (cond (((IntKind.wrap .u64 (t24.1 + t21.2.1.1)) == t20.1) && ((IntKind.wrap .u64 (t24.2.1 + t21.2.1.2)) == t20.2.1)) (some ((t32.1.1 == t20.2.2.1) && (t32.1.2 == t20.2.2.2))) (some false)) (some false)))))) ((limb_Add.f k (t24.2.2.1, t24.2.2.2) (t25.1, t25.2.1)).bind fun t33 => (cond (t33.2) (cond ((t26.1.1 == t20.1) && (t26.1.2 == t20.2.1)) (some ((t33.1.1 == t20.2.2.1) && (t33.1.2 == t20.2.2.2))) (some false)) (some false)))))))))))))))))))
noncomputable def pyxlaw1_LimbDivides.un : List (AV U) → Option (Int × Int × Int × Int × Int × Int) | [.flat (.int .u64 x1), .flat (.int .u64 x2), .flat (.int .u64 x3), .flat (.int .u64 x4), .flat (.int .i64 x5), .flat (.int .i64 x6)] => some (x1, x2, x3, x4, x5, x6) | _ => none
noncomputable def pyxlaw1_LimbDivides.mk (x : (Int × Int × Int × Int × Int × Int)) : List (AV U) := [.flat (.int .u64 x.1), .flat (.int .u64 x.2.1), .flat (.int .u64 x.2.2.1), .flat (.int .u64 x.2.2.2.1), .flat (.int .i64 x.2.2.2.2.1), .flat (.int .i64 x.2.2.2.2.2)]
noncomputable def pyxlaw1_LimbDivides.D (k : Nat) : FDen U := { X := (Int × Int × Int × Int × Int × Int), Y := Bool, un := pyxlaw1_LimbDivides.un, f := fun x => pyxlaw1_LimbDivides.f k (x.1) (x.2.1) (x.2.2.1) (x.2.2.2.1) (x.2.2.2.2.1) (x.2.2.2.2.2), fin := fun y => .flat (.bool y) }
noncomputable def pyxlaw1_LimbDivides.re : AV U → Option Bool | .flat (.bool x1) => some x1 | _ => none
noncomputable def pyxlaw1_LimbDivides.fl (k : Nat) : List (Nat × FDen U) := [(15, pyxlaw1_words.D k), (26, limb_Of.D k), (25, limb_Mul.D k), (27, limb_Div.D k), (17, pyxlaw1_known.D k), (19, limb_Cmp.D k), (16, limb_Add.D k)]
noncomputable def pyxlaw1_LimbDivides.ll (k : Nat) : List (Nat × LDen U) := []
noncomputable def pyxlaw1_LimbDivides.E (k : Nat) : Env U := { P := Try.prog, D := DD, fd := lk (pyxlaw1_LimbDivides.fl k), ld := lk (pyxlaw1_LimbDivides.ll k), mode := lk [], results := Try.f5.results.toList }
theorem pyxlaw1_LimbDivides.ok (k : Nat) : EnvOk (pyxlaw1_LimbDivides.E k) := envOk lawful (pyxlaw1_LimbDivides.fl k) (pyxlaw1_LimbDivides.ll k) _ _ (by
  intro p hp
  simp only [pyxlaw1_LimbDivides.fl, List.mem_cons, List.not_mem_nil, or_false] at hp
  rcases hp with rfl | rfl | rfl | rfl | rfl | rfl | rfl
  · exact ⟨pyxlaw1_words.sound k, enter_of Try.func15 (by kernel_rfl) (by kernel_rfl)⟩
  · exact ⟨limb_Of.sound k, enter_of Try.func26 (by kernel_rfl) (by kernel_rfl)⟩
  · exact ⟨limb_Mul.sound k, enter_of Try.func25 (by kernel_rfl) (by kernel_rfl)⟩
  · exact ⟨limb_Div.sound k, enter_of Try.func27 (by kernel_rfl) (by kernel_rfl)⟩
  · exact ⟨pyxlaw1_known.sound k, enter_of Try.func17 (by kernel_rfl) (by kernel_rfl)⟩
  · exact ⟨limb_Cmp.sound k, enter_of Try.func19 (by kernel_rfl) (by kernel_rfl)⟩
  · exact ⟨limb_Add.sound k, enter_of Try.func16 (by kernel_rfl) (by kernel_rfl)⟩)
theorem pyxlaw1_LimbDivides.eq (k : Nat) (x : (Int × Int × Int × Int × Int × Int)) : runF (pyxlaw1_LimbDivides.E k) (codeOf Try.f5) (pyxlaw1_LimbDivides.mk x) pyxlaw1_LimbDivides.re = (pyxlaw1_LimbDivides.D k).f x := by kernel_rfl
theorem pyxlaw1_LimbDivides.sound (k : Nat) : Sound Try.prog DD 5 (pyxlaw1_LimbDivides.D k) :=
  fun_sound (E := pyxlaw1_LimbDivides.E k) (fn := Try.f5) (c := codeOf Try.f5) (pyxlaw1_LimbDivides.ok k) mixed rfl Try.func5 (by kernel_rfl) (by kernel_rfl) (allL_of (l := []) (by kernel_rfl) allL_nil) (pyxlaw1_LimbDivides.D k) pyxlaw1_LimbDivides.mk pyxlaw1_LimbDivides.re
    (by intro args x h; replace h : pyxlaw1_LimbDivides.un args = some x := h; unfold pyxlaw1_LimbDivides.un at h; split at h; · cases h; rfl
        · cases h)
    (by intro v y h; unfold pyxlaw1_LimbDivides.re at h; split at h; · cases h; rfl
        · cases h)
    (fun _ => rfl) (fun x => Nat.le_of_ble_eq_true (by kernel_rfl)) (pyxlaw1_LimbDivides.eq k)
/-! ### pyx/pyxlaw1.LimbTens: function 6 -/
noncomputable def pyxlaw1_LimbTens.f (k : Nat) (a0 : Int) (a1 : Int) (a2 : Int) : Option Bool := (pyxhand_Pick.f k a0 20).bind fun t1 => ((pyxhand_Pick.f k a1 19).bind fun t2 => ((limb_Ten.f k t1).bind fun t3 => ((limb_Ten.f k t2).bind fun t4 => ((limb_Ten.f k (IntKind.wrap .i64 (t1 + t2))).bind fun t5 => ((limb_Ten.f k (IntKind.wrap .i64 (t1 + 1))).bind fun t6 => ((pyxlaw1_known.f k).bind fun t7 => (cond (!t7) (some false) (cond (!t3.2) (some false) (cond (!t4.2) (some false) (cond (!t5.2) (some false) (cond (!t6.2) (some false) ((limb_Mul.f k (t3.1.1, t3.1.2) (t4.1.1, t4.1.2)).bind fun t8 => ((limb_Wide.f k (t5.1.1, t5.1.2)).bind fun t9 => (cond (!((t8.1 == t9.1) && ((t8.2.1 == t9.2.1) && ((t8.2.2.1 == t9.2.2.1) && (t8.2.2.2 == t9.2.2.2))))) (some false) ((limb_Of.f k 10).bind fun t10 => ((limb_Mul.f k (t3.1.1, t3.1.2) (t10.1, t10.2)).bind fun t11 => ((limb_Wide.f k (t6.1.1, t6.1.2)).bind fun t12 => (cond (!((t11.1 == t12.1) && ((t11.2.1 == t12.2.1) && ((t11.2.2.1 == t12.2.2.1) && (t11.2.2.2 == t12.2.2.2))))) (some false) ((limb_Of.f k a2).bind fun t13 => ((limb_Mul.f k (t13.1, t13.2) (t3.1.1, t3.1.2)).bind fun t14 => ((limb_Div.f k (t14.1, t14.2.1, t14.2.2.1, t14.2.2.2) (t3.1.1, t3.1.2)).bind fun t15 => (cond (t15.2.2) ((limb_Of.f k a2).bind fun t16 => ((limb_Wide.f k (t16.1, t16.2)).bind fun t17 => (cond ((t15.1.1 == t17.1) && ((t15.1.2.1 == t17.2.1) && ((t15.1.2.2.1 == t17.2.2.1) && (t15.1.2.2.2 == t17.2.2.2)))) (some ((t15.2.1.1 == 0) && (t15.2.1.2 == 0))) (some false)))) (some false)))))))))))))))))))))))
noncomputable def pyxlaw1_LimbTens.un : List (AV U) → Option (Int × Int × Int) | [.flat (.int .i64 x1), .flat (.int .i64 x2), .flat (.int .u64 x3)] => some (x1, x2, x3) | _ => none
noncomputable def pyxlaw1_LimbTens.mk (x : (Int × Int × Int)) : List (AV U) := [.flat (.int .i64 x.1), .flat (.int .i64 x.2.1), .flat (.int .u64 x.2.2)]
noncomputable def pyxlaw1_LimbTens.D (k : Nat) : FDen U := { X := (Int × Int × Int), Y := Bool, un := pyxlaw1_LimbTens.un, f := fun x => pyxlaw1_LimbTens.f k (x.1) (x.2.1) (x.2.2), fin := fun y => .flat (.bool y) }
noncomputable def pyxlaw1_LimbTens.re : AV U → Option Bool | .flat (.bool x1) => some x1 | _ => none
noncomputable def pyxlaw1_LimbTens.fl (k : Nat) : List (Nat × FDen U) := [(21, pyxhand_Pick.D k), (28, limb_Ten.D k), (17, pyxlaw1_known.D k), (25, limb_Mul.D k), (20, limb_Wide.D k), (26, limb_Of.D k), (27, limb_Div.D k)]
noncomputable def pyxlaw1_LimbTens.ll (k : Nat) : List (Nat × LDen U) := []
noncomputable def pyxlaw1_LimbTens.E (k : Nat) : Env U := { P := Try.prog, D := DD, fd := lk (pyxlaw1_LimbTens.fl k), ld := lk (pyxlaw1_LimbTens.ll k), mode := lk [], results := Try.f6.results.toList }
theorem pyxlaw1_LimbTens.ok (k : Nat) : EnvOk (pyxlaw1_LimbTens.E k) := envOk lawful (pyxlaw1_LimbTens.fl k) (pyxlaw1_LimbTens.ll k) _ _ (by
  intro p hp
  simp only [pyxlaw1_LimbTens.fl, List.mem_cons, List.not_mem_nil, or_false] at hp
  rcases hp with rfl | rfl | rfl | rfl | rfl | rfl | rfl
  · exact ⟨pyxhand_Pick.sound k, enter_of Try.func21 (by kernel_rfl) (by kernel_rfl)⟩
  · exact ⟨limb_Ten.sound k, enter_of Try.func28 (by kernel_rfl) (by kernel_rfl)⟩
  · exact ⟨pyxlaw1_known.sound k, enter_of Try.func17 (by kernel_rfl) (by kernel_rfl)⟩
  · exact ⟨limb_Mul.sound k, enter_of Try.func25 (by kernel_rfl) (by kernel_rfl)⟩
  · exact ⟨limb_Wide.sound k, enter_of Try.func20 (by kernel_rfl) (by kernel_rfl)⟩
  · exact ⟨limb_Of.sound k, enter_of Try.func26 (by kernel_rfl) (by kernel_rfl)⟩
  · exact ⟨limb_Div.sound k, enter_of Try.func27 (by kernel_rfl) (by kernel_rfl)⟩)
theorem pyxlaw1_LimbTens.eq (k : Nat) (x : (Int × Int × Int)) : runF (pyxlaw1_LimbTens.E k) (codeOf Try.f6) (pyxlaw1_LimbTens.mk x) pyxlaw1_LimbTens.re = (pyxlaw1_LimbTens.D k).f x := by kernel_rfl
theorem pyxlaw1_LimbTens.sound (k : Nat) : Sound Try.prog DD 6 (pyxlaw1_LimbTens.D k) :=
  fun_sound (E := pyxlaw1_LimbTens.E k) (fn := Try.f6) (c := codeOf Try.f6) (pyxlaw1_LimbTens.ok k) mixed rfl Try.func6 (by kernel_rfl) (by kernel_rfl) (allL_of (l := []) (by kernel_rfl) allL_nil) (pyxlaw1_LimbTens.D k) pyxlaw1_LimbTens.mk pyxlaw1_LimbTens.re
    (by intro args x h; replace h : pyxlaw1_LimbTens.un args = some x := h; unfold pyxlaw1_LimbTens.un at h; split at h; · cases h; rfl
        · cases h)
    (by intro v y h; unfold pyxlaw1_LimbTens.re at h; split at h; · cases h; rfl
        · cases h)
    (fun _ => rfl) (fun x => Nat.le_of_ble_eq_true (by kernel_rfl)) (pyxlaw1_LimbTens.eq k)
/-! ### pyx/pyxlaw1.LimbKnown: function 7 -/
noncomputable def pyxlaw1_LimbKnown.f (k : Nat)  : Option Bool := (limb_Of.f k 1).bind fun t1 => ((limb_Add.f k (18446744073709551615, 1) (t1.1, t1.2)).bind fun t2 => ((limb_Of.f k 1).bind fun t3 => ((limb_Add.f k (18446744073709551615, 18446744073709551615) (t3.1, t3.2)).bind fun t4 => ((limb_Of.f k 1).bind fun t5 => ((limb_Sub.f k (0, 1) (t5.1, t5.2)).bind fun t6 => ((limb_Of.f k 1).bind fun t7 => ((limb_Of.f k 2).bind fun t8 => ((limb_Sub.f k (t7.1, t7.2) (t8.1, t8.2)).bind fun t9 => ((limb_Div.f k (1, 0, 1, 0) (0, 1)).bind fun t10 => ((limb_Div.f k (1, 0, 0, 0) (0, 0)).bind fun t11 => ((limb_Ten.f k 20).bind fun t12 => ((limb_Ten.f k 39).bind fun t13 => ((limb_Short.f k (1, 2, 3, 0)).bind fun t14 => ((pyxlaw1_known.f k).bind fun t15 => (cond (t15) (cond (t2.2) (cond ((t2.1.1 == 0) && (t2.1.2 == 2)) (cond (!t4.2) (cond (t6.2) (cond ((t6.1.1 == 18446744073709551615) && (t6.1.2 == 0)) (cond (!t9.2) (cond (t10.2.2) (cond ((t10.1.1 == 0) && ((t10.1.2.1 == 1) && ((t10.1.2.2.1 == 0) && (t10.1.2.2.2 == 0)))) (cond ((t10.2.1.1 == 1) && (t10.2.1.2 == 0)) (cond (!t11.2.2) (cond (t12.2) (cond ((t12.1.1 == 7766279631452241920) && (t12.1.2 == 5)) (cond (!t13.2) (cond (!t14.2) (cond ((t14.1.1 == 0) && (t14.1.2 == 0)) ((limb_Left.f k (3, 0, 0, 0) 255).bind fun t16 => (cond ((t16.1 == 0) && ((t16.2.1 == 0) && ((t16.2.2.1 == 0) && (t16.2.2.2 == 9223372036854775808)))) ((limb_Left.f k (3, 0, 0, 0) 256).bind fun t17 => (cond ((t17.1 == 0) && ((t17.2.1 == 0) && ((t17.2.2.1 == 0) && (t17.2.2.2 == 0)))) ((limb_Right.f k (0, 0, 0, 9223372036854775808) 255).bind fun t18 => (cond ((t18.1 == 1) && ((t18.2.1 == 0) && ((t18.2.2.1 == 0) && (t18.2.2.2 == 0)))) ((limb_Right.f k (5, 9, 0, 0) (-3)).bind fun t19 => (cond ((t19.1 == 5) && ((t19.2.1 == 9) && ((t19.2.2.1 == 0) && (t19.2.2.2 == 0)))) ((limb_Bits.f k (0, 0, 0, 0)).bind fun t20 => (cond (t20 == 0) ((limb_Bits.f k (0, 1, 0, 0)).bind fun t21 => (cond (t21 == 65) ((limb_Of.f k 2).bind fun t22 => ((limb_Cmp.f k (t22.1, t22.2) (0, 1)).bind fun t23 => (cond (t23 == (-1)) ((limb_Of.f k 2).bind fun t24 => ((limb_Of.f k 2).bind fun t25 => ((limb_Cmp.f k (t24.1, t24.2) (t25.1, t25.2)).bind fun t26 => (cond (t26 == 0) ((limb_Wide.f k (4, 5)).bind fun t27 => (some ((t27.1 == 4) && ((t27.2.1 == 5) && ((t27.2.2.1 == 0) && (t27.2.2.2 == 0)))))) (some false))))) (some false)))) (some false))) (some false))) (some false))) (some false))) (some false))) (some false))) (some false)) (some false)) (some false)) (some false)) (some false)) (some false)) (some false)) (some false)) (some false)) (some false)) (some false)) (some false)) (some false)) (some false)) (some false)) (some false))))))))))))))))
noncomputable def pyxlaw1_LimbKnown.un : List (AV U) → Option Unit | [] => some () | _ => none
noncomputable def pyxlaw1_LimbKnown.mk (x : Unit) : List (AV U) := []
noncomputable def pyxlaw1_LimbKnown.D (k : Nat) : FDen U := { X := Unit, Y := Bool, un := pyxlaw1_LimbKnown.un, f := fun x => pyxlaw1_LimbKnown.f k , fin := fun y => .flat (.bool y) }
noncomputable def pyxlaw1_LimbKnown.re : AV U → Option Bool | .flat (.bool x1) => some x1 | _ => none
noncomputable def pyxlaw1_LimbKnown.fl (k : Nat) : List (Nat × FDen U) := [(26, limb_Of.D k), (16, limb_Add.D k), (18, limb_Sub.D k), (27, limb_Div.D k), (28, limb_Ten.D k), (29, limb_Short.D k), (17, pyxlaw1_known.D k), (22, limb_Left.D k), (23, limb_Right.D k), (24, limb_Bits.D k), (19, limb_Cmp.D k), (20, limb_Wide.D k)]
noncomputable def pyxlaw1_LimbKnown.ll (k : Nat) : List (Nat × LDen U) := []
noncomputable def pyxlaw1_LimbKnown.E (k : Nat) : Env U := { P := Try.prog, D := DD, fd := lk (pyxlaw1_LimbKnown.fl k), ld := lk (pyxlaw1_LimbKnown.ll k), mode := lk [], results := Try.f7.results.toList }
theorem pyxlaw1_LimbKnown.ok (k : Nat) : EnvOk (pyxlaw1_LimbKnown.E k) := envOk lawful (pyxlaw1_LimbKnown.fl k) (pyxlaw1_LimbKnown.ll k) _ _ (by
  intro p hp
  simp only [pyxlaw1_LimbKnown.fl, List.mem_cons, List.not_mem_nil, or_false] at hp
  rcases hp with rfl | rfl | rfl | rfl | rfl | rfl | rfl | rfl | rfl | rfl | rfl | rfl
  · exact ⟨limb_Of.sound k, enter_of Try.func26 (by kernel_rfl) (by kernel_rfl)⟩
  · exact ⟨limb_Add.sound k, enter_of Try.func16 (by kernel_rfl) (by kernel_rfl)⟩
  · exact ⟨limb_Sub.sound k, enter_of Try.func18 (by kernel_rfl) (by kernel_rfl)⟩
  · exact ⟨limb_Div.sound k, enter_of Try.func27 (by kernel_rfl) (by kernel_rfl)⟩
  · exact ⟨limb_Ten.sound k, enter_of Try.func28 (by kernel_rfl) (by kernel_rfl)⟩
  · exact ⟨limb_Short.sound k, enter_of Try.func29 (by kernel_rfl) (by kernel_rfl)⟩
  · exact ⟨pyxlaw1_known.sound k, enter_of Try.func17 (by kernel_rfl) (by kernel_rfl)⟩
  · exact ⟨limb_Left.sound k, enter_of Try.func22 (by kernel_rfl) (by kernel_rfl)⟩
  · exact ⟨limb_Right.sound k, enter_of Try.func23 (by kernel_rfl) (by kernel_rfl)⟩
  · exact ⟨limb_Bits.sound k, enter_of Try.func24 (by kernel_rfl) (by kernel_rfl)⟩
  · exact ⟨limb_Cmp.sound k, enter_of Try.func19 (by kernel_rfl) (by kernel_rfl)⟩
  · exact ⟨limb_Wide.sound k, enter_of Try.func20 (by kernel_rfl) (by kernel_rfl)⟩)
theorem pyxlaw1_LimbKnown.eq (k : Nat) (x : Unit) : runF (pyxlaw1_LimbKnown.E k) (codeOf Try.f7) (pyxlaw1_LimbKnown.mk x) pyxlaw1_LimbKnown.re = (pyxlaw1_LimbKnown.D k).f x := by kernel_rfl
theorem pyxlaw1_LimbKnown.sound (k : Nat) : Sound Try.prog DD 7 (pyxlaw1_LimbKnown.D k) :=
  fun_sound (E := pyxlaw1_LimbKnown.E k) (fn := Try.f7) (c := codeOf Try.f7) (pyxlaw1_LimbKnown.ok k) mixed rfl Try.func7 (by kernel_rfl) (by kernel_rfl) (allL_of (l := []) (by kernel_rfl) allL_nil) (pyxlaw1_LimbKnown.D k) pyxlaw1_LimbKnown.mk pyxlaw1_LimbKnown.re
    (by intro args x h; replace h : pyxlaw1_LimbKnown.un args = some x := h; unfold pyxlaw1_LimbKnown.un at h; split at h; · cases h; rfl
        · cases h)
    (by intro v y h; unfold pyxlaw1_LimbKnown.re at h; split at h; · cases h; rfl
        · cases h)
    (fun _ => rfl) (fun x => Nat.le_of_ble_eq_true (by kernel_rfl)) (pyxlaw1_LimbKnown.eq k)
end
end Go.Proofs.Ythknecaigoilmaa
