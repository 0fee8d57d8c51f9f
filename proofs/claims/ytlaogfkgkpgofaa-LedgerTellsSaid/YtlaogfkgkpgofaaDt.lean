/- Small calls on numbers of words, powers of ten, the raw words of chapter 1's laws. No conditions but that each word is below 2^64. -/
import Derived.Test.YtlaogfkgkpgofaaDm
namespace Go.Proofs.Ytlaogfkgkpgofaa.Pure
set_option linter.unusedVariables false
set_option linter.unusedSimpArgs false
open Go Go.Ev Go.Lm Go.Pu

theorem Pick_eq (k : Nat) (n : Int) {m : Int} (h0 : 0 < m) (h1 : m ≤ 4611686018427387904) : pyxhand_Pick.f k n m = some (pick n m) := by
  unfold pyxhand_Pick.f pick
  rw [show (m == 0) = false by simp; omega, cond_false]
  have h2 : -m < Int.tmod n m := Int.lt_tmod_of_pos n h0
  by_cases h : Int.tmod n m < 0
  · rw [ct h, if_pos h, wrapi (by omega)]
  · rw [cf h, if_neg h]
theorem Wd0 : Wd 0 := ⟨by decide, by decide⟩
theorem W2_of {n : Int} (h : Wd n) : W2 (n, 0) := ⟨h, Wd0⟩
theorem W20 : W2 (0, 0) := ⟨Wd0, Wd0⟩
theorem N2_of (n : Int) : N2 (n, 0) = n := by unfold N2; dsimp only; omega
theorem Of_eq (k : Nat) (n : Int) : limb_Of.f k n = some (n, 0) := rfl
theorem W4_wide {x : Int × Int} (h : W2 x) : W4 (x.1, x.2, 0, 0) := ⟨h.1, h.2, Wd0, Wd0⟩
theorem N4_wide (x : Int × Int) : N4 (x.1, x.2, 0, 0) = N2 x := by unfold N4 N2; dsimp only; omega
theorem N4_bd {x : Int × Int × Int × Int} (h : W4 x) : 0 ≤ N4 x ∧ N4 x < 115792089237316195423570985008687907853269984665640564039457584007913129639936 := by
  obtain ⟨a, b, c, d⟩ := x
  obtain ⟨⟨_, _⟩, ⟨_, _⟩, ⟨_, _⟩, _, _⟩ := h
  unfold N4
  dsimp only at *
  omega
theorem Short_eq (k : Nat) {x : Int × Int × Int × Int} (h : W4 x) : ∃ z b, limb_Short.f k x = some (z, b) ∧ W2 z ∧ (b = true ↔ N4 x < 340282366920938463463374607431768211456) ∧ (b = true → N2 z = N4 x) ∧ (b = false → z = (0, 0)) := by
  obtain ⟨a, b, c, d⟩ := x
  obtain ⟨⟨h1, h2⟩, ⟨h3, h4⟩, ⟨h5, h6⟩, h7, h8⟩ := h
  dsimp only at *
  unfold limb_Short.f N4
  dsimp only
  by_cases hc : c = 0
  · subst hc
    rw [bne_self_eq_false, cond_false, Option.bind_some]
    dsimp only
    by_cases hd : d = 0
    · subst hd
      rw [bne_self_eq_false, cond_false]
      exact ⟨_, _, rfl, ⟨⟨h1, h2⟩, h3, h4⟩, ⟨fun _ => (by omega), fun _ => rfl⟩, fun _ => (by unfold N2; dsimp only; omega), fun h => (by cases h)⟩
    · rw [show (d != 0) = true by simp [hd], cond_true]
      exact ⟨_, _, rfl, W20, ⟨fun h => (by cases h), fun h => (by omega)⟩, fun h => (by cases h), fun _ => rfl⟩
  · rw [show (c != 0) = true by simp [hc], cond_true, Option.bind_some]
    exact ⟨_, _, rfl, W20, ⟨fun h => (by cases h), fun h => (by omega)⟩, fun h => (by cases h), fun _ => rfl⟩

theorem ten_lt {i : Nat} (h : i ≤ 38) : (10 : Int) ^ i < 340282366920938463463374607431768211456 := by
  have : ∀ i : Fin 39, (10 : Int) ^ i.val < 340282366920938463463374607431768211456 := by decide +kernel
  exact this ⟨i, by omega⟩
/-- A power of ten. -/
theorem Ten_eq {k : Nat} (hk : 60 < k) {i : Nat} (hi : i ≤ 38) : ∃ x, limb_Ten.f k (i : Int) = some (x, true) ∧ W2 x ∧ N2 x = 10 ^ i := by
  unfold limb_Ten.f
  rw [cf (by omega), decide_eq_false (by omega), Option.bind_some]
  dsimp only
  rw [cond_false, Of_eq, Option.bind_some]
  obtain ⟨y, h1, h2⟩ := iter_rule (once := limb_Ten.l5.once k) (fun s => ∃ (j : Nat) (x : Int × Int), s = ((i : Int), (j : Int), 0, 0, x.1, x.2) ∧ j ≤ i ∧ W2 x ∧ N2 x = 10 ^ j) (fun s => i - s.2.1.toNat)
    (fun r => ∃ x : Int × Int, r = (0, 0, x.1, x.2) ∧ W2 x ∧ N2 x = 10 ^ i) (by
    rintro _ ⟨j, x, rfl, hj, hx, hN⟩
    unfold limb_Ten.l5.once
    dsimp only
    by_cases hlt : j < i
    · left
      rw [ct (by omega), Of_eq, Option.bind_some]
      obtain ⟨z, g1, g2, g3⟩ := Mul_eq (k := k) (by omega) hx (W2_of (n := 10) ⟨by decide, by decide⟩)
      rw [N2_of, hN] at g3
      have e1 : limb_Mul.f k (x.1, x.2) (10, 0) = some z := g1
      rw [e1, Option.bind_some]
      obtain ⟨u, b, g4, g5, g6, g7, g8⟩ := Short_eq k g2
      have e2 : limb_Short.f k (z.1, z.2.1, z.2.2.1, z.2.2.2) = some (u, b) := g4
      rw [e2, Option.bind_some]
      have hb : b = true := g6.2 (by rw [g3, ← Int.pow_succ]; exact ten_lt (by omega))
      subst hb
      refine ⟨_, rfl, ⟨j + 1, u, ?_, by omega, g5, by rw [g7 rfl, g3, Int.pow_succ]⟩, ?_⟩
      · simp only [wrapi (show -9223372036854775808 ≤ (j : Int) + 1 ∧ (j : Int) + 1 < 9223372036854775808 by omega)]
        rfl
      · simp only [wrapi (show -9223372036854775808 ≤ (j : Int) + 1 ∧ (j : Int) + 1 < 9223372036854775808 by omega)]
        omega
    · right
      rw [cf (by omega)]
      have : j = i := by omega
      subst this
      exact ⟨_, rfl, x, rfl, hx, hN⟩) k ((i : Int), 0, 0, 0, 1, 0) ⟨0, (1, 0), rfl, by omega, W2_of ⟨by decide, by decide⟩, by rw [N2_of]; rfl⟩ (by dsimp only; omega)
  obtain ⟨x, rfl, h3, h4⟩ := h2
  rw [h1, Option.bind_some]
  exact ⟨x, rfl, h3, h4⟩
theorem Ten_none (k : Nat) {i : Int} (h : i < 0 ∨ 38 < i) : limb_Ten.f k i = some ((0, 0), false) := by
  unfold limb_Ten.f
  by_cases h0 : i < 0
  · rw [ct h0]; rfl
  · rw [cf h0, decide_eq_true (by omega)]; rfl
end Go.Proofs.Ytlaogfkgkpgofaa.Pure
