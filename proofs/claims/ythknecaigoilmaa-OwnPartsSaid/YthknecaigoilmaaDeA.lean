/- What sums on small numbers with places after the point compute. No conditions but size. -/
import Derived.Test.YthknecaigoilmaaPureLimbTells
namespace Go.Proofs.Ythknecaigoilmaa.Pure
set_option linter.unusedVariables false
set_option linter.unusedSimpArgs false
open Go Go.Ev Go.Lm Go.Pu Go.Dg
/-- The number n at s places. -/
def DN (n s : Nat) : Sapi_Dec := ⟨false, ((n : Int), 0), (s : Int)⟩
theorem W2n {n : Nat} (h : n < 18446744073709551616) : W2 ((n : Int), 0) := W2_of ⟨by omega, by omega⟩
theorem N2n (n : Nat) : N2 ((n : Int), 0) = (n : Int) := N2_of _
theorem to2 {z : Int × Int} (h : W2 z) {n : Nat} (hn : N2 z = (n : Int)) (hb : n < 18446744073709551616) : z = ((n : Int), 0) := N2_inj h (W2n hb) (by rw [hn, N2n])
theorem to4 {z : Int × Int × Int × Int} (h : W4 z) {n : Nat} (hn : N4 z = (n : Int)) (hb : n < 18446744073709551616) : z = ((n : Int), 0, 0, 0) := N4_inj h (W4_wide (W2n hb)) (by rw [hn, show N4 ((n : Int), 0, 0, 0) = N2 ((n : Int), 0) from N4_wide ((n : Int), 0), N2n])
theorem small_eq {x : Int × Int} (hx : W2 x) : dec_small.f 700 x = some (decide (N2 x < 1000000000000000000000000000000)) := by
  unfold dec_small.f dec_ten.f
  obtain ⟨t, t1, t2, t3⟩ := Ten_eq (k := 700) (by decide) (i := 30) (by decide)
  have t1' : limb_Ten.f 700 30 = some (t, true) := t1
  rw [t1', Option.bind_some, Option.bind_some]
  have e : limb_Cmp.f 700 (x.1, x.2) (t.1, t.2) = _ := Cmp_eq 697 hx t2
  rw [e, Option.bind_some, t3, show (10 : Int) ^ 30 = 1000000000000000000000000000000 by decide]
  refine congrArg some ?_
  by_cases h : N2 x < 1000000000000000000000000000000
  · rw [if_pos h, decide_eq_true h]; rfl
  · rw [if_neg h, decide_eq_false h]; split <;> rfl
theorem Right_DN {n s : Nat} (hn : n < 18446744073709551616) (hs : s ≤ 9) : dec_Right.f 700 (DN n s) = some true := by
  unfold dec_Right.f DN
  dsimp only
  rw [small_eq (W2n hn), Option.bind_some, N2n, decide_eq_true (by omega), cond_true, ct (by omega), ct (by omega), cond_false]
theorem Sign_DN {n s : Nat} (hn : n < 18446744073709551616) (hs : s ≤ 9) : dec_Sign.f 700 (DN n s) = some (if n = 0 then 0 else 1) := by
  unfold dec_Sign.f
  have h := Right_DN hn hs
  unfold DN at *
  dsimp only
  rw [h, Option.bind_some, Bool.not_true, cond_false]
  unfold dec_nought.f
  rw [Option.bind_some, Option.bind_some]
  dsimp only
  by_cases h0 : n = 0
  · subst h0; rfl
  · rw [show ((n : Int) == 0) = false by simp [h0], Bool.false_and, cond_false, cond_false, if_neg h0]
theorem DOf_eq {n : Nat} (hn : n < 9223372036854775808) {s : Nat} (hs : s ≤ 9) : dec_Of.f 700 (n : Int) (s : Int) = some (DN n s) := by
  unfold dec_Of.f DN
  rw [cf (by omega), Option.bind_some]
  dsimp only
  rw [wrapu (by omega), Of_eq, Option.bind_some, decide_eq_false (by omega)]
  have e : (if (if (9 : Int) < (s : Int) then 9 else (s : Int)) > 0 then (if (9 : Int) < (s : Int) then 9 else (s : Int)) else 0) = (s : Int) := by
    rw [if_neg (show ¬ (9 : Int) < (s : Int) by omega)]; split <;> omega
  rw [e]
theorem ROf_eq {n : Nat} (hn : n < 9223372036854775808) {s : Nat} (hs : s ≤ 9) : pyxref1_Of.f 700 (n : Int) (s : Int) = some (DN n s) := by
  unfold pyxref1_Of.f
  rw [cf (by omega), Option.bind_some]
  dsimp only
  rw [wrapu (by omega), Word_eq (by decide) (by omega), Option.bind_some, decide_eq_false (by omega)]
  have e : pyxref1_Within.f 700 (s : Int) 0 9 = some (s : Int) := by
    unfold pyxref1_Within.f
    refine congrArg some ?_
    split <;> split <;> omega
  rw [e, Option.bind_some]
  have hl := dig_len (n := n) (m := 30) (by omega)
  obtain ⟨z, b, z1, z2, z3, z4, z5⟩ := Words2_eq (k := 700) (by decide) (n := n) (by omega)
  obtain rfl : b = true := z3.2 (by omega)
  have := to2 z2 (z4 rfl) (by omega)
  subst this
  unfold pyxref1_Make.f
  rw [cf (by omega), cf (by omega), Option.bind_some]
  dsimp only
  rw [decide_eq_false (by omega), cond_false, z1, Option.bind_some]
  rfl
theorem DShort {n : Nat} (hn : n < 18446744073709551616) : limb_Short.f 700 ((n : Int), 0, 0, 0) = some (((n : Int), 0), true) := by
  have hw : W4 ((n : Int), 0, 0, 0) := W4_wide (W2n hn)
  have hN : N4 ((n : Int), 0, 0, 0) = (n : Int) := (N4_wide ((n : Int), 0)).trans (N2n n)
  obtain ⟨t, b, t1, t2, t3, t4, t5⟩ := Short_eq 700 hw
  obtain rfl : b = true := t3.2 (by omega)
  rw [t1, to2 t2 ((t4 rfl).trans hN) hn]
theorem DMul {m n : Nat} (h : m * n < 18446744073709551616) (hm : m < 18446744073709551616) (hn : n < 18446744073709551616) : limb_Mul.f 700 ((m : Int), 0) ((n : Int), 0) = some (((m * n : Nat) : Int), 0, 0, 0) := by
  obtain ⟨z, z1, z2, z3⟩ := Mul_eq (k := 700) (by decide) (W2n hm) (W2n hn)
  rw [N2n, N2n, ← Int.natCast_mul] at z3
  rw [z1, to4 z2 z3 h]
theorem DTen {i : Nat} (hi : i ≤ 19) : limb_Ten.f 700 (i : Int) = some ((((10 ^ i : Nat) : Int), 0), true) := by
  obtain ⟨t, t1, t2, t3⟩ := Ten_eq (k := 700) (by decide) (i := i) (by omega)
  have := Nat.pow_le_pow_right (show 0 < 10 by decide) hi
  rw [t1, to2 t2 (n := 10 ^ i) (by rw [t3]; simp) (by omega)]
theorem dmade {n s : Nat} (hn : n < 18446744073709551616) : dec_made.f 700 false ((n : Int), 0, 0, 0) (s : Int) = some (DN n s, 0) := by
  unfold dec_made.f
  dsimp only
  rw [DShort hn, Option.bind_some, Bool.not_true, cond_false, small_eq (W2n hn), Option.bind_some, N2n, decide_eq_true (by omega), Option.bind_some]
  rfl
theorem dwide {n s t : Nat} (ht : t - s ≤ 19) (hst : s ≤ t) (ht9 : t ≤ 100) (hn : n < 18446744073709551616) (h : n * 10 ^ (t - s) < 18446744073709551616) : dec_wide.f 700 (DN n s) (t : Int) = some (((n * 10 ^ (t - s) : Nat) : Int), 0, 0, 0) := by
  unfold dec_wide.f dec_ten.f DN
  dsimp only
  have hp := Nat.pow_le_pow_right (show 0 < 10 by decide) ht
  rw [wrapi (by omega), show (t : Int) - (s : Int) = ((t - s : Nat) : Int) by omega, DTen ht, Option.bind_some, Option.bind_some]
  dsimp only
  rw [DMul h hn (by omega), Option.bind_some]
theorem DScaled {n s t : Nat} (hst : s ≤ t) (ht9 : t ≤ 9) (hn : n < 18446744073709551616) (h : n * 10 ^ (t - s) < 18446744073709551616) : dec_Scaled.f 700 (DN n s) (t : Int) = some (DN (n * 10 ^ (t - s)) t, 0) := by
  unfold dec_Scaled.f
  have h1 := Right_DN hn (show s ≤ 9 by omega)
  have h2 := dwide (t := t) (by omega) hst (by omega) hn h
  have h3 := dmade (s := t) h
  unfold DN at *
  dsimp only
  rw [h1, Option.bind_some, Bool.not_true, cond_false, cf (by omega), Option.bind_some]
  dsimp only
  rw [decide_eq_false (by omega), cond_false, h2, Option.bind_some]
  dsimp only
  rw [h3, Option.bind_some]
theorem dcmp_step (k : Nat) {a0 a1 a2 a3 b0 b1 b2 b3 : Int} {i : Nat} (hi : i < 4) : dec_cmp.l2.once k ((i : Int), [a0, a1, a2, a3], [b0, b1, b2, b3]) = cond ([a0, a1, a2, a3].getD i 0 != [b0, b1, b2, b3].getD i 0) (cond (decide ([a0, a1, a2, a3].getD i 0 < [b0, b1, b2, b3].getD i 0)) (some (.inr (.inr (-1)))) (some (.inr (.inr 1)))) (some (.inl ((i : Int) - 1, [a0, a1, a2, a3], [b0, b1, b2, b3]))) := by
  unfold dec_cmp.l2.once
  dsimp only
  rw [ct (by omega), inb_t (by omega) (by omega), cond_true, Int.toNat_natCast, blt_t hi, cond_true, cond_true, cond_true, cond_true, cond_true, cond_true, cond_true, wrapi (by omega)]
theorem dcmp_eq {m n : Nat} (hm : m < 18446744073709551616) (hn : n < 18446744073709551616) : dec_cmp.f 700 ((m : Int), 0, 0, 0) ((n : Int), 0, 0, 0) = some (if m < n then -1 else if m = n then 0 else 1) := by
  unfold dec_cmp.f
  dsimp only
  have s3 : dec_cmp.l2.once 700 (3, [(m : Int), 0, 0, 0], [(n : Int), 0, 0, 0]) = some (.inl (((3 : Nat) : Int) - 1, [(m : Int), 0, 0, 0], [(n : Int), 0, 0, 0])) := dcmp_step 700 (i := 3) (by decide)
  have s2 : dec_cmp.l2.once 700 (((3 : Nat) : Int) - 1, [(m : Int), 0, 0, 0], [(n : Int), 0, 0, 0]) = some (.inl (((2 : Nat) : Int) - 1, [(m : Int), 0, 0, 0], [(n : Int), 0, 0, 0])) := dcmp_step 700 (i := 2) (by decide)
  have s1 : dec_cmp.l2.once 700 (((2 : Nat) : Int) - 1, [(m : Int), 0, 0, 0], [(n : Int), 0, 0, 0]) = some (.inl (((1 : Nat) : Int) - 1, [(m : Int), 0, 0, 0], [(n : Int), 0, 0, 0])) := dcmp_step 700 (i := 1) (by decide)
  have s0 : dec_cmp.l2.once 700 (((1 : Nat) : Int) - 1, [(m : Int), 0, 0, 0], [(n : Int), 0, 0, 0]) = cond ((m : Int) != (n : Int)) (cond (decide ((m : Int) < (n : Int))) (some (.inr (.inr (-1)))) (some (.inr (.inr 1)))) (some (.inl (((0 : Nat) : Int) - 1, [(m : Int), 0, 0, 0], [(n : Int), 0, 0, 0]))) := dcmp_step 700 (i := 0) (by decide)
  have s : dec_cmp.l2.once 700 (((0 : Nat) : Int) - 1, [(m : Int), 0, 0, 0], [(n : Int), 0, 0, 0]) = some (.inr (.inl ())) := by unfold dec_cmp.l2.once; rfl
  rw [show (700 : Nat) = 699 + 1 from rfl, iter_step s3, show (699 : Nat) = 698 + 1 from rfl, iter_step s2, show (698 : Nat) = 697 + 1 from rfl, iter_step s1]
  by_cases h : m = n
  · subst h
    rw [bne_self_eq_false, cond_false] at s0
    rw [show (697 : Nat) = 696 + 1 from rfl, iter_step s0, show (696 : Nat) = 695 + 1 from rfl, iter_stop s, Option.bind_some, if_neg (by omega), if_pos rfl]
  · rw [show ((m : Int) != (n : Int)) = true by simp only [bne_iff_ne, ne_eq]; omega, cond_true] at s0
    by_cases hlt : m < n
    · rw [ct (by omega)] at s0
      rw [show (697 : Nat) = 696 + 1 from rfl, iter_stop s0, Option.bind_some, if_pos hlt]
    · rw [cf (by omega)] at s0
      rw [show (697 : Nat) = 696 + 1 from rfl, iter_stop s0, Option.bind_some, if_neg hlt, if_neg h]
/-- Two numbers with places compared. -/
theorem DCmp {m n s t : Nat} (hs : s ≤ 9) (ht : t ≤ 9) (hm : m < 1000000000) (hn : n < 1000000000) : dec_Cmp.f 700 (DN m s) (DN n t) = some (if m * 10 ^ (max s t - s) < n * 10 ^ (max s t - t) then -1 else if m * 10 ^ (max s t - s) = n * 10 ^ (max s t - t) then 0 else 1) := by
  unfold dec_Cmp.f
  have r1 := Right_DN (n := m) (by omega) hs
  have r2 := Right_DN (n := n) (by omega) ht
  have g1 := Sign_DN (n := m) (by omega) hs
  have g2 := Sign_DN (n := n) (by omega) ht
  have p1 := Nat.pow_le_pow_right (show 0 < 10 by decide) (show max s t - s ≤ 9 by omega)
  have p2 := Nat.pow_le_pow_right (show 0 < 10 by decide) (show max s t - t ≤ 9 by omega)
  have q1 : 0 < 10 ^ (max s t - s) := Nat.pow_pos (by decide)
  have q2 : 0 < 10 ^ (max s t - t) := Nat.pow_pos (by decide)
  have b1 : m * 10 ^ (max s t - s) < 18446744073709551616 := by have := Nat.mul_le_mul (show m ≤ 1000000000 by omega) p1; omega
  have b2 : n * 10 ^ (max s t - t) < 18446744073709551616 := by have := Nat.mul_le_mul (show n ≤ 1000000000 by omega) p2; omega
  have w1 := dwide (n := m) (s := s) (t := max s t) (by omega) (by omega) (by omega) (by omega) b1
  have w2 := dwide (n := n) (s := t) (t := max s t) (by omega) (by omega) (by omega) (by omega) b2
  have c := dcmp_eq b1 b2
  have hmax : (if (t : Int) > (s : Int) then (t : Int) else (s : Int)) = ((max s t : Nat) : Int) := by split <;> omega
  have z1 : m = 0 ↔ m * 10 ^ (max s t - s) = 0 := by rw [Nat.mul_eq_zero]; omega
  have z2 : n = 0 ↔ n * 10 ^ (max s t - t) = 0 := by rw [Nat.mul_eq_zero]; omega
  generalize m * 10 ^ (max s t - s) = M at *
  generalize n * 10 ^ (max s t - t) = N at *
  unfold DN at *
  dsimp only
  rw [r1, Option.bind_some, Bool.not_true, cond_false, r2, Option.bind_some, Option.bind_some]
  dsimp only
  rw [Bool.not_true, cond_false, g1, Option.bind_some, g2, Option.bind_some, hmax, w1, Option.bind_some, w2, Option.bind_some]
  dsimp only
  rw [c, Option.bind_some]
  by_cases hm0 : m = 0 <;> by_cases hn0 : n = 0
  · rw [if_pos hm0, if_pos hn0, bne_self_eq_false, cond_false, z1.1 hm0, z2.1 hn0]; rfl
  · rw [if_pos hm0, if_neg hn0, if_pos (show M < N by omega)]; rfl
  · rw [if_neg hm0, if_pos hn0, if_neg (show ¬ M < N by omega), if_neg (show ¬ M = N by omega)]; rfl
  · rw [if_neg hm0, if_neg hn0, bne_self_eq_false, cond_false]
    split
    · rfl
    · split <;> rfl
end Go.Proofs.Ythknecaigoilmaa.Pure
